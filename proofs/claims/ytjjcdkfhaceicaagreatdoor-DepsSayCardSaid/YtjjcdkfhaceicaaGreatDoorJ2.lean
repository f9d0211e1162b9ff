/- Texts of this claim, joined by a program: Row3, Map, Mut, Deep, Row4, Enc, EncD, Pool, DeepO, Num0, Num1, Num2, Num3, Num4, Dig, Pv, Rv, GRa, Rx, GRv, Ry, Dp. -/
import Derived.Test.YtjjcdkfhaceicaaGreatDoorJ1
import Derived.Maps.RangeRun
import Derived.Maps.Keyed
import Derived.Carry
import Derived.StringKeys

namespace Go.Proofs.YtjjcdkfhaceicaaGreatDoor
open Go Go.RowKit Go.WideShapes Go.ChangeShapes Go.ChangeAt Go.Joins Go.Deep
section
variable {H:Type} {enc:TypeId × Value→H} {P:Program} {w:World} {base:Nat} {spare:Nat→Bool} {held:Bool}
theorem fieldsOne {t:TypeId} {fs:Array Field} {fuel:Nat} {cs:List Value} {x:DataW H × List MemPlace} (ht:P.underlying t=some (.struct fs)) (hone:oneCellFields P fs=true) (h:DataW.trod enc P w base spare held fuel t cs=some x) :
  ∃ n,∀ i f,fs[i]?=some f→i<cs.length→∃ v y,cs[i]?=some v∧DataW.trod enc P w base spare held n f.type [v]=some y:=by
 obtain ⟨xs,n,_,_,hl,hlen,hf⟩:=DataW.trod_struct ht h
 refine ⟨n,fun i f hi hc=>?_⟩
 obtain ⟨h1,h2⟩:=hone_of hone i f hi
 have h3:=hf i f hi
 have hi':i<fs.size:=(Array.getElem?_eq_some_iff.1 hi).1
 rw [h1,h2,List.getElem?_eq_getElem (by omega)] at h3
 refine ⟨cs[i],xs[i],List.getElem?_eq_getElem hc,?_⟩
 have e:(cs.drop i).take 1=[cs[i]]:=by rw [List.drop_eq_getElem_cons hc]; rfl
 rwa [e] at h3
theorem cell_plain {a:Addr} {v:Value} (h:w.cell? a=some v):a.spot=none:=by
 unfold World.cell? at h
 split at h
 ·split at h
  ·cases h
  ·rename_i hs; simpa using hs
 ·cases h
theorem open_rdK {α:Type} [Inhabited α] {k:Nat} {f:α→List Value} {Q:α→Prop} {W:World} {b0:Nat} {t e:TypeId} {v:Value} {d:DataW H} {p:List MemPlace} (hf:OneK k f) (ht:P.underlying t=some (.slice e)) (hc:P.cellsOf e=k)
  (hE:∀ n cs y,DataW.trod enc P W 0 (fun _=>true) true n e cs=some y→cs.length=k→∃ x,cs=f x∧Q x)
  (hval:Value.okWide P W .any b0 t v) (h:DataW.Trod enc P W 0 (fun _=>true) true t v d p):∃ A c l,v=.slice A l.length c∧RdK k f W A c l∧∀ x∈l,Q x:=by
 obtain ⟨a0,len,cap,rfl⟩:=okWide_slice ht hval
 obtain ⟨fuel,hfu⟩:=h
 rcases open_slice ht hfu with ⟨hcs,hx⟩ | ⟨a,len',cap',m,n,D,Pl,hcs,_,hl,hm,hmm,_,hel⟩
 ·simp [Value.cells] at hcs
  obtain ⟨rfl,rfl,rfl⟩:=hcs
  exact ⟨none,0,[],rfl,⟨hf,by simp,by simp [maxLen],fun h=>absurd rfl h⟩,by simp⟩
 ·simp [Value.cells] at hcs
  obtain ⟨rfl,rfl,rfl⟩:=hcs
  simp only [if_true] at hmm
  subst hmm
  have each:∀ i,i<m→∃ x:α,Q x∧∀ j,j<k→W.cell? ((a.add (i*k)).add j)=(f x)[j]?:=fun i hi=>by
   obtain ⟨cs',h1,h2⟩:=hel i hi
   rw [hc] at h1
   obtain ⟨_,hlen,hcell⟩:=World.cells?_some h1
   obtain ⟨x,hx,hq⟩:=hE n cs' _ h2 hlen
   exact ⟨x,hq,fun j hj=>by rw [hcell j hj,hx]⟩
  obtain ⟨q,hq⟩:=choose_lt each
  have hll:((List.range len).map q).length=len:=by simp
  refine ⟨some a,m,(List.range len).map q,by rw [hll],⟨hf,by rw [hll]; exact hl,hm,fun hne=>?_⟩,fun x hx=>?_⟩
  ·have h0:0<len:=by
    rcases Nat.eq_zero_or_pos len with h | h
    ·subst h; simp at hne
    ·exact h
   have hcell0:=(hq 0 (by omega)).2 0 hf.pos
   rw [Nat.zero_mul] at hcell0
   have hs:a.spot=none:=by
    have h2:(f (q 0))[0]?=some ((f (q 0))[0]'(by rw [hf.len]; exact hf.pos)):=List.getElem?_eq_getElem _
    rw [h2] at hcell0
    have:=cell_plain hcell0
    simpa [Addr.add] using this
   obtain ⟨g,o,s⟩:=a
   dsimp only at hs
   subst hs
   refine ⟨g,o,rfl,fun j x i u hj hi=>?_⟩
   have hjl:j<len:=by
    rcases Nat.lt_or_ge j len with h | h
    ·exact h
    ·rw [List.getElem?_eq_none (by rw [hll]; exact h)] at hj; cases hj
   have hxe:x=q j:=by
    rw [List.getElem?_map,List.getElem?_range hjl] at hj
    simpa using hj.symm
   subst hxe
   have hik:i<k:=by
    have:=(List.getElem?_eq_some_iff.1 hi).1
    rwa [hf.len] at this
   have:=(hq j (by omega)).2 i hik
   rw [hi,Addr.add_mid,Addr.add_mid] at this
   rw [←this]
   congr 2
   omega
  ·obtain ⟨i,hi,rfl⟩:=List.mem_map.1 hx
   exact (hq i (by have:=List.mem_range.1 hi; omega)).1
end
end Go.Proofs.YtjjcdkfhaceicaaGreatDoor
 
namespace Go.Proofs.YtjjcdkfhaceicaaGreatDoor
open Go Go.RowKit Go.MapKept Go.ChangeMaps
open Go.Maps (Keyed)
section
variable {κ ν:Type} [DecidableEq κ]
def mget:List (κ × ν)→κ→Option ν
 | [],_=>none
 | p :: m,k=>if p.1=k then some p.2 else mget m k
def mput:List (κ × ν)→κ→ν→List (κ × ν)
 | [],k,v=>[(k,v)]
 | p :: m,k,v=>if p.1=k then (k,v) :: m else p :: mput m k v
def Uq (m:List (κ × ν)):Prop:=(m.map (·.1)).Nodup
theorem mget_none {m:List (κ × ν)} {k:κ}:mget m k=none↔∀ p∈m,p.1≠k:=by
 induction m with
 | nil=>simp [mget]
 | cons p m ih =>
  unfold mget
  split
  ·rename_i h; simp [h]
  ·rename_i h; rw [ih]; simp [h]
theorem mget_mput (m:List (κ × ν)) (k k':κ) (v:ν):mget (mput m k v) k'=if k=k' then some v else mget m k':=by
 induction m with
 | nil=>simp [mget,mput]
 | cons p m ih =>
  unfold mput
  split
  ·rename_i h
   subst h
   unfold mget
   split <;> simp_all
  ·rename_i h
   unfold mget
   rw [ih]
   split
   ·rename_i h2
    subst h2
    rw [if_neg (Ne.symm h)]
   ·rfl
theorem mput_new {m:List (κ × ν)} {k:κ} {v:ν} (h:mget m k=none):mput m k v=m++[(k,v)]:=by
 induction m with
 | nil=>rfl
 | cons p m ih =>
  unfold mget at h
  split at h
  ·cases h
  ·rename_i hne
   unfold mput
   rw [if_neg hne,ih h]
   rfl
theorem mput_set {m:List (κ × ν)} {k:κ} {v v0:ν} {j:Nat} (hu:Uq m) (h:m[j]?=some (k,v0)):mput m k v=m.set j (k,v):=by
 induction m generalizing j with
 | nil=>simp at h
 | cons p m ih =>
  have hu':=List.nodup_cons.1 hu
  cases j with
  | zero =>
   simp only [List.getElem?_cons_zero,Option.some.injEq] at h
   subst h
   simp [mput]
  | succ j =>
   simp only [List.getElem?_cons_succ] at h
   have hne:p.1≠k:=fun e=>hu'.1 (List.mem_map.2 ⟨(k,v0),List.mem_of_getElem? h,e.symm⟩)
   unfold mput
   rw [if_neg hne,ih hu'.2 h]
   rfl
theorem mget_mem {m:List (κ × ν)} {k:κ} {v:ν} (hu:Uq m):mget m k=some v↔(k,v)∈m:=by
 induction m with
 | nil=>simp [mget]
 | cons p m ih =>
  have hu':=List.nodup_cons.1 hu
  unfold mget
  split
  ·rename_i h
   subst h
   rw [Option.some.injEq,List.mem_cons]
   constructor
   ·rintro rfl; exact .inl rfl
   ·rintro (h | h)
    ·exact (congrArg Prod.snd h).symm
    ·exact absurd (List.mem_map.2 ⟨_,h,rfl⟩) hu'.1
  ·rename_i h
   rw [ih hu'.2,List.mem_cons]
   constructor
   ·exact .inr
   ·rintro (h2 | h2)
    ·exact absurd (congrArg Prod.fst h2).symm h
    ·exact h2
theorem mput_mem {m:List (κ × ν)} {k:κ} {v:ν} {p:κ × ν} (h:p∈mput m k v):p=(k,v)∨p∈m:=by
 induction m with
 | nil=>simp [mput] at h; exact .inl h
 | cons q m ih =>
  unfold mput at h
  split at h
  ·rcases List.mem_cons.1 h with h | h
   ·exact .inl h
   ·exact .inr (List.mem_cons_of_mem _ h)
  ·rcases List.mem_cons.1 h with h | h
   ·exact .inr (by rw [h]; exact List.mem_cons_self)
   ·rcases ih h with h | h
    ·exact .inl h
    ·exact .inr (List.mem_cons_of_mem _ h)
theorem mput_keys (m:List (κ × ν)) (k:κ) (v:ν):(mput m k v).map (·.1)=if (mget m k).isSome then m.map (·.1) else m.map (·.1)++[k]:=by
 induction m with
 | nil=>simp [mget,mput]
 | cons p m ih =>
  unfold mput mget
  split
  ·rename_i h; simp [h]
  ·rw [List.map_cons,ih,List.map_cons]
   split <;> rfl
theorem Uq.put {m:List (κ × ν)} (h:Uq m) (k:κ) (v:ν):Uq (mput m k v):=by
 unfold Uq at *
 rw [mput_keys]
 split
 ·exact h
 ·rename_i hn
  have:mget m k=none:=by simpa using hn
  rw [List.nodup_append]
  refine ⟨h,by simp,fun a ha b hb=>?_⟩
  obtain ⟨p,hp,rfl⟩:=List.mem_map.1 ha
  simp only [List.mem_cons,List.not_mem_nil,or_false] at hb
  subst hb
  exact mget_none.1 this p hp
end
structure KeyF {κ:Type} (P:Program) (k:TypeId) (fk:κ→Value) (ok:κ→Prop):Prop where
 check:∀ (w:World) (em:Bool) (x:κ),ok x→(Instr.checkKey em 10000 k (fk x)).run P w=.ok () w
 find:∀ (w:World) (x:κ),ok x→∀ es:List MapEntry,(∀ e∈es,∃ y,ok y∧e.key=fk y) →
  ((Instr.findKey k (fk x) es).run P w=.ok none w∧∀ e∈es,e.key≠fk x)∨∃ j e,(Instr.findKey k (fk x) es).run P w=.ok (some (j,e.val)) w∧es[j]?=some e∧e.key=fk x
 stays:∀ (w:World) (x:κ),ok x→(Instr.keyThatStays (fk x) (fk x)).run P w=.ok (fk x) w
 inj:∀ x y,ok x→ok y→fk x=fk y→x=y
structure KeyW {κ:Type} (P:Program) (k:TypeId) (fk:κ→Value) (ok:κ→Prop) (w:World):Prop where
 check:∀ (em:Bool) (x:κ),ok x→(Instr.checkKey em 10000 k (fk x)).run P w=.ok () w
 find:∀ (x:κ),ok x→∀ es:List MapEntry,(∀ e∈es,∃ y,ok y∧e.key=fk y) →
  ((Instr.findKey k (fk x) es).run P w=.ok none w∧∀ e∈es,e.key≠fk x)∨∃ j e,(Instr.findKey k (fk x) es).run P w=.ok (some (j,e.val)) w∧es[j]?=some e∧e.key=fk x
 stays:∀ (x:κ),ok x→(Instr.keyThatStays (fk x) (fk x)).run P w=.ok (fk x) w
 inj:∀ x y,ok x→ok y→fk x=fk y→x=y
theorem KeyF.at {κ:Type} {P:Program} {k:TypeId} {fk:κ→Value} {ok:κ→Prop} (K:KeyF P k fk ok) (w:World):KeyW P k fk ok w:=⟨K.check w,K.find w,K.stays w,K.inj⟩
theorem KeyF.of {κ:Type} {P:Program} {k:TypeId} {fk:κ→Value} {ok:κ→Prop} (K:Keyed P k) (key:∀ x,ok x→∃ l,keyOf P k (fk x)=some l) (inj:∀ x y,ok x→ok y→fk x=fk y→x=y):KeyF P k fk ok where
 check w em x hx:=by obtain ⟨l,hl⟩:=key x hx; exact K.check w em hl
 find w x hx es he:=by
  obtain ⟨l,hl⟩:=key x hx
  refine K.find w hl es fun e he'=>?_
  obtain ⟨y,hy,e'⟩:=he e he'
  obtain ⟨l',hl'⟩:=key y hy
  exact ⟨l',by rw [e']; exact hl'⟩
 stays w x hx:=by obtain ⟨l,hl⟩:=key x hx; exact K.stays w hl
 inj:=inj
def okS (s:List UInt8):Prop:=s.length≤maxLen
theorem keyF_s {P:Program} {k:TypeId} (h:P.underlying k=some .string):KeyF P k vs okS :=
 KeyF.of (Go.Maps.string_keyed h) (fun x hx=>⟨_,Go.WideMaps.keyOf_string_mk h (s:=⟨⟨x⟩⟩) hx⟩) (fun x y _ _ h=>by unfold vs at h; injection h with h; injection h with h; injection h)
def MapB {κ ν:Type} (fk:κ→Value) (ok:κ→Prop) (fv:ν→Value) (w:World) (b:Nat) (m:List (κ × ν)):Prop :=
 ∃ es clock,w.heap[b]?=some (.map es clock)∧Stamped es clock∧es.size≤maxLen∧(∀ p∈m,ok p.1)∧es.toList.map (fun e=>(e.key,e.val))=m.map fun p=>(fk p.1,fv p.2)
section
variable {κ ν:Type} {P:Program} {k e t:TypeId} {fk:κ→Value} {ok:κ→Prop} {fv:ν→Value} {w w':World} {b:Nat} {m:List (κ × ν)} {row:Option Nat}
theorem MapB.lt (h:MapB fk ok fv w b m):b<w.heap.size:=by
 obtain ⟨es,clock,hb,_⟩:=h
 exact (Array.getElem?_eq_some_iff.1 hb).1
theorem MapB.lt' (h:MapB fk ok fv w b m):Lt (some b) w.heap.size:=Lt.box h.lt
theorem MapB.go (h:MapB fk ok fv w b m) (hg:w.grownBy w' row) (hd:Dj (some b) row):MapB fk ok fv w' b m:=by
 have hlt:=h.lt
 obtain ⟨es,clock,hb,r⟩:=h
 exact ⟨es,clock,(hg.block b hlt (fun e=>hd b rfl e.symm)).trans hb,r⟩
theorem MapB.g0 (h:MapB fk ok fv w b m) (hg:w.grownBy w' none):MapB fk ok fv w' b m:=h.go hg Dj.nr
theorem MapB.eqv (hw:Eqv w w') (h:MapB fk ok fv w b m):MapB fk ok fv w' b m:=h.g0 (zq (zN w none) hw)
theorem MapB.len (h:MapB fk ok fv w b m):m.length≤maxLen:=by
 obtain ⟨es,clock,_,_,hs,_,he⟩:=h
 have:=congrArg List.length he
 simp at this
 omega
theorem MapB.uq (h:MapB fk ok fv w b m):Uq m:=by
 obtain ⟨es,clock,_,hst,_,_,he⟩:=h
 have h1:es.toList.map (·.key)=(m.map (·.1)).map fk:=by
  have:=congrArg (List.map Prod.fst) he
  simpa [Function.comp_def] using this
 have h2:=hst.2.2
 rw [h1] at h2
 unfold Uq
 rw [List.nodup_iff_pairwise_ne,List.pairwise_map] at h2
 rw [List.nodup_iff_pairwise_ne]
 exact h2.imp fun h e=>h (by rw [e])
variable [DecidableEq κ]
theorem MapB.find {es:Array MapEntry} {w:World} (K:KeyW P k fk ok w) (hst:Uq m) (hok:∀ p∈m,ok p.1) (he:es.toList.map (fun e=>(e.key,e.val))=m.map fun p=>(fk p.1,fv p.2)) {q:κ} (hq:ok q) :
  ((Instr.findKey k (fk q) es.toList).run P w=.ok none w∧mget m q=none∧∀ x∈es.toList,x.key≠fk q)∨∃ j v e0,(Instr.findKey k (fk q) es.toList).run P w=.ok (some (j,fv v)) w∧mget m q=some v∧m[j]?=some (q,v)∧es.toList[j]?=some e0∧e0.key=fk q:=by
 have hget:∀ (j:Nat),(es.toList[j]?).map (fun e=>(e.key,e.val))=(m[j]?).map fun p=>(fk p.1,fv p.2):=fun j=>by
  have:=congrArg (fun l=>l[j]?) he
  simpa using this
 rcases K.find q hq es.toList (fun e he'=>by
  obtain ⟨j,hj,rfl⟩:=List.getElem_of_mem he'
  have h1:=hget j
  rw [List.getElem?_eq_getElem hj] at h1
  simp only [Option.map_some] at h1
  obtain ⟨p,hp,hpe⟩:=Option.map_eq_some_iff.1 h1.symm
  exact ⟨p.1,hok p (List.mem_of_getElem? hp),(congrArg Prod.fst hpe).symm⟩) with ⟨h1,h2⟩ | ⟨j,e0,h1,h2,h3⟩
 ·refine .inl ⟨h1,mget_none.2 fun p hp hpq=>?_,h2⟩
  obtain ⟨j,hj,rfl⟩:=List.getElem_of_mem hp
  have h4:=hget j
  rw [List.getElem?_eq_getElem hj] at h4
  simp only [Option.map_some] at h4
  obtain ⟨x,hx,hxe⟩:=Option.map_eq_some_iff.1 h4
  have h5:x.key=fk m[j].1:=congrArg Prod.fst hxe
  exact h2 x (List.mem_of_getElem? hx) (by rw [h5,hpq])
 ·have h4:=hget j
  rw [h2] at h4
  simp only [Option.map_some] at h4
  obtain ⟨p,hp,hpe⟩:=Option.map_eq_some_iff.1 h4.symm
  have hpq:p.1=q:=K.inj _ _ (hok p (List.mem_of_getElem? hp)) hq ((congrArg Prod.fst hpe).trans h3)
  have hpv:fv p.2=e0.val:=congrArg Prod.snd hpe
  refine .inr ⟨j,p.2,e0,by rw [hpv]; exact h1,(mget_mem hst).2 (by rw [←hpq]; exact List.mem_of_getElem? hp),by rw [hp,←hpq],h2,h3⟩
theorem MapB.run_look (K:KeyW P k fk ok w) (h:MapB fk ok fv w b m) (ht:P.underlying t=some (.map k e)) {z:ν} (hz:(zeroValue e).run P w=.ok (fv z) w) {q:κ} (hq:ok q) (c:Bool) :
  (Instr.lookup t (.map (some b)) (fk q) c).run P w=.ok (if c then .tuple #[fv ((mget m q).getD z),.bool (mget m q).isSome] else fv ((mget m q).getD z)) w:=by
 have hu:=h.uq
 obtain ⟨es,clock,hb,hst,hs,hok,he⟩:=h
 rcases MapB.find K hu hok he hq with ⟨h1,h2,_⟩ | ⟨j,v,e0,h1,h2,_⟩
 ·cases c <;> simp [Instr.lookup,run_underlying ht,MapKept.run_getObj_map hb,K.check _ q hq,h1,h2,hz,Result.andThen]
 ·cases c <;> simp [Instr.lookup,run_underlying ht,MapKept.run_getObj_map hb,K.check _ q hq,h1,h2,Result.andThen]
theorem MapB.run_put (K:KeyW P k fk ok w) (h:MapB fk ok fv w b m) (ht:P.underlying t=some (.map k e)) (hn:m.length<maxLen) {q:κ} (hq:ok q) (v:ν) :
  ∃ w',(Instr.mapUpdate t (.map (some b)) (fk q) (fv v)).run P w=.ok () w'∧MapB fk ok fv w' b (mput m q v)∧w.grownBy w' (some b):=by
 have hu:=h.uq
 obtain ⟨es,clock,hb,hst,hs,hok,he⟩:=h
 have hlen:es.size=m.length:=by have:=congrArg List.length he; simpa using this
 have hok':∀ p∈mput m q v,ok p.1:=fun p hp=>by
  rcases mput_mem hp with rfl | hp
  ·exact hq
  ·exact hok p hp
 have hgr:∀ o,w.grownBy (setBlock w b o) (some b):=fun o=>⟨rfl,rfl,rfl,by simp [setBlock],fun i _ hi=>heap_setBlock_other hb _ (fun e=>hi (by rw [e]))⟩
 rcases MapB.find K hu hok he hq with ⟨h1,h2,h3⟩ | ⟨j,v0,e0,h1,h2,h3,h4,h5⟩
 ·refine ⟨setBlock w b (.map (es.push ⟨fk q,fv v,clock⟩) (clock+1)),?_,⟨es.push ⟨fk q,fv v,clock⟩,clock+1,heap_setBlock_same hb _,stamped_push hst h3,by simp; omega,hok',?_⟩,hgr _⟩
  ·simp [Instr.mapUpdate,run_underlying ht,MapKept.run_getObj_map hb,K.check false q hq,h1,MapKept.run_setObj_map _ hb,Result.andThen,setBlock]
  ·rw [mput_new h2,Array.toList_push,List.map_append,List.map_append,he]
   rfl
 ·have hj:es[j]?=some e0:=by simpa using h4
  have hkeyf:∀ e',es[j]?=some e'→({ e' with key:=fk q,val:=fv v }:MapEntry).key=e'.key:=fun e' he'=>by rw [hj] at he'; cases he'; exact h5.symm
  have hlist:(es.modify j (fun e'=>{ e' with key:=fk q,val:=fv v })).toList=es.toList.set j { e0 with key:=fk q,val:=fv v }:=by rw [Array.toList_modify,modify_eq_set _ _ _ _ h4]
  refine ⟨setBlock w b (.map (es.modify j (fun e'=>{ e' with key:=fk q,val:=fv v })) clock),?_,⟨es.modify j (fun e'=>{ e' with key:=fk q,val:=fv v }),clock,heap_setBlock_same hb _,stamped_modify hst _ _ (fun _ _=>rfl) (fun e' _ he'=>hkeyf e' he'),by simpa using hs,hok',?_⟩,hgr _⟩
  ·simp [Instr.mapUpdate,run_underlying ht,MapKept.run_getObj_map hb,K.check false q hq,h1,hj,h5,K.stays q hq,MapKept.run_setObj_map _ hb,Result.andThen,setBlock]
  ·rw [hlist,mput_set hu h3,List.map_set,List.map_set,he]
section
end
 omit [DecidableEq κ] in
theorem MapB.made (w:World) (fk:κ→Value) (ok:κ→Prop) (fv:ν→Value):MapB fk ok fv (w.alloc (.map #[] 0)) w.heap.size ([]:List (κ × ν)) :=
  ⟨#[],0,(MapKept.heap_alloc w _).1,stamped_empty 0,by simp,by simp,rfl⟩
variable {N:Nat} {L:zh} {ty:TypeId} {pos:String} {af:Array Edge} {dd:Option Tmp} {x y u:Operand}
theorem Yld.look (hK:KeyF P k fk ok) (ht:P.underlying t=some (.map k e)) {z:ν} (hz:∀ w,(zeroValue e).run P w=.ok (fv z) w) (hm:MapB fk ok fv w b m) (hx:opv L x=some (.map (some b))) {q:κ} (hy:opv L y=some (fk q)) (hq:ok q) :
  Yld P N w ⟨dd,.lookup t x y false,ty,pos,af,none⟩ L (fv ((mget m q).getD z)):=fun a w1 hw ha=>by
 unfold execOp
 simp [ha.ev hx,ha.ev hy,(MapB.eqv hw hm).run_look (hK.at w1) ht (hz w1) hq false]
section
end
 omit [DecidableEq κ] in
theorem Eff.makeMap (fk:κ→Value) (ok:κ→Prop) (fv:ν→Value):Eff P N w ⟨dd,.makeMap t none,ty,pos,af,none⟩ L fun v w'=>v=.map (some w.heap.size)∧MapB fk ok fv w' w.heap.size ([]:List (κ × ν))∧w.grownBy w' none:=fun a w1 hw ha=>by
  refine ⟨_,w1.alloc (.map #[] 0),?_,rfl,?_,eqv_gr hw (gr_alloc w1 _ none)⟩
  · unfold execOp
    simp [run_makeMap]
    rw [hw.heap]
  · have:=MapB.made w1 fk ok fv
    rwa [hw.heap] at this
theorem Ef0.mapPut (hK:KeyF P k fk ok) (ht:P.underlying t=some (.map k e)) (hm:MapB fk ok fv w b m) (hn:m.length<maxLen) (hx:opv L x=some (.map (some b))) {q:κ} (hy:opv L y=some (fk q)) (hq:ok q) {v:ν} (hu:opv L u=some (fv v)) :
  Ef0 P N w ⟨none,.mapUpdate t x y u,ty,pos,af,none⟩ L fun w'=>MapB fk ok fv w' b (mput m q v)∧w.grownBy w' (some b):=fun a w1 hw ha=>by
 obtain ⟨w',h1,h2,h3⟩:=(MapB.eqv hw hm).run_put (hK.at w1) ht hn hq v
 refine ⟨w',?_,h2,eqv_gr hw h3⟩
 unfold execOp
 simp [ha.ev hx,ha.ev hy,ha.ev hu,h1]
theorem WL.ef0 {ops:Array Oper} {Q:Post} {rest:List Oper} {op:Op} {R:World→Prop} (hr:Ef0 P N w ⟨none,op,ty,pos,af,none⟩ L R) (hk:∀ w',R w'→WL P N ops Q rest L w'):WL P N ops Q (⟨none,op,ty,pos,af,none⟩ :: rest) L w:=WL.eff hr hk
end
end Go.Proofs.YtjjcdkfhaceicaaGreatDoor
 
namespace Go.Proofs.YtjjcdkfhaceicaaGreatDoor
open Go Go.RowKit
structure GrL (ps:List (Option Nat)) (w w':World):Prop where
 os:w'.os=w.os
 tape:w'.tape=w.tape
 output:w'.output=w.output
 size:w.heap.size≤w'.heap.size
 block:∀ i,i<w.heap.size→(∀ p,List.Mem p ps→p≠some i)→w'.heap[i]?=w.heap[i]?
def AllP (Q:Option Nat→Prop) (ps:List (Option Nat)):Prop:=∀ p,List.Mem p ps→Q p
theorem apN {Q:Option Nat→Prop}:AllP Q []:=fun _ h=>by cases h
theorem apC {Q:Option Nat→Prop} {p:Option Nat} {ps:List (Option Nat)} (h:Q p) (t:AllP Q ps):AllP Q (p :: ps):=fun x hx=>by
 cases hx with
 | head=>exact h
 | tail _ hx=>exact t x hx
def InP (ps:List (Option Nat)) (n:Nat) (p:Option Nat):Prop:=∀ g,p=some g→n≤g∨List.Mem (some g) ps
section
variable {ps qs:List (Option Nat)} {p p' q row:Option Nat} {n m:Nat} {a b c w w':World}
theorem InP.ge (h:Ge p n):InP ps n p:=fun g hg=>.inl (h g hg)
theorem InP.mem (h:List.Mem p ps):InP ps n p:=fun _ hg=>.inr (hg ▸ h)
theorem InP.none:InP ps n none:=fun _ h=>by cases h
theorem InP.app (h:InP ps n p) (k:∀ g,p'=some g→p=some g∨m≤g) (hm:n≤m):InP ps n p':=fun g hg=>by
 rcases k g hg with h1 | h1
 ·exact h g h1
 ·exact .inl (Nat.le_trans hm h1)
theorem InP.trans (h:InP qs m p) (k:AllP (InP ps n) qs) (hm:n≤m):InP ps n p:=fun g hg=>by
 rcases h g hg with h1 | h1
 ·exact .inl (Nat.le_trans hm h1)
 ·exact k _ h1 g rfl
theorem InP.toGe (h:InP qs m p) (k:AllP (fun q=>Ge q n) qs) (hm:n≤m):Ge p n:=fun g hg=>by
 rcases h g hg with h1 | h1
 ·exact Nat.le_trans hm h1
 ·exact k _ h1 g rfl
theorem InP.dj (h:InP qs m p) (hq:Lt q m) (k:AllP (Dj q) qs):Dj p q:=fun g hg hqg=>by
 rcases h g hg with h1 | h1
 ·have:=hq g hqg; omega
 ·exact k _ h1 g hqg rfl
theorem InP.dn {α:Type} {xs:List α} (h:InP qs m p) (hq:xs≠[]→Lt q m) (k:AllP (Dn xs q) qs):Dn xs q p:=fun hx g hqg hg=>by
 rcases h g hg with h1 | h1
 ·have:=hq hx g hqg; omega
 ·exact k _ h1 hx g hqg rfl
theorem GrL.refl (w:World):GrL ps w w:=⟨rfl,rfl,rfl,Nat.le_refl _,fun _ _ _=>rfl⟩
theorem GrL.of0 (h:w.grownBy w' none):GrL ps w w':=⟨h.os,h.tape,h.output,h.size,fun i hi _=>h.block i hi (by simp)⟩
theorem GrL.of1 (h:w.grownBy w' row):GrL [row] w w':=⟨h.os,h.tape,h.output,h.size,fun i hi k=>h.block i hi fun e=>k row (List.Mem.head _) e.symm⟩
theorem GrL.toL (h:GrL [] w w'):w.grownBy w' none:=⟨h.os,h.tape,h.output,h.size,fun i hi _=>h.block i hi fun _ hp=>by cases hp⟩
theorem GrL.trans (h:GrL ps a b) (k:GrL ps b c):GrL ps a c :=
 ⟨k.os.trans h.os,k.tape.trans h.tape,k.output.trans h.output,Nat.le_trans h.size k.size,fun i hi hp=>(k.block i (Nat.lt_of_lt_of_le hi h.size) hp).trans (h.block i hi hp)⟩
theorem GrL.modL (h:GrL ps a b) (k:GrL qs b c) (hi:AllP (InP ps a.heap.size) qs):GrL ps a c :=
 ⟨k.os.trans h.os,k.tape.trans h.tape,k.output.trans h.output,Nat.le_trans h.size k.size,fun i hl hp=>(k.block i (Nat.lt_of_lt_of_le hl h.size) fun q hq e=>by
  rcases hi q hq i e with h1 | h1
  ·omega
  ·exact hp _ h1 rfl).trans (h.block i hl hp)⟩
theorem GrL.mod (h:GrL ps a b) (k:b.grownBy c row) (hi:InP ps a.heap.size row):GrL ps a c:=h.modL (GrL.of1 k) (apC hi apN)
theorem GrL.add0 (h:GrL ps a b) (k:b.grownBy c none):GrL ps a c:=h.trans (GrL.of0 k)
theorem gr_modL (h:a.grownBy b none) (k:GrL qs b c) (hi:AllP (fun q=>Ge q a.heap.size) qs):a.grownBy c none :=
 (GrL.modL (ps:=[]) (GrL.of0 h) k fun q hq=>InP.ge (hi q hq)).toL
theorem GrL.eqv (h:GrL ps a b) (k:Eqv b c):GrL ps a c:=h.add0 (zq (zN b none) k)
theorem GrL.sizeL (h:GrL ps a b):a.heap.size≤b.heap.size:=h.size
theorem GrL.cell (h:GrL ps w w') {ad:Addr} {v:Value} (hc:w.cell? ad=some v) (hp:∀ p,List.Mem p ps→p≠some ad.block):w'.cell? ad=some v:=by
 have hlt:=World.block_lt_of_cell? w _ hc
 have:=h.block ad.block hlt hp
 unfold World.cell? at hc ⊢
 rw [this]; exact hc
variable {α:Type} {f:α→Value} {A:Option Addr} {B cc g k:Nat} {xs:List α} {e:TypeId} {us:List Value} {fk:α→List Value}
theorem Bl.goL (h:Bl w g e us) (hg:GrL ps w w') (hd:AllP (Dj (some g)) ps):Bl w' g e us:=(hg.block g h.lt fun p hp e=>hd p hp g rfl e).trans h
theorem Rd.goL (h:Rd f w A cc xs) (hg:GrL ps w w') (hd:AllP (Dn xs (blk A)) ps):Rd f w' A cc xs :=
 ⟨h.cap,h.max,fun hx=>by
  obtain ⟨ad,rfl,hc⟩:=h.cells hx
  refine ⟨ad,rfl,fun j x hj=>hg.cell (hc j x hj) fun p hp e=>?_⟩
  rw [addr_block] at e
  exact hd p hp hx ad.block rfl e⟩
theorem RdK.goL (h:RdK k fk w A cc xs) (hg:GrL ps w w') (hd:AllP (Dn xs (blk A)) ps):RdK k fk w' A cc xs :=
 ⟨h.ok,h.cap,h.max,fun hx=>by
  obtain ⟨g',o,rfl,hc⟩:=h.cells hx
  refine ⟨g',o,rfl,fun j x i u hj hi=>hg.cell (hc j x i u hj hi) fun p hp e=>?_⟩
  exact hd p hp hx g' rfl e⟩
theorem Own.goL (h:Own f w B e A cc xs) (hg:GrL ps w w') (hd:AllP (Dj (blk A)) ps):Own f w' B e A cc xs:=by
 have hlt:=h.lt'
 unfold Own at h ⊢
 refine ⟨h.1,?_⟩
 rcases h.2 with h2 | ⟨g,cap,cur,hv,hb,hg',r⟩
 ·exact .inl h2
 ·refine .inr ⟨g,cap,cur,hv,hb,?_,r⟩
  simp only [Value.slice.injEq] at hv
  obtain ⟨rfl,_⟩:=hv
  exact (hg.block g (hlt g rfl) fun p hp e=>hd p hp g rfl e).trans hg'
theorem OwnK.goL (h:OwnK k fk w B e A cc xs) (hg:GrL ps w w') (hd:AllP (Dj (blk A)) ps):OwnK k fk w' B e A cc xs:=by
 have hlt:=h.lt'
 refine ⟨h.1,h.2.1,?_⟩
 rcases h.2.2 with h2 | ⟨g,cap,cur,hv,hb,hg',r⟩
 ·exact .inl h2
 ·refine .inr ⟨g,cap,cur,hv,hb,?_,r⟩
  simp only [Value.slice.injEq] at hv
  obtain ⟨rfl,_⟩:=hv
  exact (hg.block g (hlt g rfl) fun p hp e=>hd p hp g rfl e).trans hg'
theorem MapB.goL {κ ν:Type} {mk:κ→Value} {ok:κ→Prop} {fv:ν→Value} {mm:List (κ × ν)} (h:MapB mk ok fv w g mm) (hg:GrL ps w w') (hd:AllP (Dj (some g)) ps):MapB mk ok fv w' g mm:=by
 have hlt:=h.lt
 obtain ⟨es,clock,hb,r⟩:=h
 exact ⟨es,clock,(hg.block g hlt (fun p hp e=>hd p hp g rfl e)).trans hb,r⟩
variable {S:List Nat}
def GB (S:List Nat) (B:Nat) (w:World):Prop:=∃ W,GOK S W∧W.heap.size≤B∧Below W.heap.size W w
theorem GB.ok (h:GB S B w):GOK S w:=by
 obtain ⟨W,h1,_,h3⟩:=h
 exact h1.grown (gr_below h3 none)
theorem GB.of (h:GOK S w):GB S w.heap.size w:=⟨w,h,Nat.le_refl _,Below.refl _ _⟩
theorem belowL {W:World} {n:Nat} (h3:Below n W w) (hn:n≤B) (hg:GrL ps w w') (hp:AllP (fun p=>Ge p B) ps) (hW:n≤W.heap.size):Below n W w':=by
 refine ⟨hg.os.trans h3.os,hg.tape.trans h3.tape,hg.output.trans h3.output,Nat.le_trans h3.size hg.size,fun i hi=>?_⟩
 refine (hg.block i (Nat.lt_of_lt_of_le (Nat.lt_of_lt_of_le hi hW) h3.size) fun p hm e=>?_).trans (h3.block i hi)
 have:=hp p hm i e
 omega
theorem GB.goL (h:GB S B w) (hg:GrL ps w w') (hp:AllP (fun p=>Ge p B) ps):GB S B w':=by
 obtain ⟨W,h1,h2,h3⟩:=h
 exact ⟨W,h1,h2,belowL h3 h2 hg hp (Nat.le_refl _)⟩
theorem GB.g0 (h:GB S B w) (hg:w.grownBy w' none):GB S B w':=h.goL (ps:=[]) (GrL.of0 hg) apN
theorem GB.mono {B':Nat} (h:GB S B w) (hB:B≤B'):GB S B' w:=by
 obtain ⟨W,h1,h2,h3⟩:=h
 exact ⟨W,h1,Nat.le_trans h2 hB,h3⟩
theorem GB.grown {W:World} (h:GOK S W) (hg:W.grownBy w none):GB S W.heap.size w:=⟨W,h,Nat.le_refl _,below_gr hg⟩
def NoAt (w:World) (p:Option Nat):Prop:=∀ g us,p=some g→¬ Bl w g 302 us
theorem NoAt.bl (h:Bl w g e us) (ht:Nat.beq e 302=false):NoAt w (some g):=fun g' us' hg' hB=>by
 cases hg'
 exact Bl.ne h hB (Nat.ne_of_beq_eq_false ht) rfl
theorem NoAt.own (h:Own f w B e A cc xs) (ht:Nat.beq e 302=false):NoAt w (blk A):=fun g' us' hg' hB=>by
 rcases h.2 with ⟨hv,_⟩ | ⟨g,cap,cur,hv,_,hb,_⟩
 ·simp only [Value.slice.injEq] at hv
  obtain ⟨rfl,_⟩:=hv
  cases hg'
 ·simp only [Value.slice.injEq] at hv
  obtain ⟨rfl,_⟩:=hv
  cases hg'
  exact Bl.ne (us:=cur.toList) hb hB (Nat.ne_of_beq_eq_false ht) rfl
theorem NoAt.map {κ ν:Type} {mk:κ→Value} {ok:κ→Prop} {fv:ν→Value} {mm:List (κ × ν)} (h:MapB mk ok fv w g mm):NoAt w (some g):=fun g' us' hg' hB=>by
 cases hg'
 obtain ⟨es,clock,hb,_⟩:=h
 unfold Bl at hB
 rw [hb] at hB
 cases hB
end
end Go.Proofs.YtjjcdkfhaceicaaGreatDoor
 
namespace Go.Proofs.YtjjcdkfhaceicaaGreatDoor
open Go Go.RowKit
structure Hdr where
 A:Option Addr
 n:Nat
 c:Nat
def hd0:Hdr:=⟨none,0,0⟩
def vh (h:Hdr):Value:=.slice h.A h.n h.c
theorem One.h:One vh:=fun _=>rfl
structure DE (H X:Type) where
 rel:World→H→X→Prop
 dn:H→X→Option Nat→Prop
 goL:∀ {w w':World} {h:H} {x:X} {ps:List (Option Nat)},rel w h x→GrL ps w w'→AllP (dn h x) ps→rel w' h x
 new:∀ {w:World} {h:H} {x:X} {p:Option Nat},rel w h x→Ge p w.heap.size→dn h x p
 app:∀ {w:World} {h:H} {x:X} {ps:List (Option Nat)} {p:Option Nat},rel w h x→AllP (dn h x) ps→InP ps w.heap.size p→dn h x p
def DE.flat (X:Type):DE X X where
 rel _ h x:=h=x
 dn _ _ _:=True
 goL h _ _:=h
 new _ _:=trivial
 app _ _ _:=trivial
def DE.sl {α:Type} (f:α→Value):DE Hdr (List α) where
 rel w h x:=h.n=x.length∧Rd f w h.A h.c x
 dn h x p:=Dn x (blk h.A) p
 goL h k a:=⟨h.1,h.2.goL k a⟩
 new h k:=Dn.new (fun hx=>h.2.lt' hx) k
 app h a k:=InP.dn k (fun hx=>h.2.lt' hx) a
def DE.pr {H X K Y:Type} (d:DE H X) (e:DE K Y):DE (H × K) (X × Y) where
 rel w h x:=d.rel w h.1 x.1∧e.rel w h.2 x.2
 dn h x p:=d.dn h.1 x.1 p∧e.dn h.2 x.2 p
 goL h k a:=⟨d.goL h.1 k fun p hp=>(a p hp).1,e.goL h.2 k fun p hp=>(a p hp).2⟩
 new h k:=⟨d.new h.1 k,e.new h.2 k⟩
 app h a k:=⟨d.app h.1 (fun p hp=>(a p hp).1) k,e.app h.2 (fun p hp=>(a p hp).2) k⟩
def RelD {H X:Type} (d:DE H X) (w:World) (hs:List H) (xs:List X):Prop:=hs.length=xs.length∧∀ (i:Nat) (h:H) (x:X),hs[i]?=some h→xs[i]?=some x→d.rel w h x
def DnD {H X:Type} (d:DE H X) (hs:List H) (xs:List X) (p:Option Nat):Prop:=∀ (i:Nat) (h:H) (x:X),hs[i]?=some h→xs[i]?=some x→d.dn h x p
section
variable {H X:Type} {d:DE H X} {w w':World} {hs hs':List H} {xs xs':List X} {ps:List (Option Nat)} {p:Option Nat} {i:Nat} {h:H} {x:X} {row:Option Nat}
theorem RelD.goL (k:RelD d w hs xs) (hg:GrL ps w w') (a:AllP (DnD d hs xs) ps):RelD d w' hs xs:=⟨k.1,fun i h x hh hx=>d.goL (k.2 i h x hh hx) hg fun p hp=>a p hp i h x hh hx⟩
theorem RelD.go (k:RelD d w hs xs) (hg:w.grownBy w' row) (a:DnD d hs xs row):RelD d w' hs xs:=k.goL (GrL.of1 hg) (apC a apN)
theorem RelD.grown (k:RelD d w hs xs) (hg:w.grownBy w' none):RelD d w' hs xs:=k.goL (ps:=[]) (GrL.of0 hg) apN
theorem RelD.new (k:RelD d w hs xs) (hp:Ge p w.heap.size):DnD d hs xs p:=fun i h x hh hx=>d.new (k.2 i h x hh hx) hp
theorem RelD.inp (k:RelD d w hs xs) (a:AllP (DnD d hs xs) ps) (hp:InP ps w.heap.size p):DnD d hs xs p:=fun i h x hh hx=>d.app (k.2 i h x hh hx) (fun q hq=>a q hq i h x hh hx) hp
theorem RelD.app {p':Option Nat} (k:RelD d w hs xs) (a:DnD d hs xs p) (hk:∀ g,p'=some g→p=some g∨w.heap.size≤g):DnD d hs xs p':=fun i h x hh hx=>d.app (k.2 i h x hh hx) (ps:=[p]) (apC (a i h x hh hx) apN) (InP.app (ps:=[p]) (InP.mem (List.Mem.head _)) hk (Nat.le_refl _))
theorem RelD.nil:RelD d w [] []:=⟨rfl,fun i h x hh=>by simp at hh⟩
theorem DnD.nil:DnD d [] [] p:=fun i h x hh=>by simp at hh
theorem DnD.none (k:RelD d w hs xs):DnD d hs xs none:=k.new Ge.none
theorem RelD.cons (k:d.rel w h x) (t:RelD d w hs xs):RelD d w (h :: hs) (x :: xs):=⟨by simp [t.1],fun i h' x' hh hx=>by
 cases i with
 | zero=>simp only [List.getElem?_cons_zero,Option.some.injEq] at hh hx; subst hh; subst hx; exact k
 | succ i=>exact t.2 i h' x' (by simpa using hh) (by simpa using hx)⟩
theorem DnD.cons (k:d.dn h x p) (t:DnD d hs xs p):DnD d (h :: hs) (x :: xs) p:=fun i h' x' hh hx=>by
 cases i with
 | zero=>simp only [List.getElem?_cons_zero,Option.some.injEq] at hh hx; subst hh; subst hx; exact k
 | succ i=>exact t i h' x' (by simpa using hh) (by simpa using hx)
theorem RelD.append (k:RelD d w hs xs) (t:RelD d w hs' xs'):RelD d w (hs++hs') (xs++xs'):=⟨by simp [k.1,t.1],fun i h x hh hx=>by
 by_cases hi:i<hs.length
 ·rw [List.getElem?_append_left hi] at hh
  rw [List.getElem?_append_left (by rw [←k.1]; exact hi)] at hx
  exact k.2 i h x hh hx
 ·rw [List.getElem?_append_right (by omega)] at hh
  rw [List.getElem?_append_right (by rw [←k.1]; omega),←k.1] at hx
  exact t.2 _ h x hh hx⟩
theorem DnD.append (hl:hs.length=xs.length) (k:DnD d hs xs p) (t:DnD d hs' xs' p):DnD d (hs++hs') (xs++xs') p:=fun i h x hh hx=>by
 by_cases hi:i<hs.length
 ·rw [List.getElem?_append_left hi] at hh
  rw [List.getElem?_append_left (by rw [←hl]; exact hi)] at hx
  exact k i h x hh hx
 ·rw [List.getElem?_append_right (by omega)] at hh
  rw [List.getElem?_append_right (by rw [←hl]; omega),←hl] at hx
  exact t _ h x hh hx
theorem RelD.set (k:RelD d w hs xs) (t:d.rel w h x) (j:Nat):RelD d w (hs.set j h) (xs.set j x):=⟨by simp [k.1],fun i h' x' hh hx=>by
 rw [List.getElem?_set] at hh hx
 by_cases hj:j=i
 ·subst hj
  rw [if_pos rfl] at hh hx
  split at hh
  ·split at hx
   ·simp only [Option.some.injEq] at hh hx
    subst hh; subst hx; exact t
   ·cases hx
  ·cases hh
 ·rw [if_neg hj] at hh hx
  exact k.2 i h' x' hh hx⟩
theorem DnD.set (k:DnD d hs xs p) (t:d.dn h x p) (j:Nat):DnD d (hs.set j h) (xs.set j x) p:=fun i h' x' hh hx=>by
 rw [List.getElem?_set] at hh hx
 by_cases hj:j=i
 ·subst hj
  rw [if_pos rfl] at hh hx
  split at hh
  ·split at hx
   ·simp only [Option.some.injEq] at hh hx
    subst hh; subst hx; exact t
   ·cases hx
  ·cases hh
 ·rw [if_neg hj] at hh hx
  exact k i h' x' hh hx
def NewD (d:DE H X) (hs:List H) (xs:List X) (n:Nat):Prop:=∀ p:Option Nat,(∀ g,p=some g→g<n)→DnD d hs xs p
theorem NewD.nil {n:Nat}:NewD d [] [] n:=fun _ _=>DnD.nil
theorem NewD.append {n:Nat} (hl:hs.length=xs.length) (a:NewD d hs xs n) (b:NewD d hs' xs' n):NewD d (hs++hs') (xs++xs') n:=fun p hp=>DnD.append hl (a p hp) (b p hp)
theorem NewD.cons {n:Nat} (a:∀ p:Option Nat,(∀ g,p=some g→g<n)→d.dn h x p) (b:NewD d hs xs n):NewD d (h :: hs) (x :: xs) n:=fun p hp=>DnD.cons (a p hp) (b p hp)
theorem NewD.le {n m:Nat} (a:NewD d hs xs n) (h:m≤n):NewD d hs xs m:=fun p hp=>a p fun g e=>Nat.lt_of_lt_of_le (hp g e) h
theorem RelD.drop (k:RelD d w hs xs) (n:Nat):RelD d w (hs.drop n) (xs.drop n):=⟨by simp [k.1],fun i h x hh hx=>k.2 (n+i) h x (by simpa [List.getElem?_drop] using hh) (by simpa [List.getElem?_drop] using hx)⟩
theorem DnD.drop (k:DnD d hs xs p) (n:Nat):DnD d (hs.drop n) (xs.drop n) p:=fun i h x hh hx=>k (n+i) h x (by simpa [List.getElem?_drop] using hh) (by simpa [List.getElem?_drop] using hx)
theorem RelD.take (k:RelD d w hs xs) (n:Nat):RelD d w (hs.take n) (xs.take n):=⟨by simp [k.1],fun i h x hh hx=>by
 rw [List.getElem?_take] at hh hx
 split at hh
 ·rw [if_pos (by assumption)] at hx; exact k.2 i h x hh hx
 ·cases hh⟩
theorem DnD.take (k:DnD d hs xs p) (n:Nat):DnD d (hs.take n) (xs.take n) p:=fun i h x hh hx=>by
 rw [List.getElem?_take] at hh hx
 split at hh
 ·rw [if_pos (by assumption)] at hx; exact k i h x hh hx
 ·cases hh
theorem RelD.at (k:RelD d w hs xs) (dh:H) (dx:X) {j:Nat} (hj:j<xs.length):∃ h,hs.getD j dh=h∧d.rel w h (xs.getD j dx):=by
 have hj2:j<hs.length:=by rw [k.1]; exact hj
 refine ⟨_,rfl,k.2 j _ _ ?_ ?_⟩
 ·simp [List.getD,hj2]
 ·simp [List.getD,hj]
theorem DnD.at (k:DnD d hs xs p) (hl:hs.length=xs.length) {dh:H} {dx:X} {j:Nat} (hj:j<xs.length) {h:H} (hh:hs.getD j dh=h):d.dn h (xs.getD j dx) p:=by
 have hj2:j<hs.length:=by rw [hl]; exact hj
 subst hh
 exact k j _ _ (by simp [List.getD,hj2]) (by simp [List.getD,hj])
end
section
variable {P:Program} {N:Nat} {L:zh} {w:World} {o:Oper} {u v:Value}
theorem Yld.to (h:Yld P N w o L u) (e:u=v):Yld P N w o L v:=e ▸ h
end
section
variable {P:Program} {N:Nat} {L:zh} {w:World}
end
end Go.Proofs.YtjjcdkfhaceicaaGreatDoor
 
namespace Go.Proofs.YtjjcdkfhaceicaaGreatDoor
open Go Go.RowKit Go.WideShapes Go.ChangeShapes Go.ChangeAt Go.Joins Go.Deep
instance :Inhabited Hdr:=⟨hd0⟩
section
variable {H:Type} {enc:TypeId × Value→H} {P:Program} {W:World}
theorem open_rdi1 {t e:TypeId} {fuel:Nat} {v:Value} {x:DataW H × List MemPlace} (ht:P.underlying t=some (.slice e)) (he:P.underlying e=some (.int .i64)) (hc:P.cellsOf e=1)
  (h:DataW.trod enc P W 0 (fun _=>true) true fuel t [v]=some x):∃ A c l,v=.slice A l.length c∧Rd vi W A c l∧(∀ x∈l,(Lit.int .i64 x).wf=true):=by
 rcases open_ints ht he hc h with ⟨hcs,hx⟩ | ⟨a,len',cap',ss,hcs,_,hl,hm,hz,hx,hcell,hws⟩
 ·simp only [List.cons.injEq,and_true] at hcs
  subst hcs
  exact ⟨none,0,[],rfl,Rd.nil _ _ (by simp [maxLen]),by simp⟩
 ·simp only [List.cons.injEq,and_true] at hcs
  subst hcs
  simp only [if_true] at hz
  have hlen:(ss.take len').length=len':=by rw [List.length_take]; omega
  refine ⟨some a,cap',ss.take len',by rw [hlen],⟨by rw [hlen]; exact hl,hm,fun _=>⟨a,rfl,fun j x hj=>?_⟩⟩,fun x hx=>hws x (List.mem_of_mem_take hx)⟩
  rw [List.getElem?_take] at hj
  split at hj
  ·have hjs:j<ss.length:=by omega
   have h1:=hcell j hjs
   rw [List.getElem?_eq_getElem hjs] at hj
   have hg:ss.getD j 0=ss[j]:=by rw [List.getD_eq_getElem?_getD,List.getElem?_eq_getElem hjs]; rfl
   rw [h1,hg,Option.some.inj hj]
   rfl
  ·cases hj
theorem rel_choose {α β:Type} {d:DE α β} {Q:β→Prop}:∀ {hs:List α},(∀ h∈hs,∃ x,d.rel W h x∧Q x)→∃ xs,RelD d W hs xs∧∀ x∈xs,Q x
 | [],_=>⟨[],RelD.nil,fun x hx=>by cases hx⟩
 | h :: hs,hh=>by
  obtain ⟨x,h1,h2⟩:=hh h (List.mem_cons_self ..)
  obtain ⟨xs,h3,h4⟩:=rel_choose fun h' hm=>hh h' (List.mem_cons_of_mem _ hm)
  refine ⟨x :: xs,RelD.cons h1 h3,fun y hy=>?_⟩
  rcases List.mem_cons.1 hy with rfl | hy
  ·exact h2
  ·exact h4 y hy
theorem open_rdF {α β:Type} [Inhabited α] {k:Nat} {f:α→List Value} {de:DE α β} {Q:β→Prop} {b0:Nat} {t e:TypeId} {v:Value} {d:DataW H} {p:List MemPlace} (hf:OneK k f) (ht:P.underlying t=some (.slice e)) (hc:P.cellsOf e=k)
  (hE:∀ n cs y,DataW.trod enc P W 0 (fun _=>true) true n e cs=some y→cs.length=k→∃ h x,cs=f h∧de.rel W h x∧Q x)
  (hval:Value.okWide P W .any b0 t v) (h:DataW.Trod enc P W 0 (fun _=>true) true t v d p):∃ A c hs xs,v=.slice A xs.length c∧RdK k f W A c hs∧RelD de W hs xs∧∀ x∈xs,Q x:=by
 obtain ⟨A,c,hs,hv,hR,hq⟩:=open_rdK (Q:=fun h=>∃ x,de.rel W h x∧Q x) hf ht hc (fun n cs y h1 h2=>by
  obtain ⟨h,x,e1,e2,e3⟩:=hE n cs y h1 h2
  exact ⟨h,e1,x,e2,e3⟩) hval h
 obtain ⟨xs,h3,h4⟩:=rel_choose hq
 exact ⟨A,c,hs,xs,by rw [hv,h3.1],hR,h3,h4⟩
end
end Go.Proofs.YtjjcdkfhaceicaaGreatDoor
 
namespace Go.Proofs.YtjjcdkfhaceicaaGreatDoor
open Go Go.RowKit
end Go.Proofs.YtjjcdkfhaceicaaGreatDoor
 
namespace Go.Proofs.YtjjcdkfhaceicaaGreatDoor
open Go Go.RowKit
abbrev de30:DE (Int × Hdr × Hdr) (Int × List Int × List Int):=(DE.pr (DE.flat Int) (DE.pr (DE.sl vi) (DE.sl vi)))
def encH30 (h:Int × Hdr × Hdr):List Value:=[.int .i64 h.1,vh h.2.1,vh h.2.2]
theorem encH30_ok:OneK 3 encH30:=⟨by omega,fun _=>rfl,fun _=>(zf rfl (zf rfl (zf rfl zm)))⟩
theorem ow22:ckOwK Tryz.prog 22 30 3 56=true:=by kernel_rfl
end Go.Proofs.YtjjcdkfhaceicaaGreatDoor
 
namespace Go.Proofs.YtjjcdkfhaceicaaGreatDoor
open Go Go.RowKit
section
variable {κ ν μ:Type} [DecidableEq κ]
def mmap (g:ν→μ) (m:List (κ × ν)):List (κ × μ):=m.map fun p=>(p.1,g p.2)
theorem mput_mmap (g:ν→μ) (k:κ) (v:ν):∀ m:List (κ × ν),mput (mmap g m) k (g v)=mmap g (mput m k v)
 | []=>rfl
 | p :: m=>by
  show (if p.1=k then (k,g v) :: mmap g m else (p.1,g p.2) :: mput (mmap g m) k (g v))=mmap g (if p.1=k then (k,v) :: m else p :: mput m k v)
  split
  ·rfl
  ·rw [mput_mmap g k v m]; rfl
theorem mget_keys:∀ {a:List (κ × ν)} {b:List (κ × μ)},a.map (·.1)=b.map (·.1)→∀ k,(mget a k).isSome=(mget b k).isSome
 | [],[],_,_=>rfl
 | [],_ :: _,h,_=>by simp at h
 | _ :: _,[],h,_=>by simp at h
 | p :: a,r :: b,h,k=>by
  simp only [List.map_cons,List.cons.injEq] at h
  unfold mget
  rw [h.1]
  split
  ·rfl
  ·exact mget_keys h.2 k
end
def Lp9 {A0 A1 A2 A3 A4 A5 A6 A7 A8:Type} (b:A0→A1→A2→A3→A4→A5→A6→A7→A8→(A0→A1→A2→A3→A4→A5→A6→A7→A8→Prop)→Prop) (x0:A0) (x1:A1) (x2:A2) (x3:A3) (x4:A4) (x5:A5) (x6:A6) (x7:A7) (x8:A8):Prop:=∃ (I:A0→A1→A2→A3→A4→A5→A6→A7→A8→Prop) (mu:A0→A1→A2→A3→A4→A5→A6→A7→A8→Nat),I x0 x1 x2 x3 x4 x5 x6 x7 x8∧∀ x0 x1 x2 x3 x4 x5 x6 x7 x8,I x0 x1 x2 x3 x4 x5 x6 x7 x8→b x0 x1 x2 x3 x4 x5 x6 x7 x8 fun y0 y1 y2 y3 y4 y5 y6 y7 y8=>I y0 y1 y2 y3 y4 y5 y6 y7 y8∧mu y0 y1 y2 y3 y4 y5 y6 y7 y8<mu x0 x1 x2 x3 x4 x5 x6 x7 x8
abbrev PH:=Nat × Option Nat
def vP (o:Option PH):Value:=.pointer (o.map fun h=>⟨h.1,0,none⟩)
section
variable {ps:List (Option Nat)} {Q:Option Nat→Prop} {n m:Nat} {F qs:List (Option Nat)} {q row:Option Nat} {w:World}
theorem InA.mem (h:∀ p,List.Mem p F→List.Mem p ps):AllP (InP ps n) F:=fun p hp=>InP.mem (h p hp)
theorem InA.ge (h:AllP (fun p=>Ge p n) F):AllP (InP ps n) F:=fun p hp=>InP.ge (h p hp)
theorem InA.trans (h:AllP (InP qs m) F) (k:AllP (InP ps n) qs) (hm:n≤m):AllP (InP ps n) F:=fun p hp=>(h p hp).trans k hm
theorem InA.toGe (h:AllP (InP qs m) F) (k:AllP (fun q=>Ge q n) qs) (hm:n≤m):AllP (fun q=>Ge q n) F:=fun p hp=>(h p hp).toGe k hm
theorem InA.dj (h:AllP (InP qs m) F) (hq:Lt q m) (k:AllP (Dj q) qs):AllP (Dj q) F:=fun p hp=>((h p hp).dj hq k).symm
theorem InA.dn {α:Type} {xs:List α} (h:AllP (InP qs m) F) (hq:xs≠[]→Lt q m) (k:AllP (Dn xs q) qs):AllP (Dn xs q) F:=fun p hp=>(h p hp).dn hq k
end
def FP (m:Nat) (hs:List (List UInt8 × PH)) (q0:Option (List UInt8)):List (Option Nat):=some m :: (hs.filter fun h=>decide (some h.1≠q0)).flatMap fun h=>[some h.2.1,h.2.2]
structure PE (X:Type) where
 rel:World→PH→X→Prop
 goL:∀ {w w':World} {h:PH} {x:X} {ps:List (Option Nat)},rel w h x→GrL ps w w'→AllP (Dj (some h.1)) ps→AllP (Dj h.2) ps→rel w' h x
 lt:∀ {w:World} {h:PH} {x:X},rel w h x→Lt (some h.1) w.heap.size∧Lt h.2 w.heap.size
 isc:Nat→Bool
 sc:X→Nat→Value
 hsc:∀ {w:World} {h:PH} {x:X} {o:Nat},isc o=true→rel w h x→w.cell? ⟨h.1,o,none⟩=some (sc x o)
 noat:∀ {w:World} {h:PH} {x:X},rel w h x→NoAt w (some h.1)∧NoAt w h.2
structure zA {X:Type} (d:PE X) (w:World) (m:Nat) (hs:List (List UInt8 × PH)) (fs:List (List UInt8 × X)) (q0:Option (List UInt8)):Prop where
 map:MapB vs okS vP w m (mmap some hs)
 keys:hs.map (·.1)=fs.map (·.1)
 rel:∀ q h x,mget hs q=some h→mget fs q=some x→some q≠q0→d.rel w h x
 dm:∀ q h,mget hs q=some h→some q≠q0→Dj (some m) (some h.1)∧Dj (some m) h.2
 dd:∀ q q' h h',q≠q'→mget hs q=some h→mget hs q'=some h'→some q≠q0→some q'≠q0→Dj (some h.1) (some h'.1)∧Dj (some h.1) h'.2∧Dj h.2 (some h'.1)∧Dj h.2 h'.2
section
variable {X:Type} {d:PE X} {w w':World} {m:Nat} {hs:List (List UInt8 × PH)} {fs:List (List UInt8 × X)} {q0:Option (List UInt8)} {Q:Option Nat→Prop} {ps:List (Option Nat)} {row p:Option Nat} {q:List UInt8} {x x':X} {b:Nat} {r r':Option Nat}
theorem zA.uq (h:zA d w m hs fs q0):Uq hs:=by
 have:=h.map.uq
 unfold Uq mmap at *
 rw [List.map_map] at this
 exact this
theorem zA.some_iff (h:zA d w m hs fs q0) (q:List UInt8):(mget hs q).isSome=(mget fs q).isSome:=mget_keys h.keys q
theorem allFP (hu:Uq hs):AllP Q (FP m hs q0)↔Q (some m)∧∀ q h,mget hs q=some h→some q≠q0→Q (some h.1)∧Q h.2:=by
 constructor
 ·intro h
  refine ⟨h _ (List.Mem.head _),fun q k hk hq=>?_⟩
  have hm:=(mget_mem hu).1 hk
  have hf:(q,k)∈hs.filter fun h=>decide (some h.1≠q0):=List.mem_filter.2 ⟨hm,by simpa using hq⟩
  exact ⟨h _ (List.Mem.tail _ (List.mem_flatMap.2 ⟨_,hf,by simp⟩)),h _ (List.Mem.tail _ (List.mem_flatMap.2 ⟨_,hf,by simp⟩))⟩
 ·rintro ⟨h1,h2⟩ p hp
  cases hp with
  | head=>exact h1
  | tail _ hp =>
   obtain ⟨k,hk,hp⟩:=List.mem_flatMap.1 hp
   obtain ⟨hm,hq⟩:=List.mem_filter.1 hk
   have h3:=h2 k.1 k.2 ((mget_mem hu).2 hm) (by simpa using hq)
   simp only [List.mem_cons,List.not_mem_nil,or_false] at hp
   rcases hp with rfl | rfl
   ·exact h3.1
   ·exact h3.2
theorem zA.goL (h:zA d w m hs fs q0) (hg:GrL ps w w') (hd:AllP (fun r=>AllP (Dj r) (FP m hs q0)) ps):zA d w' m hs fs q0 :=
 ⟨h.map.goL hg fun p hp=>(((allFP h.uq).1 (hd p hp)).1).symm,h.keys,fun q k x hk hx hq=>d.goL (h.rel q k x hk hx hq) hg (fun p hp=>((((allFP h.uq).1 (hd p hp)).2 q k hk hq).1).symm) (fun p hp=>((((allFP h.uq).1 (hd p hp)).2 q k hk hq).2).symm),h.dm,h.dd⟩
theorem zA.go (h:zA d w m hs fs q0) (hg:w.grownBy w' row) (hd:AllP (Dj row) (FP m hs q0)):zA d w' m hs fs q0:=h.goL (GrL.of1 hg) (apC hd apN)
theorem zA.g0 (h:zA d w m hs fs q0) (hg:w.grownBy w' none):zA d w' m hs fs q0:=h.goL (ps:=[]) (GrL.of0 hg) apN
theorem zA.eqv (hw:Eqv w w') (h:zA d w m hs fs q0):zA d w' m hs fs q0:=h.g0 (zq (zN w none) hw)
theorem zA.lts (h:zA d w m hs fs q0) (hf:(∀ q,(mget hs q).isSome=(mget fs q).isSome)):AllP (fun p=>Lt p w.heap.size) (FP m hs q0):=(allFP h.uq).2 ⟨h.map.lt',fun q k hk hq=>by
 have h1:=hf q
 rw [hk,Option.isSome_some] at h1
 obtain ⟨x,hx⟩:=Option.isSome_iff_exists.1 h1.symm
 exact d.lt (h.rel q k x hk hx hq)⟩
theorem zA.lt' (h:zA d w m hs fs q0):AllP (fun p=>Lt p w.heap.size) (FP m hs q0):=h.lts h.some_iff
theorem zA.new (h:zA d w m hs fs q0) (hp:Ge p w.heap.size):AllP (Dj p) (FP m hs q0):=fun r hr=>(Dj.new (h.lt' r hr) hp).symm
theorem zA.inp (h:zA d w m hs fs q0) (hp:InP ps w.heap.size p) (hd:AllP (fun r=>AllP (Dj r) (FP m hs q0)) ps):AllP (Dj p) (FP m hs q0):=fun r hr=>InP.dj hp (h.lt' r hr) (fun s hs'=>(hd s hs' r hr).symm)
theorem zA.app {p':Option Nat} (h:zA d w m hs fs q0) (k:AllP (Dj p) (FP m hs q0)) (hk:∀ g,p'=some g→p=some g∨w.heap.size≤g):AllP (Dj p') (FP m hs q0):=fun r hr=>Dj.app (k r hr) (h.lt' r hr) hk
theorem zA.open (h:zA d w m hs fs none) (hx:mget fs q=some x):∃ b r,mget hs q=some (b,r)∧d.rel w (b,r) x∧zA d w m hs fs (some q)∧AllP (Dj (some b)) (FP m hs (some q))∧AllP (Dj r) (FP m hs (some q)):=by
 have h1:=h.some_iff q
 rw [hx,Option.isSome_some] at h1
 obtain ⟨⟨b,r⟩,hk⟩:=Option.isSome_iff_exists.1 h1
 have hm:=h.dm q _ hk (by simp)
 refine ⟨b,r,hk,h.rel q _ x hk hx (by simp),⟨h.map,h.keys,fun q' k y hk' hy _=>h.rel q' k y hk' hy (by simp),fun q' k hk' _=>h.dm q' k hk' (by simp),fun q' q2 k k2 hne hk' hk2 _ _=>h.dd q' q2 k k2 hne hk' hk2 (by simp) (by simp)⟩,?_,?_⟩
 ·refine (allFP h.uq).2 ⟨hm.1.symm,fun q' k hk' hq'=>?_⟩
  have:=h.dd q q' _ k (fun e=>hq' (by rw [e])) hk hk' (by simp) (by simp)
  exact ⟨this.1,this.2.1⟩
 ·refine (allFP h.uq).2 ⟨hm.2.symm,fun q' k hk' hq'=>?_⟩
  have:=h.dd q q' _ k (fun e=>hq' (by rw [e])) hk hk' (by simp) (by simp)
  exact ⟨this.2.2.1,this.2.2.2⟩
theorem zA.sub (h:zA d w m hs fs q0) (k:AllP Q (FP m hs none)):AllP Q (FP m hs (some q)):=(allFP h.uq).2 ⟨((allFP h.uq).1 k).1,fun q' k' hk' _=>((allFP h.uq).1 k).2 q' k' hk' (by simp)⟩
theorem zA.at1 (h:zA d w m hs fs q0) (hk:mget hs q=some (b,r)) (k:AllP Q (FP m hs none)):Q (some b):=(((allFP h.uq).1 k).2 q _ hk (by simp)).1
theorem zA.at2 (h:zA d w m hs fs q0) (hk:mget hs q=some (b,r)) (k:AllP Q (FP m hs none)):Q r:=(((allFP h.uq).1 k).2 q _ hk (by simp)).2
theorem zA.back (h:zA d w m hs fs (some q)) (hk:mget hs q=some (b,r)) (hx:mget fs q=some x) (hr:d.rel w (b,r) x) (h1:AllP (Dj (some b)) (FP m hs (some q))) (h2:AllP (Dj r) (FP m hs (some q))):zA d w m hs fs none:=by
 have hu:=h.uq
 have h1':=(allFP hu).1 h1
 have h2':=(allFP hu).1 h2
 refine ⟨h.map,h.keys,fun q' k y hk' hy _=>?_,fun q' k hk' _=>?_,fun q1 q2 k1 k2 hne hk1 hk2 _ _=>?_⟩
 ·by_cases e:q'=q
  ·subst e; rw [hk] at hk'; rw [hx] at hy; cases hk'; cases hy; exact hr
  ·exact h.rel q' k y hk' hy (fun e2=>e (Option.some.inj e2))
 ·by_cases e:q'=q
  ·subst e; rw [hk] at hk'; cases hk'; exact ⟨h1'.1.symm,h2'.1.symm⟩
  ·exact h.dm q' k hk' (fun e2=>e (Option.some.inj e2))
 ·by_cases e1:q1=q
  ·subst e1
   rw [hk] at hk1; cases hk1
   have e2:some q2≠some q1:=fun e=>hne (Option.some.inj e).symm
   have a:=h1'.2 q2 k2 hk2 e2
   have c:=h2'.2 q2 k2 hk2 e2
   exact ⟨a.1,a.2,c.1,c.2⟩
  ·by_cases e2:q2=q
   ·subst e2
    rw [hk] at hk2; cases hk2
    have e3:some q1≠some q2:=fun e=>hne (Option.some.inj e)
    have a:=h1'.2 q1 k1 hk1 e3
    have c:=h2'.2 q1 k1 hk1 e3
    exact ⟨a.1.symm,c.1.symm,a.2.symm,c.2.symm⟩
   ·exact h.dd q1 q2 k1 k2 hne hk1 hk2 (fun e=>e1 (Option.some.inj e)) (fun e=>e2 (Option.some.inj e))
theorem zA.put (h:zA d w m hs fs none) (hM:MapB vs okS vP w' m (mput (mmap some hs) q (some (b,r)))) (hg:w.grownBy w' (some m)) (hr:d.rel w (b,r) x) (h1:AllP (Dj (some b)) (FP m hs none)) (h2:AllP (Dj r) (FP m hs none)):zA d w' m (mput hs q (b,r)) (mput fs q x) none:=by
 have hu:=h.uq
 have h1':=(allFP hu).1 h1
 have h2':=(allFP hu).1 h2
 have old:∀ {q' k},mget (mput hs q (b,r)) q'=some k→(q'=q∧k=(b,r))∨(q'≠q∧mget hs q'=some k):=fun {q' k} e=>by
  rw [mget_mput] at e
  split at e
  ·rename_i e2; simp only [Option.some.injEq] at e; exact .inl ⟨e2.symm,e.symm⟩
  ·rename_i e2; exact .inr ⟨fun e3=>e2 e3.symm,e⟩
 have hkeys:(mput hs q (b,r)).map (·.1)=(mput fs q x).map (·.1):=by
  rw [mput_keys,mput_keys,h.some_iff q,h.keys]
 rw [mput_mmap] at hM
 refine ⟨hM,hkeys,?_,?_,?_⟩
 ·intro q' k x0 hk' hx _
  rw [mget_mput] at hx
  rcases old hk' with ⟨rfl,rfl⟩ | ⟨hq',hk'⟩
  ·rw [if_pos rfl] at hx
   cases hx
   exact d.goL hr (GrL.of1 hg) (apC h1'.1 apN) (apC h2'.1 apN)
  ·rw [if_neg (fun e=>hq' e.symm)] at hx
   have hm:=h.dm q' k hk' (by simp)
   exact d.goL (h.rel q' k x0 hk' hx (by simp)) (GrL.of1 hg) (apC hm.1.symm apN) (apC hm.2.symm apN)
 ·intro q' k hk' _
  rcases old hk' with ⟨rfl,rfl⟩ | ⟨hq',hk'⟩
  ·exact ⟨h1'.1.symm,h2'.1.symm⟩
  ·exact h.dm q' k hk' (by simp)
 ·intro q1 q2 k1 k2 hne hk1 hk2 _ _
  rcases old hk1 with ⟨rfl,rfl⟩ | ⟨hq1,hj1⟩ <;> rcases old hk2 with ⟨rfl,rfl⟩ | ⟨hq2,hj2⟩
  ·exact absurd rfl hne
  ·have a:=h1'.2 q2 k2 hj2 (by simp)
   have c:=h2'.2 q2 k2 hj2 (by simp)
   exact ⟨a.1,a.2,c.1,c.2⟩
  ·have a:=h1'.2 q1 k1 hj1 (by simp)
   have c:=h2'.2 q1 k1 hj1 (by simp)
   exact ⟨a.1.symm,c.1.symm,a.2.symm,c.2.symm⟩
  ·exact h.dd q1 q2 k1 k2 hne hj1 hj2 (by simp) (by simp)
theorem zA.empty (d:PE X) (h:MapB vs okS vP w m ([]:List (List UInt8 × Option PH))):zA d w m [] [] none:=⟨h,rfl,fun q k x hk=>by simp [mget] at hk,fun q k hk=>by simp [mget] at hk,fun q q' k k' _ hk=>by simp [mget] at hk⟩
theorem FP.nil (h:Q (some m)):AllP Q (FP m [] q0):=by
 unfold FP
 exact apC h apN
variable {P:Program} {N:Nat} {L:zh} {ty t t' k e:TypeId} {pos:String} {af:Array Edge} {dd:Option Tmp} {y z u:Operand}
theorem Yld.pnenil {p:Option Addr} (h:P.underlying t=some (.pointer e)) (hx:opv L y=some (.pointer p)) (hy:opv L z=some (.pointer none)):Yld P N w ⟨dd,.binOp .neq t y z t',ty,pos,af,none⟩ L (.bool p.isSome):=fun a w1 _ ha=>by
 refine zY (ha.ev hx) (ha.ev hy) (by unfold eqGuard; rfl) ?_
 have h:(Op.equal t (.pointer p) (.pointer none)).run P w1=.ok p.isNone w1:=zF fun d=>by
  cases p <;> simp [Op.equalIn,run_underlying h]
 simp [binOp,h]
end
end Go.Proofs.YtjjcdkfhaceicaaGreatDoor
 
namespace Go.Proofs.YtjjcdkfhaceicaaGreatDoor
open Go Go.RowKit
abbrev Hd:=Option Addr × Nat
def hz:Hd:=(none,0)
def hA (hs:List Hd) (j:Nat):Option Addr:=(hs.getD j hz).1
def hC (hs:List Hd) (j:Nat):Nat:=(hs.getD j hz).2
def hv {α:Type} (y:List α × Hd):Value:=.slice y.2.1 y.1.length y.2.2
def FPd (A:Option Addr) (hs:List Hd) (q0:Option Nat):List (Option Nat):=blk A :: ((List.range hs.length).filter fun j=>decide (some j≠q0)).map fun j=>blk (hA hs j)
structure zI {α:Type} (f:α→Value) (w:World) (B:Nat) (e e':TypeId) (A:Option Addr) (c:Nat) (hs:List Hd) (xs:List (List α)) (q0:Option Nat):Prop where
 out:Own hv w B e A c (xs.zip hs)
 len:hs.length=xs.length
 inn:∀ j,j<xs.length→some j≠q0→Own f w B e' (hA hs j) (hC hs j) (xs.getD j [])
 dm:∀ j,j<xs.length→some j≠q0→Dj (blk A) (blk (hA hs j))
 dd:∀ i j,i≠j→i<xs.length→j<xs.length→some i≠q0→some j≠q0→Dj (blk (hA hs i)) (blk (hA hs j))
section
variable {α:Type} {f:α→Value} {w w':World} {B n:Nat} {e e':TypeId} {A A':Option Addr} {c c':Nat} {hs:List Hd} {xs:List (List α)} {ys:List α} {q0:Option Nat} {Q:Option Nat→Prop} {ps:List (Option Nat)} {row p:Option Nat} {j:Nat}
theorem allFPd:AllP Q (FPd A hs q0)↔Q (blk A)∧∀ j,j<hs.length→some j≠q0→Q (blk (hA hs j)):=by
 constructor
 ·intro h
  exact ⟨h _ (List.Mem.head _),fun j hj hq=>h _ (List.Mem.tail _ (List.mem_map.2 ⟨j,List.mem_filter.2 ⟨List.mem_range.2 hj,by simpa using hq⟩,rfl⟩))⟩
 ·rintro ⟨h1,h2⟩ p hp
  cases hp with
  | head=>exact h1
  | tail _ hp =>
   obtain ⟨j,hj,rfl⟩:=List.mem_map.1 hp
   obtain ⟨hm,hq⟩:=List.mem_filter.1 hj
   exact h2 j (List.mem_range.1 hm) (by simpa using hq)
theorem zI.goL (h:zI f w B e e' A c hs xs q0) (hg:GrL ps w w') (hd:AllP (fun r=>AllP (Dj r) (FPd A hs q0)) ps):zI f w' B e e' A c hs xs q0 :=
 ⟨h.out.goL hg fun p hp=>((allFPd.1 (hd p hp)).1).symm,h.len,fun j hj hq=>(h.inn j hj hq).goL hg fun p hp=>((allFPd.1 (hd p hp)).2 j (by rw [h.len]; exact hj) hq).symm,h.dm,h.dd⟩
theorem zI.go (h:zI f w B e e' A c hs xs q0) (hg:w.grownBy w' row) (hd:AllP (Dj row) (FPd A hs q0)):zI f w' B e e' A c hs xs q0:=h.goL (GrL.of1 hg) (apC hd apN)
theorem zI.g0 (h:zI f w B e e' A c hs xs q0) (hg:w.grownBy w' none):zI f w' B e e' A c hs xs q0:=h.goL (ps:=[]) (GrL.of0 hg) apN
theorem zI.eqv (hw:Eqv w w') (h:zI f w B e e' A c hs xs q0):zI f w' B e e' A c hs xs q0:=h.g0 (zq (zN w none) hw)
theorem zI.lt' (h:zI f w B e e' A c hs xs q0):AllP (fun p=>Lt p w.heap.size) (FPd A hs q0):=allFPd.2 ⟨h.out.lt',fun j hj hq=>(h.inn j (by rw [←h.len]; exact hj) hq).lt'⟩
theorem zI.ge' (h:zI f w B e e' A c hs xs q0):AllP (fun p=>Ge p B) (FPd A hs q0):=allFPd.2 ⟨h.out.ge',fun j hj hq=>(h.inn j (by rw [←h.len]; exact hj) hq).ge'⟩
theorem zI.new (h:zI f w B e e' A c hs xs q0) (hp:Ge p w.heap.size):AllP (Dj p) (FPd A hs q0):=fun r hr=>(Dj.new (h.lt' r hr) hp).symm
theorem zI.inp (h:zI f w B e e' A c hs xs q0) (hp:InP ps w.heap.size p) (hd:AllP (fun r=>AllP (Dj r) (FPd A hs q0)) ps):AllP (Dj p) (FPd A hs q0):=fun r hr=>InP.dj hp (h.lt' r hr) (fun s hs'=>(hd s hs' r hr).symm)
theorem zI.app {p':Option Nat} (h:zI f w B e e' A c hs xs q0) (k:AllP (Dj p) (FPd A hs q0)) (hk:∀ g,p'=some g→p=some g∨w.heap.size≤g):AllP (Dj p') (FPd A hs q0):=fun r hr=>Dj.app (k r hr) (h.lt' r hr) hk
theorem zI.rd (h:zI f w B e e' A c hs xs none) (hj:j<xs.length):Rd f w (hA hs j) (hC hs j) (xs.getD j []):=(h.inn j hj (by simp)).rd
theorem zI.open (h:zI f w B e e' A c hs xs none) (hj:j<xs.length):Own f w B e' (hA hs j) (hC hs j) (xs.getD j [])∧zI f w B e e' A c hs xs (some j)∧AllP (Dj (blk (hA hs j))) (FPd A hs (some j)):=by
 refine ⟨h.inn j hj (by simp),⟨h.out,h.len,fun i hi _=>h.inn i hi (by simp),fun i hi _=>h.dm i hi (by simp),fun i k hik hi hk _ _=>h.dd i k hik hi hk (by simp) (by simp)⟩,allFPd.2 ⟨(h.dm j hj (by simp)).symm,fun i hi hq=>?_⟩⟩
 exact h.dd j i (fun e=>hq (by rw [e])) hj (by rw [←h.len]; exact hi) (by simp) (by simp)
theorem FPd.sub (k:AllP Q (FPd A hs none)):AllP Q (FPd A hs (some j)):=allFPd.2 ⟨(allFPd.1 k).1,fun i hi _=>(allFPd.1 k).2 i hi (by simp)⟩
theorem FPd.at (hl:j<hs.length) (k:AllP Q (FPd A hs none)):Q (blk (hA hs j)):=(allFPd.1 k).2 j hl (by simp)
theorem zI.at (h:zI f w B e e' A c hs xs q0) (hj:j<xs.length) (k:AllP Q (FPd A hs none)):Q (blk (hA hs j)):=FPd.at (by rw [h.len]; exact hj) k
theorem FPd.made {l:List (List α × Hd)} (k:Q (blk A)) (kl:AllP Q (l.map fun y=>blk y.2.1)):AllP Q (FPd A (l.map (·.2)) none):=by
 refine allFPd.2 ⟨k,fun j hj _=>?_⟩
 rw [List.length_map] at hj
 refine kl _ ?_
 have:blk (hA (l.map (·.2)) j)=blk l[j].2.1:=by simp [hA,List.getD,hj]
 rw [this]
 exact List.mem_map.2 ⟨_,List.getElem_mem hj,rfl⟩
theorem zI.sub (h:zI f w B e e' A c hs xs none) (j:Nat):zI f w B e e' A c hs xs (some j):=⟨h.out,h.len,fun i hi _=>h.inn i hi (by simp),fun i hi _=>h.dm i hi (by simp),fun i k hik hi hk _ _=>h.dd i k hik hi hk (by simp) (by simp)⟩
theorem zI.back (h:zI f w B e e' A c hs xs (some j)) (hE:Own f w B e' (hA hs j) (hC hs j) (xs.getD j [])) (hd:AllP (Dj (blk (hA hs j))) (FPd A hs (some j))):zI f w B e e' A c hs xs none:=by
 have hd':=allFPd.1 hd
 refine ⟨h.out,h.len,fun i hi _=>?_,fun i hi _=>?_,fun i k hik hi hk _ _=>?_⟩
 ·by_cases e:i=j
  ·subst e; exact hE
  ·exact h.inn i hi (fun e2=>e (Option.some.inj e2))
 ·by_cases e:i=j
  ·subst e; exact hd'.1.symm
  ·exact h.dm i hi (fun e2=>e (Option.some.inj e2))
 ·by_cases e:i=j
  ·subst e
   exact hd'.2 k (by rw [h.len]; exact hk) (fun e2=>hik (Option.some.inj e2).symm)
  ·by_cases e2:k=j
   ·subst e2
    exact (hd'.2 i (by rw [h.len]; exact hi) (fun e3=>hik (Option.some.inj e3))).symm
   ·exact h.dd i k hik hi hk (fun e3=>e (Option.some.inj e3)) (fun e3=>e2 (Option.some.inj e3))
theorem zI.made {l:List (List α × Hd)} (hO:Own hv w B e A c l) (h1:∀ y∈l,Own f w B e' y.2.1 y.2.2 y.1∧Dj (blk A) (blk y.2.1)) (h2:l.Pairwise fun y z=>Dj (blk y.2.1) (blk z.2.1)):zI f w B e e' A c (l.map (·.2)) (l.map (·.1)) none:=by
 have hz2:(l.map (·.1)).zip (l.map (·.2))=l:=by
  clear hO h1 h2
  induction l with
  | nil=>rfl
  | cons y l ih=>rw [List.map_cons,List.map_cons,List.zip_cons_cons,ih]
 have hat:∀ {j},j<(l.map (·.1)).length→∃ hj:j<l.length,hA (l.map (·.2)) j=l[j].2.1∧hC (l.map (·.2)) j=l[j].2.2∧(l.map (·.1)).getD j []=l[j].1:=fun {j} hj=>by
  rw [List.length_map] at hj
  exact ⟨hj,by simp [hA,List.getD,hj],by simp [hC,List.getD,hj],by simp [List.getD,hj]⟩
 refine ⟨by rw [hz2]; exact hO,by rw [List.length_map,List.length_map],fun j hj _=>?_,fun j hj _=>?_,fun i j hij hi hj _ _=>?_⟩
 ·obtain ⟨h,e1,e2,e3⟩:=hat hj
  rw [e1,e2,e3]; exact (h1 _ (List.getElem_mem h)).1
 ·obtain ⟨h,e1,_,_⟩:=hat hj
  rw [e1]; exact (h1 _ (List.getElem_mem h)).2
 ·obtain ⟨h,e1,_,_⟩:=hat hi
  obtain ⟨h',e1',_,_⟩:=hat hj
  rw [e1,e1']
  rcases Nat.lt_or_gt_of_ne hij with hlt | hlt
  ·exact (List.pairwise_iff_getElem.1 h2) i j h h' hlt
  ·exact ((List.pairwise_iff_getElem.1 h2) j i h' h hlt).symm
variable {P:Program} {N:Nat} {L:zh} {ty t:TypeId} {pos:String} {af:Array Edge} {dd:Option Tmp} {x y:Operand} {T:Tab}
end
section
variable {P:Program} {N:Nat} {ops:Array Oper} {fl:Nat→Bool} {D:Nat→World→Prop} {Q:Post} {L:zh} {w:World} {k d:Nat} {ty:TypeId} {pos:String} {af:Array Edge} {rest:List Oper}
end
end Go.Proofs.YtjjcdkfhaceicaaGreatDoor
 namespace Go.Proofs.YtjjcdkfhaceicaaGreatDoor
open Go Go.RowKit
attribute [local irreducible] WL WC WX WQ Yld Eff Fn
def val:List Nat→Nat
 | []=>0
 | x :: xs=>x+1000000000*val xs
theorem val_app:∀ a b:List Nat,val (a++b)=val a+1000000000 ^ a.length*val b
 | [],b=>by simp [val]
 | x :: a,b=>by
  have:=val_app a b
  simp only [List.cons_append,val,this,List.length_cons]
  grind
theorem val_one (d:Nat):val [d]=d:=rfl
theorem val_push (a:List Nat) (d:Nat):val (a++[d])=val a+1000000000 ^ a.length*d:=by rw [val_app,val_one]
theorem take_push (l:List Nat) (k:Nat) (h:k<l.length):l.take (k+1)=l.take k++[l.getD k 0]:=by
 rw [List.take_succ_eq_append_getElem h]; simp [List.getD,h]
theorem val_take (l:List Nat) (k:Nat):val (l.take (k+1))=val (l.take k)+1000000000 ^ k*l.getD k 0:=by
 rcases Nat.lt_or_ge k l.length with h | h
 ·rw [take_push l k h,val_push,List.length_take,Nat.min_eq_left (by omega)]
 ·have e:l.getD k 0=0:=by simp [List.getD,List.getElem?_eq_none h]
  rw [List.take_of_length_le (by omega),List.take_of_length_le h,e]
  omega
def Dg (l:List Nat):Prop:=∀ i:Nat,l.getD i 0<1000000000
theorem Dg.nil:Dg []:=fun i=>by simp
theorem Dg.push {l:List Nat} (h:Dg l) {d:Nat} (hd:d<1000000000):Dg (l++[d]):=fun i=>by
 rcases Nat.lt_trichotomy i l.length with h1 | h1 | h1
 ·have:=h i
  simpa [List.getD,List.getElem?_append,h1] using this
 ·subst h1; simpa [List.getD] using hd
 ·have e:(l++[d]).getD i 0=0:=by simp only [List.getD]; rw [List.getElem?_eq_none (by simp; omega)]; rfl
  omega
theorem Dg.take {l:List Nat} (h:Dg l) (k:Nat):Dg (l.take k):=fun i=>by
 rcases Nat.lt_or_ge i k with h1 | h1
 ·have:=h i
  simpa [List.getD,List.getElem?_take,h1] using this
 ·have e:(l.take k).getD i 0=0:=by simp only [List.getD]; rw [List.getElem?_eq_none (by simp; omega)]; rfl
  omega
theorem val_lt {l:List Nat} (h:Dg l):∀ k,val (l.take k)<1000000000 ^ k
 | 0=>by simp [val]
 | k+1=>by
  have h1:=val_lt h k
  have h2:=h k
  rw [val_take,Nat.pow_succ]
  generalize 1000000000 ^ k=p at *
  generalize l.getD k 0=d at *
  have:p*d≤p*999999999:=Nat.mul_le_mul_left _ (by omega)
  omega
theorem val_lt' {l:List Nat} (h:Dg l):val l<1000000000 ^ l.length:=by
 have:=val_lt h l.length
 rwa [List.take_of_length_le (Nat.le_refl _)] at this
def Can (l:List Nat):Prop:=l≠[]→l.getD (l.length - 1) 0≠0
theorem val_ge {l:List Nat} (h:Can l) (hl:l≠[]):1000000000 ^ (l.length - 1)≤val l:=by
 have h1:=h hl
 have hp:0<l.length:=List.length_pos_iff.mpr hl
 have e:=val_take l (l.length - 1)
 rw [show l.length - 1+1=l.length by omega,List.take_of_length_le (Nat.le_refl _)] at e
 rw [e]
 generalize 1000000000 ^ (l.length - 1)=p at *
 generalize l.getD (l.length - 1) 0=d at *
 have:p*1≤p*d:=Nat.mul_le_mul_left _ (by omega)
 omega
theorem val_zero {l:List Nat} (h:Can l):val l=0↔l=[]:=by
 constructor
 ·intro e
  rcases Classical.em (l=[]) with h1 | h1
  ·exact h1
  ·have:=val_ge h h1
   have:0<1000000000 ^ (l.length - 1):=Nat.pow_pos (by omega)
   omega
 ·intro e; subst e; rfl
structure Nm (w:World) (v:Value) (z:Int) (m:Nat):Prop where
 at_:∃ (neg:Bool) (A:Option Addr) (c:Nat) (l:List Nat),v=.agg ⟨[.bool neg,.slice A l.length c]⟩∧Rd vd w A c l∧Dg l∧Can l∧l.length≤m∧(neg=true→l≠[])∧z=bif neg then -(val l:Int) else (val l:Int)
theorem Nm.grown {w w':World} {v:Value} {z:Int} {m:Nat} (h:Nm w v z m) (hg:w.grownBy w' none):Nm w' v z m:=by
 obtain ⟨neg,A,c,l,h1,h2,h3⟩:=h
 exact ⟨neg,A,c,l,h1,h2.grown hg,h3⟩
theorem Nm.mono {w:World} {v:Value} {z:Int} {m m':Nat} (h:Nm w v z m) (hm:m≤m'):Nm w v z m':=by
 obtain ⟨neg,A,c,l,h1,h2,h3,h4,h5,h6⟩:=h
 exact ⟨neg,A,c,l,h1,h2,h3,h4,by omega,h6⟩
theorem made_end {w w':World} {g:Nat} {neg:Bool} {A:Option Addr} {c:Nat} {l j:List Nat} (hR:Rd vd w A c j) (hg:w.grownBy w' (some g)) (hA:blk A≠some g∨j=[]) (hD:Dg j) (hC:Can j) (hj:j.length≤l.length) (hv:val j=val l) :
  Nm w' (.agg ⟨[.bool (bif neg then decide ((0:Int)<(j.length:Int)) else false),.slice A j.length c]⟩) (bif neg then -(val l:Int) else (val l:Int)) l.length:=by
 refine ⟨_,A,c,j,rfl,hR.keep' hg (fun hne q hq e=>?_),hD,hC,hj,fun h=>?_,?_⟩
 ·injection hq with hq
  subst hq
  rcases hA with hA | hA
  ·exact hA e
  ·exact hne hA
 ·cases neg
  ·cases h
  ·intro e; subst e; simp at h
 ·rw [←hv]
  cases neg
  ·rfl
  ·rcases Classical.em (j=[]) with e | e
   ·subst e; rfl
   ·have:0<j.length:=List.length_pos_iff.mpr e
    simp [this]
def Lies (v:Value) (p:Nat→Prop):Prop:=∀ neg A n c,v=.agg ⟨[.bool neg,.slice A n c]⟩→∀ g,blk A=some g→p g
theorem Lies.mk {neg:Bool} {A:Option Addr} {n c:Nat} {p:Nat→Prop} (h:∀ g,blk A=some g→p g):Lies (.agg ⟨[.bool neg,.slice A n c]⟩) p:=fun neg' A' n' c' e=>by
 simp only [Value.agg.injEq,Array.mk.injEq,List.cons.injEq,Value.slice.injEq] at e
 obtain ⟨_,⟨rfl,_⟩,_⟩:=e
 exact h
theorem made_fn' (neg:Bool) (A:Option Addr) (c:Nat) (l:List Nat) (w:World) (hR:Rd vd w A c l) (hD:Dg l) (hl:l.length≤1000000) :
  Fn Tryz.prog 89 ⟨[.bool neg,.slice A l.length c]⟩ w fun v w'=>Nm w' v (bif neg then -(val l:Int) else (val l:Int)) l.length∧w.grownBy w' none∧Lies v (fun q=>blk A=some q):=by
 refine Fn.enter (by kernel_rfl) Tryz.func89 rfl Tryz.ntmps89 rfl ?_
 repeat (first | refine WC.seq ?_ | refine WC.block ?_ | refine WC.region ?_ | refine WL.nil ?_ | refine WX.then_normal ?_ | refine WC.skip ?_ | refine WC.exit ?_ | refine WC.ret ?_ | refine WX.then_exit ?_ | refine WX.then_ret ?_ | refine WX.block_normal ?_ | refine WX.block_ret ?_ | refine WX.block_same ?_ | refine WX.block_other rfl ?_ | refine WC.label ?_ | refine WC.scope ?_ | refine WX.scope_normal ?_ | refine WX.scope_ret ?_ | refine WX.scope_exit ?_ | refine WL.y rfl (Yld.sub rfl rfl (by simp only [In]; omega)) ?_ | refine WL.y rfl (Yld.pure za rfl) ?_ | refine WL.y rfl (Yld.pickV rfl rfl rfl) ?_ | refine WL.gno rfl rfl rfl rfl ?_ | refine WL.gyes rfl rfl rfl rfl (Yld.sub rfl rfl (by simp only [In]; omega)) ?_ | refine WL.gyes rfl rfl rfl rfl (Yld.pure za rfl) ?_)
 refine WL.alloc rfl zero75 (fun g w1 hB1 hg1 hl1=>?_)
 repeat (first | refine WC.seq ?_ | refine WC.block ?_ | refine WC.region ?_ | refine WL.nil ?_ | refine WX.then_normal ?_ | refine WC.skip ?_ | refine WC.exit ?_ | refine WC.ret ?_ | refine WX.then_exit ?_ | refine WX.then_ret ?_ | refine WX.block_normal ?_ | refine WX.block_ret ?_ | refine WX.block_same ?_ | refine WX.block_other rfl ?_ | refine WC.label ?_ | refine WC.scope ?_ | refine WX.scope_normal ?_ | refine WX.scope_ret ?_ | refine WX.scope_exit ?_ | refine WL.y rfl (Yld.sub rfl rfl (by simp only [In]; omega)) ?_ | refine WL.y rfl (Yld.pure za rfl) ?_ | refine WL.y rfl (Yld.pickV rfl rfl rfl) ?_ | refine WL.gno rfl rfl rfl rfl ?_ | refine WL.gyes rfl rfl rfl rfl (Yld.sub rfl rfl (by simp only [In]; omega)) ?_ | refine WL.gyes rfl rfl rfl rfl (Yld.pure za rfl) ?_)
 refine WC.loop3 (fun j _ _=>j.length) (fun j A' c'=>[(1,.slice A' j.length c'),(0,.bool neg),(4,.pointer (some ⟨g,0,none⟩))])
  (fun j A' c' w2=>Dg j∧j.length≤l.length∧val j=val l∧Rd vd w1 A' c' j∧(blk A'≠some g∨j=[])∧(∀ q,blk A'=some q→blk A=some q)∧w2=w1) l A c ⟨hD,by simp,rfl,hR.grown hg1,?_,fun _ e=>e,rfl⟩ (by repeat (first | exact Sub.nil | refine Sub.cons rfl ?_)) (fun j A' c' w2 ⟨hDj,hk,hv,hR2,hgA,hbA,hw2⟩=>?_)
 ·rcases Classical.em (l=[]) with e | e
  ·exact .inr e
  ·exact .inl fun q=>by have:=hR.lt e q; omega
 subst hw2
 repeat (first | refine WC.seq ?_ | refine WC.block ?_ | refine WC.region ?_ | refine WL.nil ?_ | refine WX.then_normal ?_ | refine WC.skip ?_ | refine WC.exit ?_ | refine WC.ret ?_ | refine WX.then_exit ?_ | refine WX.then_ret ?_ | refine WX.block_normal ?_ | refine WX.block_ret ?_ | refine WX.block_same ?_ | refine WX.block_other rfl ?_ | refine WC.label ?_ | refine WC.scope ?_ | refine WX.scope_normal ?_ | refine WX.scope_ret ?_ | refine WX.scope_exit ?_ | refine WL.y rfl (Yld.sub rfl rfl (by simp only [In]; omega)) ?_ | refine WL.y rfl (Yld.pure za rfl) ?_ | refine WL.y rfl (Yld.pickV rfl rfl rfl) ?_ | refine WL.gno rfl rfl rfl rfl ?_ | refine WL.gyes rfl rfl rfl rfl (Yld.sub rfl rfl (by simp only [In]; omega)) ?_ | refine WL.gyes rfl rfl rfl rfl (Yld.pure za rfl) ?_)
 generalize hb:decide ((0:Int)<(j.length:Int))=b
 cases b
 ·simp only [decide_eq_false_iff_not] at hb
  obtain rfl:j=[]:=List.length_eq_zero_iff.mp (by omega)
  have hCj:Can []:=fun h=>absurd rfl h
  repeat (first | refine WC.seq ?_ | refine WC.block ?_ | refine WC.region ?_ | refine WL.nil ?_ | refine WX.then_normal ?_ | refine WC.skip ?_ | refine WC.exit ?_ | refine WC.ret ?_ | refine WX.then_exit ?_ | refine WX.then_ret ?_ | refine WX.block_normal ?_ | refine WX.block_ret ?_ | refine WX.block_same ?_ | refine WX.block_other rfl ?_ | refine WC.label ?_ | refine WC.scope ?_ | refine WX.scope_normal ?_ | refine WX.scope_ret ?_ | refine WX.scope_exit ?_ | refine WL.y rfl (Yld.sub rfl rfl (by simp only [In]; omega)) ?_ | refine WL.y rfl (Yld.pure za rfl) ?_ | refine WL.y rfl (Yld.pickV rfl rfl rfl) ?_ | refine WL.gno rfl rfl rfl rfl ?_ | refine WL.gyes rfl rfl rfl rfl (Yld.sub rfl rfl (by simp only [In]; omega)) ?_ | refine WL.gyes rfl rfl rfl rfl (Yld.pure za rfl) ?_)
  refine WC.cond rfl (fun h=>by cases h) (fun _=>?_)
  repeat (first | refine WC.seq ?_ | refine WC.block ?_ | refine WC.region ?_ | refine WL.nil ?_ | refine WX.then_normal ?_ | refine WC.skip ?_ | refine WC.exit ?_ | refine WC.ret ?_ | refine WX.then_exit ?_ | refine WX.then_ret ?_ | refine WX.block_normal ?_ | refine WX.block_ret ?_ | refine WX.block_same ?_ | refine WX.block_other rfl ?_ | refine WC.label ?_ | refine WC.scope ?_ | refine WX.scope_normal ?_ | refine WX.scope_ret ?_ | refine WX.scope_exit ?_ | refine WL.y rfl (Yld.sub rfl rfl (by simp only [In]; omega)) ?_ | refine WL.y rfl (Yld.pure za rfl) ?_ | refine WL.y rfl (Yld.pickV rfl rfl rfl) ?_ | refine WL.gno rfl rfl rfl rfl ?_ | refine WL.gyes rfl rfl rfl rfl (Yld.sub rfl rfl (by simp only [In]; omega)) ?_ | refine WL.gyes rfl rfl rfl rfl (Yld.pure za rfl) ?_)
  cases neg
  ·repeat (first | refine WC.seq ?_ | refine WC.block ?_ | refine WC.region ?_ | refine WL.nil ?_ | refine WX.then_normal ?_ | refine WC.skip ?_ | refine WC.exit ?_ | refine WC.ret ?_ | refine WX.then_exit ?_ | refine WX.then_ret ?_ | refine WX.block_normal ?_ | refine WX.block_ret ?_ | refine WX.block_same ?_ | refine WX.block_other rfl ?_ | refine WC.label ?_ | refine WC.scope ?_ | refine WX.scope_normal ?_ | refine WX.scope_ret ?_ | refine WX.scope_exit ?_ | refine WL.y rfl (Yld.sub rfl rfl (by simp only [In]; omega)) ?_ | refine WL.y rfl (Yld.pure za rfl) ?_ | refine WL.y rfl (Yld.pickV rfl rfl rfl) ?_ | refine WL.gno rfl rfl rfl rfl ?_ | refine WL.gyes rfl rfl rfl rfl (Yld.sub rfl rfl (by simp only [In]; omega)) ?_ | refine WL.gyes rfl rfl rfl rfl (Yld.pure za rfl) ?_)
   refine WL.y rfl (Yld.struct (us:=[.bool (bif false then decide ((0:Int)<(([]:List Nat).length:Int)) else false),.slice A' ([]:List Nat).length c']) zero75 places75 rfl rfl) ?_
   refine WL.storeW (vs:=[.bool (bif false then decide ((0:Int)<(([]:List Nat).length:Int)) else false),.slice A' ([]:List Nat).length c']) za rfl rfl rfl (by intro u hu; simp at hu; rcases hu with rfl | rfl <;> rfl) hB1 rfl rfl (fun w3 hB3 hg3=>?_)
   repeat (first | refine WC.seq ?_ | refine WC.block ?_ | refine WC.region ?_ | refine WL.nil ?_ | refine WX.then_normal ?_ | refine WC.skip ?_ | refine WC.exit ?_ | refine WC.ret ?_ | refine WX.then_exit ?_ | refine WX.then_ret ?_ | refine WX.block_normal ?_ | refine WX.block_ret ?_ | refine WX.block_same ?_ | refine WX.block_other rfl ?_ | refine WC.label ?_ | refine WC.scope ?_ | refine WX.scope_normal ?_ | refine WX.scope_ret ?_ | refine WX.scope_exit ?_ | refine WL.y rfl (Yld.sub rfl rfl (by simp only [In]; omega)) ?_ | refine WL.y rfl (Yld.pure za rfl) ?_ | refine WL.y rfl (Yld.pickV rfl rfl rfl) ?_ | refine WL.gno rfl rfl rfl rfl ?_ | refine WL.gyes rfl rfl rfl rfl (Yld.sub rfl rfl (by simp only [In]; omega)) ?_ | refine WL.gyes rfl rfl rfl rfl (Yld.pure za rfl) ?_)
   exact WX.retc za rfl rfl rfl hB3 rfl ⟨made_end hR2 hg3 hgA hDj hCj (by first | exact hk | simp) hv,gr_new hg1 hg3 hl1,Lies.mk hbA⟩
  ·repeat (first | refine WC.seq ?_ | refine WC.block ?_ | refine WC.region ?_ | refine WL.nil ?_ | refine WX.then_normal ?_ | refine WC.skip ?_ | refine WC.exit ?_ | refine WC.ret ?_ | refine WX.then_exit ?_ | refine WX.then_ret ?_ | refine WX.block_normal ?_ | refine WX.block_ret ?_ | refine WX.block_same ?_ | refine WX.block_other rfl ?_ | refine WC.label ?_ | refine WC.scope ?_ | refine WX.scope_normal ?_ | refine WX.scope_ret ?_ | refine WX.scope_exit ?_ | refine WL.y rfl (Yld.sub rfl rfl (by simp only [In]; omega)) ?_ | refine WL.y rfl (Yld.pure za rfl) ?_ | refine WL.y rfl (Yld.pickV rfl rfl rfl) ?_ | refine WL.gno rfl rfl rfl rfl ?_ | refine WL.gyes rfl rfl rfl rfl (Yld.sub rfl rfl (by simp only [In]; omega)) ?_ | refine WL.gyes rfl rfl rfl rfl (Yld.pure za rfl) ?_)
   refine WL.y rfl (Yld.struct (us:=[.bool (bif true then decide ((0:Int)<(([]:List Nat).length:Int)) else false),.slice A' ([]:List Nat).length c']) zero75 places75 rfl rfl) ?_
   refine WL.storeW (vs:=[.bool (bif true then decide ((0:Int)<(([]:List Nat).length:Int)) else false),.slice A' ([]:List Nat).length c']) za rfl rfl rfl (by intro u hu; simp at hu; rcases hu with rfl | rfl <;> rfl) hB1 rfl rfl (fun w3 hB3 hg3=>?_)
   repeat (first | refine WC.seq ?_ | refine WC.block ?_ | refine WC.region ?_ | refine WL.nil ?_ | refine WX.then_normal ?_ | refine WC.skip ?_ | refine WC.exit ?_ | refine WC.ret ?_ | refine WX.then_exit ?_ | refine WX.then_ret ?_ | refine WX.block_normal ?_ | refine WX.block_ret ?_ | refine WX.block_same ?_ | refine WX.block_other rfl ?_ | refine WC.label ?_ | refine WC.scope ?_ | refine WX.scope_normal ?_ | refine WX.scope_ret ?_ | refine WX.scope_exit ?_ | refine WL.y rfl (Yld.sub rfl rfl (by simp only [In]; omega)) ?_ | refine WL.y rfl (Yld.pure za rfl) ?_ | refine WL.y rfl (Yld.pickV rfl rfl rfl) ?_ | refine WL.gno rfl rfl rfl rfl ?_ | refine WL.gyes rfl rfl rfl rfl (Yld.sub rfl rfl (by simp only [In]; omega)) ?_ | refine WL.gyes rfl rfl rfl rfl (Yld.pure za rfl) ?_)
   exact WX.retc za rfl rfl rfl hB3 rfl ⟨made_end hR2 hg3 hgA hDj hCj (by first | exact hk | simp) hv,gr_new hg1 hg3 hl1,Lies.mk hbA⟩
 ·simp only [decide_eq_true_eq] at hb
  repeat (first | refine WL.gyes rfl rfl rfl rfl (Yld.iaddr za hR2 rfl rfl rfl rfl (by omega) (by omega)) ?_ | refine WL.gyes rfl rfl rfl rfl (Yld.iload 0 za hR2 rfl rfl (by omega)) ?_ | refine WC.seq ?_ | refine WC.block ?_ | refine WC.region ?_ | refine WL.nil ?_ | refine WX.then_normal ?_ | refine WC.skip ?_ | refine WC.exit ?_ | refine WC.ret ?_ | refine WX.then_exit ?_ | refine WX.then_ret ?_ | refine WX.block_normal ?_ | refine WX.block_ret ?_ | refine WX.block_same ?_ | refine WX.block_other rfl ?_ | refine WC.label ?_ | refine WC.scope ?_ | refine WX.scope_normal ?_ | refine WX.scope_ret ?_ | refine WX.scope_exit ?_ | refine WL.y rfl (Yld.sub rfl rfl (by simp only [In]; omega)) ?_ | refine WL.y rfl (Yld.pure za rfl) ?_ | refine WL.y rfl (Yld.pickV rfl rfl rfl) ?_ | refine WL.gno rfl rfl rfl rfl ?_ | refine WL.gyes rfl rfl rfl rfl (Yld.sub rfl rfl (by simp only [In]; omega)) ?_ | refine WL.gyes rfl rfl rfl rfl (Yld.pure za rfl) ?_)
  have hjt:((j.length:Int) - 1).toNat=j.length - 1:=by omega
  rw [hjt]
  refine WC.cond rfl (fun h=>?_) (fun h=>?_)
  ·simp only [cond_true,decide_eq_true_eq] at h
   repeat (first | refine WC.seq ?_ | refine WC.block ?_ | refine WC.region ?_ | refine WL.nil ?_ | refine WX.then_normal ?_ | refine WC.skip ?_ | refine WC.exit ?_ | refine WC.ret ?_ | refine WX.then_exit ?_ | refine WX.then_ret ?_ | refine WX.block_normal ?_ | refine WX.block_ret ?_ | refine WX.block_same ?_ | refine WX.block_other rfl ?_ | refine WC.label ?_ | refine WC.scope ?_ | refine WX.scope_normal ?_ | refine WX.scope_ret ?_ | refine WX.scope_exit ?_ | refine WL.y rfl (Yld.sub rfl rfl (by simp only [In]; omega)) ?_ | refine WL.y rfl (Yld.pure za rfl) ?_ | refine WL.y rfl (Yld.pickV rfl rfl rfl) ?_ | refine WL.gno rfl rfl rfl rfl ?_ | refine WL.gyes rfl rfl rfl rfl (Yld.sub rfl rfl (by simp only [In]; omega)) ?_ | refine WL.gyes rfl rfl rfl rfl (Yld.pure za rfl) ?_)
   refine WL.cut za hR2 rfl rfl rfl rfl rfl rfl (by omega) (by omega) (by omega) (fun A2 c2 hR3 hb3=>?_)
   have he:(j.drop (0:Int).toNat).take (((j.length:Int) - 1).toNat - (0:Int).toNat)=j.take (j.length - 1):=by rw [hjt]; simp
   rw [he] at hR3 ⊢
   repeat (first | refine WC.seq ?_ | refine WC.block ?_ | refine WC.region ?_ | refine WL.nil ?_ | refine WX.then_normal ?_ | refine WC.skip ?_ | refine WC.exit ?_ | refine WC.ret ?_ | refine WX.then_exit ?_ | refine WX.then_ret ?_ | refine WX.block_normal ?_ | refine WX.block_ret ?_ | refine WX.block_same ?_ | refine WX.block_other rfl ?_ | refine WC.label ?_ | refine WC.scope ?_ | refine WX.scope_normal ?_ | refine WX.scope_ret ?_ | refine WX.scope_exit ?_ | refine WL.y rfl (Yld.sub rfl rfl (by simp only [In]; omega)) ?_ | refine WL.y rfl (Yld.pure za rfl) ?_ | refine WL.y rfl (Yld.pickV rfl rfl rfl) ?_ | refine WL.gno rfl rfl rfl rfl ?_ | refine WL.gyes rfl rfl rfl rfl (Yld.sub rfl rfl (by simp only [In]; omega)) ?_ | refine WL.gyes rfl rfl rfl rfl (Yld.pure za rfl) ?_)
   refine WX.round3 (j.take (j.length - 1)) A2 c2 ⟨hDj.take _,by rw [List.length_take]; omega,?_,hR3,?_,fun q e=>hbA q (hb3 q e),rfl⟩ (by rw [List.length_take]; omega) (by repeat (first | exact Sub.nil | refine Sub.cons rfl ?_))
   ·have e:=val_take j (j.length - 1)
    rw [show j.length - 1+1=j.length by omega,List.take_of_length_le (Nat.le_refl _),show j.getD (j.length - 1) 0=0 by omega] at e
    omega
   ·rcases hgA with h1 | h1
    ·exact .inl fun q=>h1 (hb3 _ q)
    ·subst h1; simp at hb
  ·simp only [cond_true,decide_eq_false_iff_not] at h
   have hCj:Can j:=fun _ e=>h (by rw [e]; rfl)
   repeat (first | refine WC.seq ?_ | refine WC.block ?_ | refine WC.region ?_ | refine WL.nil ?_ | refine WX.then_normal ?_ | refine WC.skip ?_ | refine WC.exit ?_ | refine WC.ret ?_ | refine WX.then_exit ?_ | refine WX.then_ret ?_ | refine WX.block_normal ?_ | refine WX.block_ret ?_ | refine WX.block_same ?_ | refine WX.block_other rfl ?_ | refine WC.label ?_ | refine WC.scope ?_ | refine WX.scope_normal ?_ | refine WX.scope_ret ?_ | refine WX.scope_exit ?_ | refine WL.y rfl (Yld.sub rfl rfl (by simp only [In]; omega)) ?_ | refine WL.y rfl (Yld.pure za rfl) ?_ | refine WL.y rfl (Yld.pickV rfl rfl rfl) ?_ | refine WL.gno rfl rfl rfl rfl ?_ | refine WL.gyes rfl rfl rfl rfl (Yld.sub rfl rfl (by simp only [In]; omega)) ?_ | refine WL.gyes rfl rfl rfl rfl (Yld.pure za rfl) ?_)
   cases neg
   ·repeat (first | refine WC.seq ?_ | refine WC.block ?_ | refine WC.region ?_ | refine WL.nil ?_ | refine WX.then_normal ?_ | refine WC.skip ?_ | refine WC.exit ?_ | refine WC.ret ?_ | refine WX.then_exit ?_ | refine WX.then_ret ?_ | refine WX.block_normal ?_ | refine WX.block_ret ?_ | refine WX.block_same ?_ | refine WX.block_other rfl ?_ | refine WC.label ?_ | refine WC.scope ?_ | refine WX.scope_normal ?_ | refine WX.scope_ret ?_ | refine WX.scope_exit ?_ | refine WL.y rfl (Yld.sub rfl rfl (by simp only [In]; omega)) ?_ | refine WL.y rfl (Yld.pure za rfl) ?_ | refine WL.y rfl (Yld.pickV rfl rfl rfl) ?_ | refine WL.gno rfl rfl rfl rfl ?_ | refine WL.gyes rfl rfl rfl rfl (Yld.sub rfl rfl (by simp only [In]; omega)) ?_ | refine WL.gyes rfl rfl rfl rfl (Yld.pure za rfl) ?_)
    refine WL.y rfl (Yld.struct (us:=[.bool (bif false then decide ((0:Int)<(j.length:Int)) else false),.slice A' j.length c']) zero75 places75 rfl rfl) ?_
    refine WL.storeW (vs:=[.bool (bif false then decide ((0:Int)<(j.length:Int)) else false),.slice A' j.length c']) za rfl rfl rfl (by intro u hu; simp at hu; rcases hu with rfl | rfl <;> rfl) hB1 rfl rfl (fun w3 hB3 hg3=>?_)
    repeat (first | refine WC.seq ?_ | refine WC.block ?_ | refine WC.region ?_ | refine WL.nil ?_ | refine WX.then_normal ?_ | refine WC.skip ?_ | refine WC.exit ?_ | refine WC.ret ?_ | refine WX.then_exit ?_ | refine WX.then_ret ?_ | refine WX.block_normal ?_ | refine WX.block_ret ?_ | refine WX.block_same ?_ | refine WX.block_other rfl ?_ | refine WC.label ?_ | refine WC.scope ?_ | refine WX.scope_normal ?_ | refine WX.scope_ret ?_ | refine WX.scope_exit ?_ | refine WL.y rfl (Yld.sub rfl rfl (by simp only [In]; omega)) ?_ | refine WL.y rfl (Yld.pure za rfl) ?_ | refine WL.y rfl (Yld.pickV rfl rfl rfl) ?_ | refine WL.gno rfl rfl rfl rfl ?_ | refine WL.gyes rfl rfl rfl rfl (Yld.sub rfl rfl (by simp only [In]; omega)) ?_ | refine WL.gyes rfl rfl rfl rfl (Yld.pure za rfl) ?_)
    exact WX.retc za rfl rfl rfl hB3 rfl ⟨made_end hR2 hg3 hgA hDj hCj (by first | exact hk | simp) hv,gr_new hg1 hg3 hl1,Lies.mk hbA⟩
   ·repeat (first | refine WC.seq ?_ | refine WC.block ?_ | refine WC.region ?_ | refine WL.nil ?_ | refine WX.then_normal ?_ | refine WC.skip ?_ | refine WC.exit ?_ | refine WC.ret ?_ | refine WX.then_exit ?_ | refine WX.then_ret ?_ | refine WX.block_normal ?_ | refine WX.block_ret ?_ | refine WX.block_same ?_ | refine WX.block_other rfl ?_ | refine WC.label ?_ | refine WC.scope ?_ | refine WX.scope_normal ?_ | refine WX.scope_ret ?_ | refine WX.scope_exit ?_ | refine WL.y rfl (Yld.sub rfl rfl (by simp only [In]; omega)) ?_ | refine WL.y rfl (Yld.pure za rfl) ?_ | refine WL.y rfl (Yld.pickV rfl rfl rfl) ?_ | refine WL.gno rfl rfl rfl rfl ?_ | refine WL.gyes rfl rfl rfl rfl (Yld.sub rfl rfl (by simp only [In]; omega)) ?_ | refine WL.gyes rfl rfl rfl rfl (Yld.pure za rfl) ?_)
    refine WL.y rfl (Yld.struct (us:=[.bool (bif true then decide ((0:Int)<(j.length:Int)) else false),.slice A' j.length c']) zero75 places75 rfl rfl) ?_
    refine WL.storeW (vs:=[.bool (bif true then decide ((0:Int)<(j.length:Int)) else false),.slice A' j.length c']) za rfl rfl rfl (by intro u hu; simp at hu; rcases hu with rfl | rfl <;> rfl) hB1 rfl rfl (fun w3 hB3 hg3=>?_)
    repeat (first | refine WC.seq ?_ | refine WC.block ?_ | refine WC.region ?_ | refine WL.nil ?_ | refine WX.then_normal ?_ | refine WC.skip ?_ | refine WC.exit ?_ | refine WC.ret ?_ | refine WX.then_exit ?_ | refine WX.then_ret ?_ | refine WX.block_normal ?_ | refine WX.block_ret ?_ | refine WX.block_same ?_ | refine WX.block_other rfl ?_ | refine WC.label ?_ | refine WC.scope ?_ | refine WX.scope_normal ?_ | refine WX.scope_ret ?_ | refine WX.scope_exit ?_ | refine WL.y rfl (Yld.sub rfl rfl (by simp only [In]; omega)) ?_ | refine WL.y rfl (Yld.pure za rfl) ?_ | refine WL.y rfl (Yld.pickV rfl rfl rfl) ?_ | refine WL.gno rfl rfl rfl rfl ?_ | refine WL.gyes rfl rfl rfl rfl (Yld.sub rfl rfl (by simp only [In]; omega)) ?_ | refine WL.gyes rfl rfl rfl rfl (Yld.pure za rfl) ?_)
    exact WX.retc za rfl rfl rfl hB3 rfl ⟨made_end hR2 hg3 hgA hDj hCj (by first | exact hk | simp) hv,gr_new hg1 hg3 hl1,Lies.mk hbA⟩
end Go.Proofs.YtjjcdkfhaceicaaGreatDoor
 namespace Go.Proofs.YtjjcdkfhaceicaaGreatDoor
open Go Go.RowKit
attribute [local irreducible] WL WC WX WQ Yld Eff Fn
theorem Rd.ofBl' {α:Type} {f:α→Value} {w:World} {g:Nat} {e:TypeId} {xs:List α} {m:Nat} (h:Bl w g e (xs.map f)) (hm:xs.length≤m) (h63:m≤maxLen):Rd f w (some ⟨g,0,none⟩) m xs :=
 ⟨hm,h63,fun _=>⟨_,rfl,fun j x hj=>by rw [Addr.add_mid,Nat.zero_add,h.cell]; simp [hj]⟩⟩
end Go.Proofs.YtjjcdkfhaceicaaGreatDoor
 namespace Go.Proofs.YtjjcdkfhaceicaaGreatDoor
open Go Go.RowKit
attribute [local irreducible] WL WC WX WQ Yld Eff Fn
end Go.Proofs.YtjjcdkfhaceicaaGreatDoor
 namespace Go.Proofs.YtjjcdkfhaceicaaGreatDoor
open Go Go.RowKit
attribute [local irreducible] WL WC WX WQ Yld Eff Fn
end Go.Proofs.YtjjcdkfhaceicaaGreatDoor
 namespace Go.Proofs.YtjjcdkfhaceicaaGreatDoor
open Go Go.RowKit
attribute [local irreducible] WL WC WX WQ Yld Eff Fn
theorem Rd.apart {α:Type} {f:α→Value} {w:World} {A:Option Addr} {c g:Nat} {e:TypeId} {xs:List α} {us:List Value} (h:Rd f w A c xs) (hB:Bl w g e us) (hn:∀ u∈us,∀ x,u≠f x) (hx:xs≠[]):blk A≠some g:=by
 intro e1
 obtain ⟨ad,rfl,hc⟩:=h.cells hx
 obtain ⟨x,l,rfl⟩:=List.exists_cons_of_ne_nil hx
 have h0:=hc 0 x rfl
 have hb:(ad.add 0).block=g:=by rw [addr_block]; simpa [blk] using e1
 unfold World.cell? at h0
 unfold Bl at hB
 rw [hb,hB] at h0
 simp only at h0
 split at h0
 ·cases h0
 ·have h1:us[(ad.add 0).off]?=some (f x):=by simpa using h0
  exact hn _ (List.mem_of_getElem? h1) x rfl
theorem Nm.stored {w w':World} {g:Nat} {e:TypeId} {us:List Value} {v:Value} {z:Int} {m:Nat} (h:Nm w v z m) (hB:Bl w g e us) (hn:∀ u∈us,∀ x,u≠vd x) (hg:w.grownBy w' (some g)):Nm w' v z m:=by
 obtain ⟨neg,A,c,l,h1,h2,h3⟩:=h
 exact ⟨neg,A,c,l,h1,h2.keep' hg (fun hne q hq=>by injection hq with hq; subst hq; exact h2.apart hB hn hne),h3⟩
theorem Nm.agg {w:World} {v:Value} {z:Int} {m:Nat} (h:Nm w v z m):∃ a b,v=.agg ⟨[a,b]⟩∧a.oneCell'=true∧b.oneCell'=true:=by
 obtain ⟨neg,A,c,l,h1,_⟩:=h
 exact ⟨_,_,h1,rfl,rfl⟩
theorem zero_no:∀ u∈[Value.bool false,Value.slice none 0 0],∀ x,u≠vd x:=by
 intro u hu x
 simp only [List.mem_cons,List.not_mem_nil,or_false] at hu
 rcases hu with rfl | rfl <;> intro e <;> cases e
end Go.Proofs.YtjjcdkfhaceicaaGreatDoor
 
namespace Go.Proofs.YtjjcdkfhaceicaaGreatDoor
open Go Go.RowKit
def dc (n:Nat):UInt8:=UInt8.ofNat (48+n % 10)
theorem dc_toNat (n:Nat):(dc n).toNat=48+n % 10:=by unfold dc; simp; omega
def pd:Nat→Nat→List UInt8
 | 0,_=>[]
 | k+1,n=>dc n :: pd k (n / 10)
def dd (n:Nat):List UInt8:=if h:n=0 then [] else dc n :: dd (n / 10)
 decreasing_by omega
theorem dd_zero:dd 0=[]:=by rw [dd]; simp
theorem dd_pos {n:Nat} (h:0<n):dd n=dc n :: dd (n / 10):=by rw [dd]; simp [Nat.ne_of_gt h]
theorem pd_dd:∀ (k x y:Nat),x<10 ^ k→0<y→dd (x+10 ^ k*y)=pd k x++dd y
 | 0,x,y,hx,_=>by
  have:x=0:=by simpa using hx
  subst this; simp [pd]
 | k+1,x,y,hx,hy=>by
  have hp:0<10 ^ k:=Nat.pow_pos (by omega)
  have h1:0<x+10 ^ (k+1)*y:=by
   have:0<10 ^ (k+1)*y:=Nat.mul_pos (Nat.pow_pos (by omega)) hy
   omega
  have e:10 ^ (k+1)*y=10*(10 ^ k*y):=by rw [Nat.pow_succ]; grind
  rw [dd_pos h1,e]
  have h2:(x+10*(10 ^ k*y)) / 10=x / 10+10 ^ k*y:=by omega
  have h3:dc (x+10*(10 ^ k*y))=dc x:=by unfold dc; congr 2; omega
  rw [h2,h3,pd_dd k (x / 10) y (by rw [Nat.pow_succ] at hx; omega) hy]
  rfl
def rest (k v y:Nat):List UInt8:=if y=0 then dd v else pd (9 - k) v++dd y
theorem rest_start (x y:Nat) (hx:x<1000000000):dd (x+1000000000*y)=rest 0 x y:=by
 unfold rest
 split
 ·rename_i h; subst h; simp
 ·exact pd_dd 9 x y (by omega) (by omega)
theorem rest_step (k v y:Nat) (hk:k<9) (h:0<v∨0<y):rest k v y=dc v :: rest (k+1) (v / 10) y:=by
 unfold rest
 split
 ·exact dd_pos (by omega)
 ·rw [show 9 - k=(9 - (k+1))+1 by omega]; rfl
theorem rest_end (k v y:Nat) (hk:k≤9) (hv:v<10 ^ (9 - k)) (h:¬ (k<9∧(0<v∨0<y))):rest k v y=dd y:=by
 unfold rest
 rcases Nat.lt_or_ge k 9 with h9 | h9
 ·have:v=0∧y=0:=by omega
  rw [this.1,this.2]; simp
 ·obtain rfl:k=9:=by omega
  have:v=0:=by simpa using hv
  subst this
  split
  ·rename_i h; rw [h]
  ·simp [pd]
theorem drop_cons' (l:List Nat) (i:Nat) (h:i<l.length):val (l.drop i)=l.getD i 0+1000000000*val (l.drop (i+1)):=by
 rw [List.drop_eq_getElem_cons h]; simp [List.getD,h,val]
theorem drop_pos {l:List Nat} (hC:Can l) (i:Nat):i<l.length↔0<val (l.drop i):=by
 constructor
 ·intro h
  have hne:l.drop i≠[]:=by intro e; have:=congrArg List.length e; simp at this; omega
  have hC2:Can (l.drop i):=fun _=>by
   have h1:=hC (by intro e; subst e; simp at h)
   rw [List.length_drop]
   have:(l.drop i).getD (l.length - i - 1) 0=l.getD (l.length - 1) 0:=by
    simp only [List.getD,List.getElem?_drop]; congr 2; omega
   rw [this]; exact h1
  have:=(val_zero hC2)
  rcases Nat.eq_zero_or_pos (val (l.drop i)) with e | e
  ·exact absurd (this.mp e) hne
  ·exact e
 ·intro h
  rcases Nat.lt_or_ge i l.length with h1 | h1
  ·exact h1
  ·rw [List.drop_eq_nil_of_le h1] at h; simp [val] at h
def txt (x:Int):List UInt8:=if x=0 then [48] else (if x<0 then [45] else [])++(dd x.natAbs).reverse
theorem dd_len:∀ (m n:Nat),n<10 ^ m→(dd n).length≤m
 | 0,n,h=>by
  have:n=0:=by simpa using h
  subst this; simp [dd_zero]
 | m+1,n,h=>by
  rcases Nat.eq_zero_or_pos n with e | e
  ·subst e; simp [dd_zero]
  ·rw [dd_pos e]
   have:=dd_len m (n / 10) (by rw [Nat.pow_succ] at h; omega)
   simp; omega
end Go.Proofs.YtjjcdkfhaceicaaGreatDoor
 
namespace Go.Proofs.YtjjcdkfhaceicaaGreatDoor
open Go Go.RowKit
inductive PV where
 | nil
 | none
 | int (z:Int)
 | emp
 | tup (l:List Int)
 deriving DecidableEq,Inhabited
inductive PS where
 | nil
 | mk (id:Nat) (order:Int) (own:List PV) (fr:List PS) (deep:Int) (empty:Bool)
def PS.isNil:PS→Bool
 | .nil=>true
 | _=>false
def PS.id:PS→Nat
 | .nil=>0
 | .mk i _ _ _ _ _=>i
def PS.order:PS→Int
 | .nil=>0
 | .mk _ o _ _ _ _=>o
def PS.own:PS→List PV
 | .nil=>[]
 | .mk _ _ l _ _ _=>l
def PS.fr:PS→List PS
 | .nil=>[]
 | .mk _ _ _ l _ _=>l
def PS.deep:PS→Int
 | .nil=>0
 | .mk _ _ _ _ d _=>d
def PS.empty:PS→Bool
 | .nil=>true
 | .mk _ _ _ _ _ e=>e
inductive zV (s:PS):PS→Prop
 | refl:zV s s
 | step {x f:PS}:zV s x→f∈x.fr→zV s f
def keyP:PV→List UInt8
 | .int z=>73 :: (txt z++[59])
 | _=>[]
def OV:={ v:Value // v.oneCell'=true }
abbrev VH:=OV × (Nat→Prop)
def vv (h:VH):Value:=h.1.1
theorem One.vv:One vv:=fun h=>h.1.2
abbrev vnil:OV:=⟨.nilIface,rfl⟩
abbrev pnil:OV:=⟨.pointer none,rfl⟩
abbrev noF:Nat→Prop:=fun _=>False
def vh0:VH:=(vnil,noF)
def AI (w:World) (F:Nat→Prop) (v:Value) (z:Int):Prop:=∃ a b,v=.iface 208 (.agg ⟨[a,b]⟩)∧Nm w (.agg ⟨[a,b]⟩) z 3∧Lies (.agg ⟨[a,b]⟩) F
def VR (w:World) (F:Nat→Prop) (v:Value):PV→Prop
 | .nil=>v=.nilIface
 | .none=>v=.iface 221 (.agg ⟨[]⟩)
 | .int z=>AI w F v z
 | .emp=>∃ g A c,v=.iface 61 (.pointer (some ⟨g,0,none⟩))∧Bl w g 166 [.slice A 0 c,.bool false,.int .i64 0]∧c≤maxLen∧F g
 | .tup l=>∃ g A c,∃ hs:List VH,v=.iface 155 (.pointer (some ⟨g,0,none⟩))∧Bl w g 158 [.slice A l.length c]∧Rd vv w A c hs∧hs.length=l.length∧(∀ q,blk A=some q→F q)∧F g∧∀ (i:Nat) (h:VH) (z:Int),hs[i]?=some h→l[i]?=some z→AI w F h.1.1 z
def SRn:Nat→World→(Nat→Prop)→Value→PS→Prop
 | _,_,_,v,.nil=>v=.pointer none
 | 0,_,_,_,.mk ..=>False
 | n+1,w,F,v,.mk id order own fr deep empty=>v=.pointer (some ⟨id,0,none⟩)∧F id∧∃ Ao co Ak ck Af cf,∃ ho hf:List VH,
   Bl w id 126 [.int .i64 order,.slice Ao own.length co,.slice Ak own.length ck,.slice Af fr.length cf,.int .i64 deep,.bool empty] ∧
   Rd vv w Ao co ho∧ho.length=own.length∧(∀ q,blk Ao=some q→F q)∧(∀ (i:Nat) (h:VH) (x:PV),ho[i]?=some h→own[i]?=some x→∃ z,x=.int z∧AI w F h.1.1 z) ∧
   Rd vs w Ak ck (own.map keyP)∧(∀ q,blk Ak=some q→F q) ∧
   Rd vv w Af cf hf∧hf.length=fr.length∧(∀ q,blk Af=some q→F q)∧(∀ (i:Nat) (h:VH) (x:PS),hf[i]?=some h→fr[i]?=some x→x≠.nil∧SRn n w F h.1.1 x)
section
variable {w w':World} {F F':Nat→Prop} {v:Value} {ps:List (Option Nat)}
theorem Rd.goF {α:Type} {f:α→Value} {A:Option Addr} {c:Nat} {xs:List α} (h:Rd f w A c xs) (hb:∀ q,blk A=some q→F q) (hg:GrL ps w w') (hd:AllP (fun p=>∀ g,p=some g→¬ F g) ps):Rd f w' A c xs :=
 h.goL hg fun p hp _ g hg' e=>hd p hp g e (hb g hg')
theorem Bl.goF {g:Nat} {e:TypeId} {us:List Value} (h:Bl w g e us) (hb:F g) (hg:GrL ps w w') (hd:AllP (fun p=>∀ g,p=some g→¬ F g) ps):Bl w' g e us :=
 h.goL hg fun p hp q hq e=>by cases hq; exact hd p hp g e hb
theorem AI.goL {z:Int} (h:AI w F v z) (hg:GrL ps w w') (hd:AllP (fun p=>∀ g,p=some g→¬ F g) ps):AI w' F v z:=by
 obtain ⟨a,b,rfl,hN,hL⟩:=h
 refine ⟨a,b,rfl,?_,hL⟩
 obtain ⟨neg,A,c,l,h1,h2,h3⟩:=hN
 exact ⟨neg,A,c,l,h1,h2.goF (fun q hq=>hL _ _ _ _ h1 q hq) hg hd,h3⟩
theorem AI.mono {z:Int} (h:AI w F v z) (hF:∀ g,F g→F' g):AI w F' v z:=by
 obtain ⟨a,b,rfl,hN,hL⟩:=h
 exact ⟨a,b,rfl,hN,fun _ _ _ _ e g hg=>hF g (hL _ _ _ _ e g hg)⟩
theorem VR.goL {p:PV} (h:VR w F v p) (hg:GrL ps w w') (hd:AllP (fun p=>∀ g,p=some g→¬ F g) ps):VR w' F v p:=by
 cases p with
 | nil=>exact h
 | none=>exact h
 | int z=>exact AI.goL h hg hd
 | emp=>obtain ⟨g,A,c,h1,h2,h3,h4⟩:=h; exact ⟨g,A,c,h1,h2.goF h4 hg hd,h3,h4⟩
 | tup l =>
  obtain ⟨g,A,c,hs,h1,h2,h3,h4,h5,h6,h7⟩:=h
  exact ⟨g,A,c,hs,h1,h2.goF h6 hg hd,h3.goF h5 hg hd,h4,h5,h6,fun i h z hh hz=>(h7 i h z hh hz).goL hg hd⟩
theorem VR.mono {p:PV} (h:VR w F v p) (hF:∀ g,F g→F' g):VR w F' v p:=by
 cases p with
 | nil=>exact h
 | none=>exact h
 | int z=>exact AI.mono h hF
 | emp=>obtain ⟨g,A,c,h1,h2,h3,h4⟩:=h; exact ⟨g,A,c,h1,h2,h3,hF g h4⟩
 | tup l =>
  obtain ⟨g,A,c,hs,h1,h2,h3,h4,h5,h6,h7⟩:=h
  exact ⟨g,A,c,hs,h1,h2,h3,h4,fun q hq=>hF q (h5 q hq),hF g h6,fun i h z hh hz=>(h7 i h z hh hz).mono hF⟩
theorem SRn.goL:∀ {n:Nat} {v:Value} {p:PS},SRn n w F v p→GrL ps w w'→AllP (fun p=>∀ g,p=some g→¬ F g) ps→SRn n w' F v p
 | n,v,.nil,h,_,_=>by cases n <;> exact h
 | 0,v,.mk ..,h,_,_=>h.elim
 | n+1,v,.mk ..,h,hg,hd=>by
  obtain ⟨h1,h2,Ao,co,Ak,ck,Af,cf,ho,hf,hB,o1,o2,o3,o4,k1,k2,f1,f2,f3,f4⟩:=h
  exact ⟨h1,h2,Ao,co,Ak,ck,Af,cf,ho,hf,hB.goF h2 hg hd,o1.goF o3 hg hd,o2,o3,fun i h x hh hx=>by obtain ⟨z,e,k⟩:=o4 i h x hh hx; exact ⟨z,e,k.goL hg hd⟩,
   k1.goF k2 hg hd,k2,f1.goF f3 hg hd,f2,f3,fun i h x hh hx=>⟨(f4 i h x hh hx).1,SRn.goL (f4 i h x hh hx).2 hg hd⟩⟩
theorem SRn.mono (hF:∀ g,F g→F' g):∀ {n:Nat} {v:Value} {p:PS},SRn n w F v p→SRn n w F' v p
 | n,v,.nil,h=>by cases n <;> exact h
 | 0,v,.mk ..,h=>h.elim
 | n+1,v,.mk ..,h=>by
  obtain ⟨h1,h2,Ao,co,Ak,ck,Af,cf,ho,hf,hB,o1,o2,o3,o4,k1,k2,f1,f2,f3,f4⟩:=h
  exact ⟨h1,hF _ h2,Ao,co,Ak,ck,Af,cf,ho,hf,hB,o1,o2,fun q hq=>hF q (o3 q hq),fun i h x hh hx=>by obtain ⟨z,e,k⟩:=o4 i h x hh hx; exact ⟨z,e,k.mono hF⟩,
   k1,fun q hq=>hF q (k2 q hq),f1,f2,fun q hq=>hF q (f3 q hq),fun i h x hh hx=>⟨(f4 i h x hh hx).1,SRn.mono hF (f4 i h x hh hx).2⟩⟩
theorem SRn.up:∀ {n:Nat} {v:Value} {p:PS},SRn n w F v p→SRn (n+1) w F v p
 | n,v,.nil,h=>by cases n <;> exact h
 | 0,v,.mk ..,h=>h.elim
 | n+1,v,.mk ..,h=>by
  obtain ⟨h1,h2,Ao,co,Ak,ck,Af,cf,ho,hf,hB,o1,o2,o3,o4,k1,k2,f1,f2,f3,f4⟩:=h
  exact ⟨h1,h2,Ao,co,Ak,ck,Af,cf,ho,hf,hB,o1,o2,o3,o4,k1,k2,f1,f2,f3,fun i h x hh hx=>⟨(f4 i h x hh hx).1,SRn.up (f4 i h x hh hx).2⟩⟩
theorem SRn.le {n m:Nat} {p:PS} (h:SRn n w F v p) (hm:n≤m):SRn m w F v p:=by
 induction hm with
 | refl=>exact h
 | step _ ih=>exact ih.up
end
def deV:DE VH PV where
 rel w h x:=VR w h.2 h.1.1 x∧∀ g,h.2 g→g<w.heap.size
 dn h _ p:=∀ g,p=some g→¬ h.2 g
 goL h k a:=⟨h.1.goL k a,fun g hg=>Nat.lt_of_lt_of_le (h.2 g hg) k.size⟩
 new h k:=fun g e hg=>by have:=h.2 g hg; have:=k g e; omega
 app h a k:=fun g e hg=>by
  rcases k g e with h1 | h1
  ·have:=h.2 g hg; omega
  ·exact a _ h1 g rfl hg
def deS:DE VH PS where
 rel w h x:=(∃ n,SRn n w h.2 h.1.1 x)∧∀ g,h.2 g→g<w.heap.size
 dn h _ p:=∀ g,p=some g→¬ h.2 g
 goL h k a:=⟨h.1.elim fun n h=>⟨n,h.goL k a⟩,fun g hg=>Nat.lt_of_lt_of_le (h.2 g hg) k.size⟩
 new h k:=fun g e hg=>by have:=h.2 g hg; have:=k g e; omega
 app h a k:=fun g e hg=>by
  rcases k g e with h1 | h1
  ·have:=h.2 g hg; omega
  ·exact a _ h1 g rfl hg
section
variable {H X:Type} {d:DE H X} {w:World} {h:H} {x:X} {p:Option Nat} {F:Nat→Prop} {v:Value}
theorem RelD.nilx {w:World} {hs:List H} {xs:List X} (k:RelD d w hs xs) (e:hs=[]):xs=[]:=by
 subst e
 exact List.length_eq_zero_iff.1 k.1.symm
theorem RelD.one (k:RelD d w [h] [x]):d.rel w h x:=k.2 0 h x rfl rfl
theorem DnD.one (k:DnD d [h] [x] p):d.dn h x p:=k 0 h x rfl rfl
theorem deS_nil:RelD deS w [(pnil,noF)] [.nil]:=RelD.cons ⟨⟨0,rfl⟩,fun _ h=>h.elim⟩ RelD.nil
theorem deS_nilD:DnD deS [(pnil,noF)] [.nil] p:=DnD.cons (fun _ _ h=>h) DnD.nil
theorem VR.one {p:PV} (h:VR w F v p):v.oneCell'=true:=by
 cases p with
 | nil=>rw [h]; rfl
 | none=>rw [h]; rfl
 | int z=>obtain ⟨a,b,rfl,_⟩:=h; rfl
 | emp=>obtain ⟨g,A,c,rfl,_⟩:=h; rfl
 | tup l=>obtain ⟨g,A,c,hs,rfl,_⟩:=h; rfl
theorem SRn.ptr {n:Nat} {p:PS} (h:SRn n w F v p):v=.pointer (if p.isNil then none else some ⟨p.id,0,none⟩):=by
 cases p with
 | nil=>cases n <;> exact h
 | mk=>cases n with
  | zero=>exact h.elim
  | succ n=>exact h.1
theorem SRn.reach {n:Nat} {s y:PS} (h:SRn n w F v s) (k:zV s y):y≠.nil→∃ m u,SRn m w F u y:=by
 have key:s=.nil∨∃ m u,SRn m w F u y:=by
  induction k with
  | refl=>exact .inr ⟨n,v,h⟩
  | @step x f hx hf ih =>
   rcases ih with e | ⟨m,u,hm⟩
   ·exact .inl e
   ·cases x with
    | nil=>simp [PS.fr] at hf
    | mk id o own fr d e =>
     cases m with
     | zero=>exact hm.elim
     | succ m =>
      obtain ⟨_,_,Ao,co,Ak,ck,Af,cf,ho,hq,_,_,_,_,_,_,_,_,f2,_,f4⟩:=hm
      obtain ⟨j,hj,rfl⟩:=List.getElem_of_mem hf
      exact .inr ⟨m,_,(f4 j _ _ (List.getElem?_eq_getElem (by rw [f2]; exact hj)) (List.getElem?_eq_getElem hj)).2⟩
 intro hn
 rcases key with e | h'
 ·subst e
  exfalso
  have:∀ y,zV PS.nil y→y=.nil:=fun y k=>by
   induction k with
   | refl=>rfl
   | step _ hf ih=>subst ih; simp [PS.fr] at hf
  exact hn (this y k)
 ·exact h'
theorem deS_fresh {hs:List VH} {xs:List PS} {x y:PS} {i:Nat} (h:RelD deS w hs xs) (hx:x∈xs) (hr:zV x y) (hn:y≠.nil) (hi:w.heap.size≤i):y.id≠i:=by
 obtain ⟨j,hj,rfl⟩:=List.getElem_of_mem hx
 obtain ⟨⟨n,k⟩,hF⟩:=h.2 j _ _ (List.getElem?_eq_getElem (by rw [h.1]; exact hj)) (List.getElem?_eq_getElem hj)
 obtain ⟨m,u,k⟩:=k.reach hr hn
 cases y with
 | nil=>exact absurd rfl hn
 | mk=>cases m with
  | zero=>exact k.elim
  | succ n=>have:=hF _ k.2.1; simp only [PS.id]; omega
end
section
variable {P:Program} {N:Nat} {L:zh} {w:World} {ty:TypeId} {pos:String} {af:Array Edge} {dd:Option Tmp} {t t' e:TypeId} {x y:Operand} {v:OV} {F:Nat→Prop} {s:PS}
theorem nilpV {ad:Addr} (hv:v.1=.pointer (some ad)) (hx:opv L x=some v.1):Yld P N w ⟨dd,.nilCheck x,ty,pos,af,none⟩ L (.pointer (some ad)):=fun a w1 _ ha=>by
 have hx':=ha.ev hx
 rw [hv] at hx'
 unfold execOp
 simp [hx']
theorem deS_eqnil (ht:P.underlying t=some (.pointer e)) (h:RelD deS w [(v,F)] [s]) (hx:opv L x=some v.1) (hy:opv L y=some (.pointer none)):Yld P N w ⟨dd,.binOp .eql t x y t',ty,pos,af,none⟩ L (.bool s.isNil):=by
 obtain ⟨⟨n,h⟩,_⟩:=h.one
 have h2:=h.ptr
 rw [h2] at hx
 have:=Yld.peqnil (w:=w) (N:=N) (dd:=dd) (ty:=ty) (t':=t') (pos:=pos) (af:=af) ht hx hy
 cases s <;> exact this
theorem deS_nenil (ht:P.underlying t=some (.pointer e)) (h:RelD deS w [(v,F)] [s]) (hx:opv L x=some v.1) (hy:opv L y=some (.pointer none)):Yld P N w ⟨dd,.binOp .neq t x y t',ty,pos,af,none⟩ L (.bool (!s.isNil)):=by
 obtain ⟨⟨n,h⟩,_⟩:=h.one
 have h2:=h.ptr
 rw [h2] at hx
 have:=Yld.pnenil (w:=w) (N:=N) (dd:=dd) (ty:=ty) (t':=t') (pos:=pos) (af:=af) ht hx hy
 cases s <;> exact this
end
def tyP:PV→Option TypeId
 | .nil=>Option.none
 | .none=>some 221
 | .int _=>some 208
 | .emp=>some 61
 | .tup _=>some 155
def tys:List TypeId:=[221,208,61,155]
theorem VR.ty {w:World} {F:Nat→Prop} {v:Value} {p:PV} (h:VR w F v p):(tyP p=Option.none∧v=.nilIface)∨∃ t u,tyP p=some t∧t∈tys∧v=.iface t u:=by
 cases p with
 | nil=>exact .inl ⟨rfl,h⟩
 | none=>exact .inr ⟨_,_,rfl,by simp [tys],h⟩
 | int z=>obtain ⟨a,b,h,_⟩:=h; exact .inr ⟨_,_,rfl,by simp [tys],h⟩
 | emp=>obtain ⟨g,A,c,h,_⟩:=h; exact .inr ⟨_,_,rfl,by simp [tys],h⟩
 | tup l=>obtain ⟨g,A,c,hs,h,_⟩:=h; exact .inr ⟨_,_,rfl,by simp [tys],h⟩
def notIface:TypeDesc→Bool
 | .interface _=>false
 | _=>true
theorem tyP_no {ta:TypeId} (h:(tys.all fun t => !Nat.beq t ta)=true) (p:PV):tyP p≠some ta:=fun e=>by
 simp only [tys,List.all_cons,List.all_nil,Bool.and_true,Bool.and_eq_true,Bool.not_eq_true'] at h
 obtain ⟨h1,h2,h3,h4⟩:=h
 cases p <;> simp only [tyP,Option.some.injEq,reduceCtorEq] at e
 ·exact Nat.ne_of_beq_eq_false h1 e
 ·exact Nat.ne_of_beq_eq_false h2 e
 ·exact Nat.ne_of_beq_eq_false h3 e
 ·exact Nat.ne_of_beq_eq_false h4 e
theorem tyP_none {p:PV} (h:p≠.none):tyP p≠some 221:=fun e=>by
 cases p <;> first | (exact h rfl) | (simp only [tyP,Option.some.injEq,reduceCtorEq] at e; try exact absurd e (by decide))
theorem tyP_int {p:PV} (h:∀ z,p≠.int z):tyP p≠some 208:=fun e=>by
 cases p <;> first | (exact h _ rfl) | (simp only [tyP,Option.some.injEq,reduceCtorEq] at e; try exact absurd e (by decide))
theorem tyP_emp {p:PV} (h:p≠.emp):tyP p≠some 61:=fun e=>by
 cases p <;> first | (exact h rfl) | (simp only [tyP,Option.some.injEq,reduceCtorEq] at e; try exact absurd e (by decide))
theorem tyP_tup {p:PV} (h:∀ l,p≠.tup l):tyP p≠some 155:=fun e=>by
 cases p <;> first | (exact h _ rfl) | (simp only [tyP,Option.some.injEq,reduceCtorEq] at e; try exact absurd e (by decide))
theorem PV.intCases (p:PV):(∃ z,p=.int z)∨∀ z,p≠.int z:=by
 cases p with
 | int z=>exact .inl ⟨z,rfl⟩
 | _=>exact .inr fun z h=>by cases h
theorem PV.tupCases (p:PV):(∃ l,p=.tup l)∨∀ l,p≠.tup l:=by
 cases p with
 | tup l=>exact .inl ⟨l,rfl⟩
 | _=>exact .inr fun z h=>by cases h
theorem PV.empCases (p:PV):p=.emp∨p≠.emp:=by
 cases p with
 | emp=>exact .inl rfl
 | _=>exact .inr fun h=>by cases h
section
variable {P:Program} {N:Nat} {L:zh} {w w0:World} {ty:TypeId} {pos:String} {af:Array Edge} {dd:Option Tmp} {t ta:TypeId} {x:Operand} {v:OV} {F:Nat→Prop} {p:PV} {d:TypeDesc} {z u:Value}
theorem zw (hu:P.underlying ta=some d) (hd:notIface d=true) (hz:∀ w,(zeroValue ta).run P w=.ok z w) (h:RelD deV w0 [(v,F)] [p]) (hx:opv L x=some v.1) (hn:tyP p≠some ta) :
  Yld P N w ⟨dd,.typeAssert x t ta true,ty,pos,af,none⟩ L (.tuple #[z,.bool false]):=fun a w1 _ ha=>by
 have hx':=ha.ev hx
 rcases h.one.1.ty with ⟨h1,h2⟩ | ⟨t',u,h1,_,h2⟩
 ·replace h2:v.1=.nilIface:=h2
  rw [h2] at hx'
  simp only [execOp,Instr.typeAssert,Sem.run_bind,run_underlying hu,hx',Result.andThen_ok]
  cases d <;> first | (simp [notIface] at hd; done) | simp [hz]
 ·have hne:t'≠ta:=fun e=>hn (by rw [h1,e])
  replace h2:v.1=.iface t' u:=h2
  rw [h2] at hx'
  simp only [execOp,Instr.typeAssert,Sem.run_bind,run_underlying hu,hx',Result.andThen_ok]
  cases d <;> first | (simp [notIface] at hd; done) | simp [hz,hne]
theorem qw (hu:P.underlying ta=some d) (hd:notIface d=true) (hx:opv L x=some v.1) (hv:v.1=.iface ta u):Yld P N w ⟨dd,.typeAssert x t ta true,ty,pos,af,none⟩ L (.tuple #[u,.bool true]):=fun a w1 _ ha=>by
 have hx':=ha.ev hx
 rw [hv] at hx'
 simp only [execOp,Instr.typeAssert,Sem.run_bind,run_underlying hu,hx',Result.andThen_ok]
 cases d <;> first | (simp [notIface] at hd; done) | simp
def lacks1 (want:Array (String × TypeId)) (got:Array Method):Bool := !(want.toList.filter fun (x:String × TypeId) => !got.any fun m=>m.name == x.1 && m.sig == x.2).isEmpty
def lacksM (P:Program) (want:Array (String × TypeId)):Bool:=tys.all fun t=>match P.info? t with
 | some i=>lacks1 want i.methods
 | none=>false
theorem least_some:∀ {l:List String},l≠[]→(Instr.least l).isSome=true
 | [],h=>absurd rfl h
 | _ :: _,_=>rfl
theorem lacks1_ok {want:Array (String × TypeId)} {got:Array Method} (h:lacks1 want got=true):(Instr.missingMethod want got).isSome=true:=by
 unfold lacks1 at h
 simp only [Bool.not_eq_true',List.isEmpty_eq_false_iff] at h
 unfold Instr.missingMethod
 simp only [List.partition_eq_filter_filter]
 generalize hm:(want.toList.filter fun (x:String × TypeId) => !got.any fun m=>m.name == x.1 && m.sig == x.2)=M at h
 obtain ⟨x,M',rfl⟩:=List.exists_cons_of_ne_nil h
 have key:∀ (q:String→Bool) (f:String→String) (l:List String),l≠[]→(Instr.least (l.filter fun a => !q a) <|> Instr.least ((l.filter q).map f)).isSome=true:=fun q f l hl=>by
  by_cases h1:(l.filter fun a => !q a)=[]
  ·have h2:l.filter q≠[]:=fun h2=>by
    obtain ⟨y,l',rfl⟩:=List.exists_cons_of_ne_nil hl
    rw [List.filter_eq_nil_iff] at h1 h2
    have:=h1 y (by simp); have:=h2 y (by simp)
    simp_all
   have:=least_some (l:=(l.filter q).map f) (by simpa using h2)
   cases hq:Instr.least (l.filter fun a => !q a) with
   | some=>rfl
   | none=>simpa [HOrElse.hOrElse,OrElse.orElse,Option.orElse] using this
  ·have:=least_some h1
   cases hq:Instr.least (l.filter fun a => !q a) with
   | some=>rfl
   | none=>rw [hq] at this; cases this
 exact key (fun a=>a.contains '.') (fun id=>(id.splitOn ".").getLastD id) _ (by simp)
theorem assertNoI {want:Array (String × TypeId)} (hu:P.underlying ta=some (.interface want)) (hz:∀ w,(zeroValue ta).run P w=.ok z w) (hm:lacksM P want=true) (h:RelD deV w0 [(v,F)] [p]) (hx:opv L x=some v.1) :
  Yld P N w ⟨dd,.typeAssert x t ta true,ty,pos,af,none⟩ L (.tuple #[z,.bool false]):=fun a w1 _ ha=>by
 have hx':=ha.ev hx
 rcases h.one.1.ty with ⟨h1,h2⟩ | ⟨t',u,h1,ht,h2⟩
 ·replace h2:v.1=.nilIface:=h2
  rw [h2] at hx'
  simp [execOp,Instr.typeAssert,run_underlying hu,hx',hz]
 ·replace h2:v.1=.iface t' u:=h2
  rw [h2] at hx'
  have:=List.all_eq_true.1 hm t' ht
  split at this
  ·rename_i i hi
   replace this:=lacks1_ok this
   cases hq:Instr.missingMethod want i.methods with
   | none=>rw [hq] at this; cases this
   | some m=>simp [execOp,Instr.typeAssert,run_underlying hu,hx',typeInfo,hi,hq,hz]
  ·cases this
end
section
variable {w:World} {v:OV} {F:Nat→Prop} {p:PV} {s:PS}
theorem VR.intOut {n:Int} (h:RelD deV w [(v,F)] [p]) (hp:p=.int n):∃ a b,v.1=.iface 208 (.agg ⟨[a,b]⟩)∧Nm w (.agg ⟨[a,b]⟩) n 3∧a.oneCell'=true∧b.oneCell'=true∧Lies (.agg ⟨[a,b]⟩) F:=by
 subst hp
 obtain ⟨a,b,h1,h2,hL⟩:=h.one.1
 obtain ⟨a',b',e,ha,hb⟩:=h2.agg
 injection e with e; injection e with e; injection e with e1 e; injection e with e2
 subst e1; subst e2
 exact ⟨a,b,h1,h2,ha,hb,hL⟩
theorem Nm.goV {w w':World} {F:Nat→Prop} {a:Value} {z:Int} {m:Nat} {ps:List (Option Nat)} (h:Nm w a z m) (hL:Lies a F) (hg:GrL ps w w') (hd:AllP (fun p=>∀ g,p=some g→¬ F g) ps):Nm w' a z m:=by
 obtain ⟨neg,A,c,l,h1,h2,h3⟩:=h
 exact ⟨neg,A,c,l,h1,h2.goF (fun q hq=>hL _ _ _ _ h1 q hq) hg hd,h3⟩
theorem VR.empOut (h:RelD deV w [(v,F)] [p]) (hp:p=.emp):∃ g A c,v.1=.iface 61 (.pointer (some ⟨g,0,none⟩))∧Bl w g 166 [.slice A ([]:List PV).length c,.bool false,.int .i64 0]∧Rd vv w A c []∧RelD deV w [] []∧∀ q,DnD deV [(v,F)] [p] q→Dj (some g) q:=by
 subst hp
 obtain ⟨g,A,c,h1,h2,h3,h4⟩:=h.one.1
 exact ⟨g,A,c,h1,h2,Rd.nil _ _ h3,RelD.nil,fun q hq g' e e2=>by cases e; exact hq.one g e2 h4⟩
theorem Rd.frm {w:World} {A:Option Addr} {c:Nat} {hs:List VH} (F:Nat→Prop) (h:Rd vv w A c hs):Rd vv w A c (hs.map fun h=>((h.1,F):VH)) :=
 ⟨by simpa using h.cap,h.max,fun hx=>by
  obtain ⟨ad,e,k⟩:=h.cells (fun e=>hx (by rw [e]; rfl))
  refine ⟨ad,e,fun j x hj=>?_⟩
  rw [List.getElem?_map] at hj
  obtain ⟨y,hy,rfl⟩:=Option.map_eq_some_iff.1 hj
  exact k j y hy⟩
theorem RelD.frm {X:Type} {d:DE VH X} {hs:List VH} {xs:List X} (hl:hs.length=xs.length) (k:∀ (i:Nat) (h:VH) (x:X),hs[i]?=some h→xs[i]?=some x→d.rel w (h.1,F) x):RelD d w (hs.map fun h=>((h.1,F):VH)) xs :=
 ⟨by simpa using hl,fun i h x hh hx=>by
  rw [List.getElem?_map] at hh
  obtain ⟨y,hy,rfl⟩:=Option.map_eq_some_iff.1 hh
  exact k i y x hy hx⟩
theorem VR.tupOut {l:List Int} (h:RelD deV w [(v,F)] [p]) (hp:p=.tup l):∃ g A c,∃ hs:List VH,v.1=.iface 155 (.pointer (some ⟨g,0,none⟩))∧Bl w g 158 [.slice A (l.map PV.int).length c]∧Rd vv w A c hs∧RelD deV w hs (l.map PV.int) ∧
  (∀ q,DnD deV [(v,F)] [p] q→Dj (some g) q)∧(∀ q,DnD deV [(v,F)] [p] q→Dn hs (blk A) q)∧(∀ q,DnD deV [(v,F)] [p] q→DnD deV hs (l.map PV.int) q):=by
 subst hp
 obtain ⟨⟨g,A,c,hs,h1,h2,h3,h4,h5,h6,h7⟩,hF⟩:=h.one
 refine ⟨g,A,c,hs.map fun h=>((h.1,F):VH),h1,by rw [List.length_map]; exact h2,h3.frm F,RelD.frm (d:=deV) (by rw [List.length_map]; exact h4) (fun i h x hh hx=>?_),fun q hq g' e e2=>?_,fun q hq _ g' e e2=>hq.one g' e2 (h5 g' e),fun q hq i h x hh hx=>?_⟩
 ·rw [List.getElem?_map] at hx
  obtain ⟨z,hz,rfl⟩:=Option.map_eq_some_iff.1 hx
  exact ⟨h7 i h z hh hz,hF⟩
 ·cases e; exact hq.one g e2 h6
 ·rw [List.getElem?_map] at hh
  obtain ⟨y,hy,rfl⟩:=Option.map_eq_some_iff.1 hh
  exact hq.one
theorem SR.out (h:RelD deS w [(v,F)] [s]) (hs:s≠.nil):∃ Ao co Ak ck Af cf,∃ ho hf:List VH,v.1=.pointer (some ⟨s.id,0,none⟩) ∧
  Bl w s.id 126 [.int .i64 s.order,.slice Ao s.own.length co,.slice Ak (s.own.map keyP).length ck,.slice Af s.fr.length cf,.int .i64 s.deep,.bool s.empty] ∧
  Rd vv w Ao co ho∧RelD deV w ho s.own∧Rd vs w Ak ck (s.own.map keyP)∧Rd vv w Af cf hf∧RelD deS w hf s.fr ∧
  (∀ q,DnD deS [(v,F)] [s] q→Dj (some s.id) q)∧(∀ q,DnD deS [(v,F)] [s] q→Dn ho (blk Ao) q)∧(∀ q,DnD deS [(v,F)] [s] q→DnD deV ho s.own q) ∧
  (∀ q,DnD deS [(v,F)] [s] q→Dn (s.own.map keyP) (blk Ak) q)∧(∀ q,DnD deS [(v,F)] [s] q→Dn hf (blk Af) q)∧(∀ q,DnD deS [(v,F)] [s] q→DnD deS hf s.fr q):=by
 cases s with
 | nil=>exact absurd rfl hs
 | mk id order own fr deep empty =>
  obtain ⟨⟨n,h⟩,hF⟩:=h.one
  cases n with
  | zero=>exact h.elim
  | succ n =>
   obtain ⟨h1,h2,Ao,co,Ak,ck,Af,cf,ho,hf,hB,o1,o2,o3,o4,k1,k2,f1,f2,f3,f4⟩:=h
   refine ⟨Ao,co,Ak,ck,Af,cf,ho.map fun h=>((h.1,F):VH),hf.map fun h=>((h.1,F):VH),h1,by simpa [PS.own,PS.fr,PS.id,PS.order,PS.deep,PS.empty] using hB,o1.frm F,RelD.frm (d:=deV) o2 (fun i h x hh hx=>?_),k1,f1.frm F,RelD.frm (d:=deS) f2 (fun i h x hh hx=>⟨⟨n,(f4 i h x hh hx).2⟩,hF⟩),
    fun q hq g' e e2=>?_,fun q hq _ g' e e2=>hq.one g' e2 (o3 g' e),fun q hq i h x hh hx=>?_,fun q hq _ g' e e2=>hq.one g' e2 (k2 g' e),fun q hq _ g' e e2=>hq.one g' e2 (f3 g' e),fun q hq i h x hh hx=>?_⟩
   ·obtain ⟨z,rfl,hz⟩:=o4 i h x hh hx
    exact ⟨hz,hF⟩
   ·cases e; exact hq.one _ e2 h2
   ·rw [List.getElem?_map] at hh
    obtain ⟨y,hy,rfl⟩:=Option.map_eq_some_iff.1 hh
    exact hq.one
   ·rw [List.getElem?_map] at hh
    obtain ⟨y,hy,rfl⟩:=Option.map_eq_some_iff.1 hh
    exact hq.one
end
def ckFa (P:Program) (t:TypeId) (f o:Nat):Bool:=match P.underlying t with
 | some (.struct fs)=>(match fs[f]? with
  | some fd=>Nat.beq fd.offset o && (match P.info? fd.type with
   | some i => !Nat.beq i.size 0
   | none=>false)
  | none=>false)
 | _=>false
theorem Yld.fa0 {P:Program} {N:Nat} {L:zh} {w:World} {ty:TypeId} {pos:String} {af:Array Edge} {dd:Option Tmp} {t:TypeId} {x:Operand} {f o b p:Nat} (hc:ckFa P t f o=true) (hx:opv L x=some (.pointer (some ⟨b,p,none⟩))):Yld P N w ⟨dd,.fieldAddr t x f,ty,pos,af,none⟩ L (.pointer (some ⟨b,p+o,none⟩)):=fun a w1 _ ha=>by
 unfold ckFa at hc
 split at hc
 ·rename_i fs hu
  split at hc
  ·rename_i fd hfd
   simp only [Bool.and_eq_true] at hc
   obtain ⟨h1,h2⟩:=hc
   have h1:=Nat.eq_of_beq_eq_true h1
   subst h1
   split at h2
   ·rename_i i hi
    simp only [Bool.not_eq_true'] at h2
    have h2:=Nat.ne_of_beq_eq_false h2
    unfold execOp
    simp [ha.ev hx,Instr.fieldAt,run_underlying hu,hfd,Instr.sureAddr,fieldPlace,sizeOf,typeInfo,hi,h2,Addr.add_mid]
   ·cases h2
  ·cases hc
 ·cases hc
abbrev ovP (g:Nat):OV:=⟨.pointer (some ⟨g,0,none⟩),rfl⟩
def FS (g:Nat) (Ao Ak Af:Option Addr) (ho hf:List VH):Nat→Prop:=fun q=>q=g∨blk Ao=some q∨blk Ak=some q∨blk Af=some q∨(∃ h,h∈ho∧h.2 q)∨∃ h,h∈hf∧h.2 q
def OrD {H X:Type} (Q:Option Nat→Prop) (d:DE H X) (hs:List H) (xs:List X) (n:Nat):Prop:=∀ p:Option Nat,(∀ g,p=some g→g<n)→Q p→DnD d hs xs p
section
variable {H X:Type} {d:DE H X} {hs hs':List H} {xs xs':List X} {h:H} {x:X} {n:Nat} {Q:Option Nat→Prop}
theorem OrD.append (hl:hs.length=xs.length) (a:OrD Q d hs xs n) (b:OrD Q d hs' xs' n):OrD Q d (hs++hs') (xs++xs') n:=fun p hp q=>DnD.append hl (a p hp q) (b p hp q)
theorem OrD.cons (a:∀ p:Option Nat,(∀ g,p=some g→g<n)→Q p→d.dn h x p) (b:OrD Q d hs xs n):OrD Q d (h :: hs) (x :: xs) n:=fun p hp q=>DnD.cons (a p hp q) (b p hp q)
end
theorem SRn.all {w:World} {F:Nat→Prop}:∀ {hf:List VH} {fr:List PS},hf.length=fr.length→(∀ (i:Nat) (h:VH) (x:PS),hf[i]?=some h→fr[i]?=some x→∃ n,SRn n w F h.1.1 x)→∃ n,∀ (i:Nat) (h:VH) (x:PS),hf[i]?=some h→fr[i]?=some x→SRn n w F h.1.1 x
 | [],_,_,_=>⟨0,fun i h x hh=>by simp at hh⟩
 | h :: hf,[],hl,_=>by simp at hl
 | h :: hf,x :: fr,hl,k=>by
  obtain ⟨n,hn⟩:=SRn.all (hf:=hf) (fr:=fr) (by simpa using hl) (fun i h x hh hx=>k (i+1) h x (by simpa using hh) (by simpa using hx))
  obtain ⟨m,hm⟩:=k 0 h x rfl rfl
  refine ⟨max n m,fun i h' x' hh hx=>?_⟩
  cases i with
  | zero=>simp only [List.getElem?_cons_zero,Option.some.injEq] at hh hx; subst hh; subst hx; exact hm.le (Nat.le_max_right _ _)
  | succ i=>exact (hn i h' x' (by simpa using hh) (by simpa using hx)).le (Nat.le_max_left _ _)
theorem deS_pack {w:World} {g co ck cf:Nat} {order deep:Int} {empty:Bool} {own:List PV} {fr:List PS} {keys:List (List UInt8)} {Ao Ak Af:Option Addr} {ho hf:List VH}
  (hB:Bl w g 126 [.int .i64 order,.slice Ao own.length co,.slice Ak keys.length ck,.slice Af fr.length cf,.int .i64 deep,.bool empty])
  (hO:Rd vv w Ao co ho) (rO:RelD deV w ho own) (h1:∀ x∈own,∃ z,x=PV.int z) (h2:keys=own.map keyP) (hK:Rd vs w Ak ck keys) (hF:Rd vv w Af cf hf) (rF:RelD deS w hf fr) (h3:∀ x∈fr,x≠PS.nil)
  (lO:Lt (blk Ao) w.heap.size) (lK:Lt (blk Ak) w.heap.size) (lF:Lt (blk Af) w.heap.size) :
  RelD deS w [(ovP g,FS g Ao Ak Af ho hf)] [PS.mk g order own fr deep empty]∧∀ q,Dj (some g) q→Dj (blk Ao) q→Dj (blk Ak) q→Dj (blk Af) q→DnD deV ho own q→DnD deS hf fr q→DnD deS [(ovP g,FS g Ao Ak Af ho hf)] [PS.mk g order own fr deep empty] q:=by
 subst h2
 have at1:∀ h∈ho,∃ i x,ho[i]?=some h∧own[i]?=some x:=fun h hh=>by
  obtain ⟨i,hi,rfl⟩:=List.getElem_of_mem hh
  exact ⟨i,_,List.getElem?_eq_getElem hi,List.getElem?_eq_getElem (by rw [←rO.1]; exact hi)⟩
 have at2:∀ h∈hf,∃ i x,hf[i]?=some h∧fr[i]?=some x:=fun h hh=>by
  obtain ⟨i,hi,rfl⟩:=List.getElem_of_mem hh
  exact ⟨i,_,List.getElem?_eq_getElem hi,List.getElem?_eq_getElem (by rw [←rF.1]; exact hi)⟩
 obtain ⟨n,hn⟩:=SRn.all (F:=FS g Ao Ak Af ho hf) rF.1 (fun i h x hh hx=>by
  obtain ⟨⟨n,k⟩,_⟩:=rF.2 i h x hh hx
  exact ⟨n,k.mono fun q hq=>.inr (.inr (.inr (.inr (.inr ⟨h,List.mem_of_getElem? hh,hq⟩))))⟩)
 refine ⟨RelD.cons ⟨⟨n+1,rfl,.inl rfl,Ao,co,Ak,ck,Af,cf,ho,hf,by rw [List.length_map] at hB; exact hB,hO,rO.1,fun q hq=>.inr (.inl hq),fun i h x hh hx=>?_,hK,fun q hq=>.inr (.inr (.inl hq)),hF,rF.1,fun q hq=>.inr (.inr (.inr (.inl hq))),fun i h x hh hx=>⟨h3 x (List.mem_of_getElem? hx),hn i h x hh hx⟩⟩,fun q hq=>?_⟩ RelD.nil,fun q d1 d2 d3 d4 d5 d6=>DnD.cons (fun q' e hq=>?_) DnD.nil⟩
 ·obtain ⟨z,rfl⟩:=h1 x (List.mem_of_getElem? hx)
  exact ⟨z,rfl,AI.mono (rO.2 i h _ hh hx).1 fun q hq=>.inr (.inr (.inr (.inr (.inl ⟨h,List.mem_of_getElem? hh,hq⟩))))⟩
 ·rcases hq with rfl | hq | hq | hq | ⟨h,hh,hq⟩ | ⟨h,hh,hq⟩
  ·exact hB.lt
  ·exact lO q hq
  ·exact lK q hq
  ·exact lF q hq
  ·obtain ⟨i,x,a,b⟩:=at1 h hh; exact (rO.2 i h x a b).2 q hq
  ·obtain ⟨i,x,a,b⟩:=at2 h hh; exact (rF.2 i h x a b).2 q hq
 ·subst e
  rcases hq with rfl | hq | hq | hq | ⟨h,hh,hq⟩ | ⟨h,hh,hq⟩
  ·exact d1 _ rfl rfl
  ·exact d2 _ hq rfl
  ·exact d3 _ hq rfl
  ·exact d4 _ hq rfl
  ·obtain ⟨i,x,a,b⟩:=at1 h hh; exact d5 i h x a b _ rfl hq
  ·obtain ⟨i,x,a,b⟩:=at2 h hh; exact d6 i h x a b _ rfl hq
end Go.Proofs.YtjjcdkfhaceicaaGreatDoor
 
namespace Go.Proofs.YtjjcdkfhaceicaaGreatDoor
open Go Go.RowKit
abbrev RNu:=Bool × List Int
inductive RO where
 | nil
 | mk (id:Nat) (items:List (Int × (Bool × List Int) × RO)) (order:Int) (fr:List (Int × (Bool × List Int) × RO)) (deep:Int)
abbrev RV:=Int × RNu × RO
def RO.isNil:RO→Bool
 | .nil=>true
 | _=>false
def RO.id:RO→Nat
 | .nil=>0
 | .mk i _ _ _ _=>i
def RO.items:RO→List RV
 | .nil=>[]
 | .mk _ l _ _ _=>l
def RO.order:RO→Int
 | .nil=>0
 | .mk _ _ o _ _=>o
def RO.fr:RO→List RV
 | .nil=>[]
 | .mk _ _ _ l _=>l
def RO.deep:RO→Int
 | .nil=>0
 | .mk _ _ _ _ d=>d
abbrev rv0:RV:=(0,(false,[]),.nil)
inductive RRch (s:RO):RO→Prop
 | refl:RRch s s
 | step {x:RO} {f:RV}:RRch s x→f∈x.items∨f∈x.fr→RRch s f.2.2
def RC:={ l:List Value // l.length=6∧∀ u∈l,u.oneCell'=true }
abbrev RH:=RC × (Nat→Prop)
def vr (h:RH):List Value:=h.1.1
theorem vr_ok:OneK 6 vr:=⟨by omega,fun h=>h.1.2.1,fun h=>h.1.2.2⟩
abbrev sl0:Value:=.slice none 0 0
def cellsV (k:Int) (b neg:Bool) (L:Value) (s:List UInt8) (o:Value):List Value:=[.int .i64 k,.bool b,.bool neg,L,vs s,o]
theorem cellsV_ok {k:Int} {b neg:Bool} {L:Value} {s:List UInt8} {o:Value} (hL:L.oneCell'=true) (ho:o.oneCell'=true):(cellsV k b neg L s o).length=6∧∀ u∈cellsV k b neg L s o,u.oneCell'=true :=
 ⟨rfl,zf rfl (zf rfl (zf rfl (zf hL (zf rfl (zf ho zm)))))⟩
abbrev zeroV:List Value:=cellsV 0 false false sl0 [] (.pointer none)
def rc0:RC:=⟨zeroV,cellsV_ok rfl rfl⟩
def rh0:RH:=(rc0,noF)
def objC (items:Value) (deep order:Int) (fr:Value):List Value:=[items,sl0,sl0,sl0,.bool false,.int .i64 0,vs [],.int .i64 deep,.int .i64 0]++zeroV++[.int .i64 order,fr,.bool false,sl0,.bool false,sl0,.int .i64 0,.pointer none]
def RVw (P:Value→RO→Prop) (w:World) (F:Nat→Prop) (cs:List Value) (x:RV):Prop :=
 ∃ A c o,cs=cellsV x.1 false x.2.1.1 (.slice A x.2.1.2.length c) [] o∧Rd vi w A c x.2.1.2∧(x.2.1.2≠[]→∀ q,blk A=some q→F q)∧P o x.2.2
def RVs (P:Value→RO→Prop) (w:World) (F:Nat→Prop) (A:Option Addr) (c:Nat) (l:List RV):Prop :=
 ∃ hs:List RH,RdK 6 vr w A c hs∧hs.length=l.length∧(∀ q,blk A=some q→F q)∧∀ (i:Nat) (h:RH) (x:RV),hs[i]?=some h→l[i]?=some x→RVw P w F h.1.1 x
def ROn:Nat→World→(Nat→Prop)→Value→RO→Prop
 | _,_,_,v,.nil=>v=.pointer none
 | 0,_,_,_,.mk ..=>False
 | n+1,w,F,v,.mk id items order fr deep=>v=.pointer (some ⟨id,0,none⟩)∧F id∧∃ Ai ci Af cf,
   Bl w id 111 (objC (.slice Ai items.length ci) deep order (.slice Af fr.length cf))∧RVs (ROn n w F) w F Ai ci items∧RVs (ROn n w F) w F Af cf fr
section
variable {w w':World} {F F':Nat→Prop} {cs:List Value} {v:Value} {ps:List (Option Nat)} {P P':Value→RO→Prop}
theorem RdK.goF {α:Type} {k:Nat} {f:α→List Value} {A:Option Addr} {c:Nat} {xs:List α} (h:RdK k f w A c xs) (hb:∀ q,blk A=some q→F q) (hg:GrL ps w w') (hd:AllP (fun p=>∀ g,p=some g→¬ F g) ps):RdK k f w' A c xs :=
 h.goL hg fun p hp _ g hg' e=>hd p hp g e (hb g hg')
theorem Rd.goN {α:Type} {f:α→Value} {A:Option Addr} {c:Nat} {xs:List α} (h:Rd f w A c xs) (hb:xs≠[]→∀ q,blk A=some q→F q) (hg:GrL ps w w') (hd:AllP (fun p=>∀ g,p=some g→¬ F g) ps):Rd f w' A c xs :=
 h.goL hg fun p hp hne g hg' e=>hd p hp g e (hb hne g hg')
theorem RVw.goL {x:RV} (h:RVw P w F cs x) (hg:GrL ps w w') (hd:AllP (fun p=>∀ g,p=some g→¬ F g) ps) (hP:∀ o y,P o y→P' o y):RVw P' w' F cs x:=by
 obtain ⟨A,c,o,h1,h2,h3,h4⟩:=h
 exact ⟨A,c,o,h1,h2.goN h3 hg hd,h3,hP _ _ h4⟩
theorem RVw.mono {x:RV} (h:RVw P w F cs x) (hF:∀ g,F g→F' g) (hP:∀ o y,P o y→P' o y):RVw P' w F' cs x:=by
 obtain ⟨A,c,o,h1,h2,h3,h4⟩:=h
 exact ⟨A,c,o,h1,h2,fun hne q hq=>hF q (h3 hne q hq),hP _ _ h4⟩
theorem RVs.goL {A:Option Addr} {c:Nat} {l:List RV} (h:RVs P w F A c l) (hg:GrL ps w w') (hd:AllP (fun p=>∀ g,p=some g→¬ F g) ps) (hP:∀ o y,P o y→P' o y):RVs P' w' F A c l:=by
 obtain ⟨hs,h1,h2,h3,h4⟩:=h
 exact ⟨hs,h1.goF h3 hg hd,h2,h3,fun i h x a b=>(h4 i h x a b).goL hg hd hP⟩
theorem RVs.mono {A:Option Addr} {c:Nat} {l:List RV} (h:RVs P w F A c l) (hF:∀ g,F g→F' g) (hP:∀ o y,P o y→P' o y):RVs P' w F' A c l:=by
 obtain ⟨hs,h1,h2,h3,h4⟩:=h
 exact ⟨hs,h1,h2,fun q hq=>hF q (h3 q hq),fun i h x a b=>(h4 i h x a b).mono hF hP⟩
theorem ROn.goL (hg:GrL ps w w') (hd:AllP (fun p=>∀ g,p=some g→¬ F g) ps):∀ {n:Nat} {v:Value} {s:RO},ROn n w F v s→ROn n w' F v s
 | n,v,.nil,h=>by cases n <;> exact h
 | 0,v,.mk ..,h=>h.elim
 | n+1,v,.mk ..,h=>by
  obtain ⟨h1,h2,Ai,ci,Af,cf,hB,hi,hf⟩:=h
  exact ⟨h1,h2,Ai,ci,Af,cf,hB.goF h2 hg hd,hi.goL hg hd (fun _ _ k=>ROn.goL hg hd k),hf.goL hg hd (fun _ _ k=>ROn.goL hg hd k)⟩
theorem ROn.mono (hF:∀ g,F g→F' g):∀ {n:Nat} {v:Value} {s:RO},ROn n w F v s→ROn n w F' v s
 | n,v,.nil,h=>by cases n <;> exact h
 | 0,v,.mk ..,h=>h.elim
 | n+1,v,.mk ..,h=>by
  obtain ⟨h1,h2,Ai,ci,Af,cf,hB,hi,hf⟩:=h
  exact ⟨h1,hF _ h2,Ai,ci,Af,cf,hB,hi.mono hF (fun _ _ k=>ROn.mono hF k),hf.mono hF (fun _ _ k=>ROn.mono hF k)⟩
theorem ROn.up:∀ {n:Nat} {v:Value} {s:RO},ROn n w F v s→ROn (n+1) w F v s
 | n,v,.nil,h=>by cases n <;> exact h
 | 0,v,.mk ..,h=>h.elim
 | n+1,v,.mk ..,h=>by
  obtain ⟨h1,h2,Ai,ci,Af,cf,hB,hi,hf⟩:=h
  exact ⟨h1,h2,Ai,ci,Af,cf,hB,hi.mono (fun _ k=>k) (fun _ _ k=>ROn.up k),hf.mono (fun _ k=>k) (fun _ _ k=>ROn.up k)⟩
theorem ROn.le {n m:Nat} {s:RO} (h:ROn n w F v s) (hm:n≤m):ROn m w F v s:=by
 induction hm with
 | refl=>exact h
 | step _ ih=>exact ih.up
theorem ROn.ptr {n:Nat} {p:RO} (h:ROn n w F v p):v=.pointer (if p.isNil then none else some ⟨p.id,0,none⟩):=by
 cases p with
 | nil=>cases n <;> exact h
 | mk=>cases n with
  | zero=>exact h.elim
  | succ n=>exact h.1
theorem ROn.idF {n:Nat} {p:RO} (h:ROn n w F v p) (hn:p≠.nil):F p.id:=by
 cases p with
 | nil=>exact absurd rfl hn
 | mk=>cases n with
  | zero=>exact h.elim
  | succ n=>exact h.2.1
theorem RVs.mem {A:Option Addr} {c:Nat} {l:List RV} {x:RV} (h:RVs P w F A c l) (hx:x∈l):∃ cs,RVw P w F cs x:=by
 obtain ⟨hs,_,h2,_,h4⟩:=h
 obtain ⟨i,hi,rfl⟩:=List.getElem_of_mem hx
 exact ⟨_,h4 i _ _ (List.getElem?_eq_getElem (by rw [h2]; exact hi)) (List.getElem?_eq_getElem hi)⟩
theorem ROn.reach {n:Nat} {s y:RO} (h:ROn n w F v s) (k:RRch s y):∃ m u,ROn m w F u y:=by
 induction k with
 | refl=>exact ⟨n,v,h⟩
 | @step x f hx hf ih =>
  obtain ⟨m,u,hm⟩:=ih
  cases x with
  | nil=>rcases hf with hf | hf <;> cases hf
  | mk id items order fr deep =>
   cases m with
   | zero=>exact hm.elim
   | succ m =>
    obtain ⟨_,_,Ai,ci,Af,cf,_,hi,hf'⟩:=hm
    rcases hf with hf | hf
    ·obtain ⟨cs,_,_,o,_,_,_,ho⟩:=hi.mem hf
     exact ⟨m,o,ho⟩
    ·obtain ⟨cs,_,_,o,_,_,_,ho⟩:=hf'.mem hf
     exact ⟨m,o,ho⟩
end
def deO:DE VH RO where
 rel w h x:=(∃ n,ROn n w h.2 h.1.1 x)∧∀ g,h.2 g→g<w.heap.size
 dn h _ p:=∀ g,p=some g→¬ h.2 g
 goL h k a:=⟨h.1.elim fun n h=>⟨n,h.goL k a⟩,fun g hg=>Nat.lt_of_lt_of_le (h.2 g hg) k.size⟩
 new h k:=fun g e hg=>by have:=h.2 g hg; have:=k g e; omega
 app h a k:=fun g e hg=>by
  rcases k g e with h1 | h1
  ·have:=h.2 g hg; omega
  ·exact a _ h1 g rfl hg
def deR:DE RH RV where
 rel w h x:=(∃ n,RVw (ROn n w h.2) w h.2 h.1.1 x)∧∀ g,h.2 g→g<w.heap.size
 dn h _ p:=∀ g,p=some g→¬ h.2 g
 goL h k a:=⟨h.1.elim fun n h=>⟨n,h.goL k a (fun _ _ q=>q.goL k a)⟩,fun g hg=>Nat.lt_of_lt_of_le (h.2 g hg) k.size⟩
 new h k:=fun g e hg=>by have:=h.2 g hg; have:=k g e; omega
 app h a k:=fun g e hg=>by
  rcases k g e with h1 | h1
  ·have:=h.2 g hg; omega
  ·exact a _ h1 g rfl hg
section
variable {w:World} {F:Nat→Prop} {p:Option Nat}
theorem OrD.nil {H X:Type} {Q:Option Nat→Prop} {d:DE H X} {n:Nat}:OrD Q d [] [] n:=fun _ _ _=>DnD.nil
theorem deO_nil:RelD deO w [(pnil,noF)] [.nil]:=RelD.cons ⟨⟨0,rfl⟩,fun _ h=>h.elim⟩ RelD.nil
theorem deO_nilD:DnD deO [(pnil,noF)] [.nil] p:=DnD.cons (fun _ _ h=>h) DnD.nil
theorem deR_open {v:RC} {x:RV} (h:RelD deR w [(v,F)] [x]):∃ A c,∃ o:OV,v.1=cellsV x.1 false x.2.1.1 (.slice A x.2.1.2.length c) [] o.1∧Rd vi w A c x.2.1.2∧(x.2.1.2≠[]→∀ q,blk A=some q→F q)∧RelD deO w [(o,F)] [x.2.2]:=by
 obtain ⟨⟨n,A,c,o,h1,h2,h3,h4⟩,hF⟩:=h.one
 have ho:o.oneCell'=true:=by rw [h4.ptr]; rfl
 exact ⟨A,c,⟨o,ho⟩,h1,h2,h3,RelD.cons ⟨⟨n,h4⟩,hF⟩ RelD.nil⟩
theorem deR_pack {k:Int} {neg:Bool} {L:List Int} {A:Option Addr} {c:Nat} {o:OV} {y:RO} {F':Nat→Prop} (hR:Rd vi w A c L) (ho:RelD deO w [(o,F)] [y]) (hF:∀ g,F g→F' g) (hA:L≠[]→∀ q,blk A=some q→F' q) (hs:∀ g,F' g→g<w.heap.size) :
  RelD deR w [(⟨cellsV k false neg (.slice A L.length c) [] o.1,cellsV_ok rfl o.2⟩,F')] [(k,(neg,L),y)]:=by
 obtain ⟨⟨n,h⟩,_⟩:=ho.one
 exact RelD.cons ⟨⟨n,A,c,o.1,rfl,hR,hA,h.mono hF⟩,hs⟩ RelD.nil
theorem deO_open {v:OV} {x:RO} (h:RelD deO w [(v,F)] [x]) (hn:x≠.nil):∃ Ai ci Af cf,∃ hi hf:List RH,v.1=.pointer (some ⟨x.id,0,none⟩)∧F x.id∧Bl w x.id 111 (objC (.slice Ai x.items.length ci) x.deep x.order (.slice Af x.fr.length cf)) ∧
  RdK 6 vr w Ai ci hi∧RelD deR w hi x.items∧(∀ h∈hi,h.2=F)∧(∀ q,blk Ai=some q→F q)∧RdK 6 vr w Af cf hf∧RelD deR w hf x.fr∧(∀ h∈hf,h.2=F)∧(∀ q,blk Af=some q→F q):=by
 obtain ⟨⟨n,h⟩,hF⟩:=h.one
 cases x with
 | nil=>exact absurd rfl hn
 | mk id items order fr deep =>
  cases n with
  | zero=>exact h.elim
  | succ n =>
   obtain ⟨h1,h2,Ai,ci,Af,cf,hB,⟨hi,i1,i2,i3,i4⟩,⟨hf,f1,f2,f3,f4⟩⟩:=h
   have key:∀ {A:Option Addr} {c:Nat} {hs:List RH} {l:List RV},RdK 6 vr w A c hs→hs.length=l.length→(∀ (i:Nat) (h:RH) (x:RV),hs[i]?=some h→l[i]?=some x→RVw (ROn n w F) w F h.1.1 x) →
     RdK 6 vr w A c (hs.map fun h=>((h.1,F):RH))∧RelD deR w (hs.map fun h=>((h.1,F):RH)) l:=fun {A c hs l} r1 r2 r3=>by
    refine ⟨?_,by rw [List.length_map]; exact r2,fun i h x hh hx=>?_⟩
    ·refine ⟨r1.ok,by rw [List.length_map]; exact r1.cap,r1.max,fun hne=>?_⟩
     obtain ⟨g,o,hA,hc⟩:=r1.cells (fun e=>hne (by rw [e]; rfl))
     refine ⟨g,o,hA,fun j x i u hj hu=>?_⟩
     rw [List.getElem?_map] at hj
     cases hq:hs[j]? with
     | none=>rw [hq] at hj; cases hj
     | some y =>
      rw [hq] at hj
      simp only [Option.map_some,Option.some.injEq] at hj
      subst hj
      exact hc j y i u hq hu
    ·rw [List.getElem?_map] at hh
     cases hq:hs[i]? with
     | none=>rw [hq] at hh; cases hh
     | some y =>
      rw [hq] at hh
      simp only [Option.map_some,Option.some.injEq] at hh
      subst hh
      exact ⟨⟨n,r3 i y x hq hx⟩,hF⟩
   obtain ⟨a1,a2⟩:=key i1 i2 i4
   obtain ⟨b1,b2⟩:=key f1 f2 f4
   refine ⟨Ai,ci,Af,cf,_,_,h1,h2,hB,a1,a2,fun h hh=>?_,i3,b1,b2,fun h hh=>?_,f3⟩
   ·obtain ⟨y,_,rfl⟩:=List.mem_map.1 hh; rfl
   ·obtain ⟨y,_,rfl⟩:=List.mem_map.1 hh; rfl
theorem qe {v:RC} {x:RV} (h:RelD deR w [(v,F)] [x]):∃ A c,∃ o:OV,v.1=cellsV x.1 false x.2.1.1 (.slice A x.2.1.2.length c) [] o.1∧Rd vi w A c x.2.1.2∧RelD deO w [(o,F)] [x.2.2] ∧
  (∀ p,DnD deR [(v,F)] [x] p→Dn x.2.1.2 (blk A) p)∧(∀ p,DnD deR [(v,F)] [x] p→DnD deO [(o,F)] [x.2.2] p):=by
 obtain ⟨A,c,o,h1,h2,h3,h4⟩:=deR_open h
 exact ⟨A,c,o,h1,h2,h4,fun p hd hne g hg e=>hd.one g e (h3 hne g hg),fun p hd=>DnD.cons (fun g e=>hd.one g e) DnD.nil⟩
def FR (A:Option Addr) (L:List Int) (F:Nat→Prop):Nat→Prop:=fun q=>(L≠[]∧blk A=some q)∨F q
abbrev rcP (k:Int) (neg:Bool) (A:Option Addr) (c:Nat) (L:List Int) (o:OV):RC:=⟨cellsV k false neg (.slice A L.length c) [] o.1,cellsV_ok rfl o.2⟩
theorem qf {k:Int} {neg:Bool} {L:List Int} {A:Option Addr} {c:Nat} {o:OV} {y:RO} (hR:Rd vi w A c L) (ho:RelD deO w [(o,F)] [y]) :
  RelD deR w [(rcP k neg A c L o,FR A L F)] [(k,(neg,L),y)]∧∀ p,Dn L (blk A) p→DnD deO [(o,F)] [y] p→DnD deR [(rcP k neg A c L o,FR A L F)] [(k,(neg,L),y)] p:=by
 refine ⟨deR_pack hR ho (fun g hg=>.inr hg) (fun hne q hq=>.inl ⟨hne,hq⟩) fun g hg=>?_,fun p h1 h2=>DnD.cons (fun g e hg=>?_) DnD.nil⟩
 ·rcases hg with ⟨hne,hq⟩ | hg
  ·obtain ⟨ad,rfl,_⟩:=hR.cells hne
   exact hR.lt hne hq
  ·exact ho.one.2 g hg
 ·rcases hg with ⟨hne,hq⟩ | hg
  ·exact h1 hne g hq e
  ·exact h2.one g e hg
theorem ow26:ckOwK Tryz.prog 26 38 6 72=true:=by kernel_rfl
theorem deO_openD {v:OV} {x:RO} (h:RelD deO w [(v,F)] [x]) (hn:x≠.nil):∃ Ai ci Af cf,∃ hi hf:List RH,v.1=.pointer (some ⟨x.id,0,none⟩)∧Bl w x.id 111 (objC (.slice Ai x.items.length ci) x.deep x.order (.slice Af x.fr.length cf)) ∧
  RdK 6 vr w Ai ci hi∧RelD deR w hi x.items∧RdK 6 vr w Af cf hf∧RelD deR w hf x.fr ∧
  (∀ p,DnD deO [(v,F)] [x] p→Dj (some x.id) p)∧(∀ p,DnD deO [(v,F)] [x] p→Dn hi (blk Ai) p)∧(∀ p,DnD deO [(v,F)] [x] p→DnD deR hi x.items p)∧(∀ p,DnD deO [(v,F)] [x] p→Dn hf (blk Af) p)∧(∀ p,DnD deO [(v,F)] [x] p→DnD deR hf x.fr p):=by
 obtain ⟨Ai,ci,Af,cf,hi,hf,h1,h2,hB,a1,a2,a3,a4,b1,b2,b3,b4⟩:=deO_open h hn
 refine ⟨Ai,ci,Af,cf,hi,hf,h1,hB,a1,a2,b1,b2,fun p hd g hg e=>?_,fun p hd _ g hg e=>hd.one g e (a4 g hg),fun p hd i h x hh hx g e=>?_,fun p hd _ g hg e=>hd.one g e (b4 g hg),fun p hd i h x hh hx g e=>?_⟩
 ·cases hg; exact hd.one _ e h2
 ·rw [a3 h (List.mem_of_getElem? hh)]; exact hd.one g e
 ·rw [b3 h (List.mem_of_getElem? hh)]; exact hd.one g e
theorem RVw.all {hs:List RH}:∀ {xs:List RV},hs.length=xs.length→(∀ (i:Nat) (h:RH) (x:RV),hs[i]?=some h→xs[i]?=some x→∃ n,RVw (ROn n w F) w F h.1.1 x)→∃ n,∀ (i:Nat) (h:RH) (x:RV),hs[i]?=some h→xs[i]?=some x→RVw (ROn n w F) w F h.1.1 x:=by
 induction hs with
 | nil=>intro xs _ _; exact ⟨0,fun i h x hh=>by simp at hh⟩
 | cons a hs ih =>
  intro xs hl h
  cases xs with
  | nil=>simp at hl
  | cons b xs =>
   obtain ⟨n1,k1⟩:=h 0 a b rfl rfl
   obtain ⟨n2,k2⟩:=ih (xs:=xs) (by simpa using hl) (fun i h' x hh hx=>h (i+1) h' x hh hx)
   refine ⟨max n1 n2,fun i h' x hh hx=>?_⟩
   cases i with
   | zero=>cases hh; cases hx; exact k1.mono (fun _ q=>q) (fun _ _ q=>q.le (Nat.le_max_left _ _))
   | succ i=>exact (k2 i h' x hh hx).mono (fun _ q=>q) (fun _ _ q=>q.le (Nat.le_max_right _ _))
def FO (g:Nat) (Ai Af:Option Addr) (hi hf:List RH):Nat→Prop:=fun q=>q=g∨blk Ai=some q∨blk Af=some q∨(∃ h,h∈hi∧h.2 q)∨∃ h,h∈hf∧h.2 q
theorem deO_packD {g ci cf:Nat} {deep order:Int} {its fr:List RV} {Ai Af:Option Addr} {hi hf:List RH} (hB:Bl w g 111 (objC (.slice Ai its.length ci) deep order (.slice Af fr.length cf)))
  (hI:RdK 6 vr w Ai ci hi) (rI:RelD deR w hi its) (hF:RdK 6 vr w Af cf hf) (rF:RelD deR w hf fr) (lI:Lt (blk Ai) w.heap.size) (lF:Lt (blk Af) w.heap.size) :
  RelD deO w [(ovP g,FO g Ai Af hi hf)] [.mk g its order fr deep]∧∀ q,Dj (some g) q→Dj (blk Ai) q→Dj (blk Af) q→DnD deR hi its q→DnD deR hf fr q→DnD deO [(ovP g,FO g Ai Af hi hf)] [.mk g its order fr deep] q:=by
 have at':∀ {hs:List RH} {xs:List RV},RelD deR w hs xs→∀ h∈hs,∃ i x,hs[i]?=some h∧xs[i]?=some x:=fun {hs xs} r h hh=>by
  obtain ⟨i,hi,rfl⟩:=List.getElem_of_mem hh
  exact ⟨i,_,List.getElem?_eq_getElem hi,List.getElem?_eq_getElem (by rw [←r.1]; exact hi)⟩
 obtain ⟨n1,k1⟩:=RVw.all (F:=FO g Ai Af hi hf) rI.1 (fun i h x hh hx=>by
  obtain ⟨⟨n,k⟩,_⟩:=rI.2 i h x hh hx
  have hsub:∀ q,h.2 q→FO g Ai Af hi hf q:=fun q hq=>.inr (.inr (.inr (.inl ⟨h,List.mem_of_getElem? hh,hq⟩)))
  exact ⟨n,k.mono hsub (fun _ _ q=>q.mono hsub)⟩)
 obtain ⟨n2,k2⟩:=RVw.all (F:=FO g Ai Af hi hf) rF.1 (fun i h x hh hx=>by
  obtain ⟨⟨n,k⟩,_⟩:=rF.2 i h x hh hx
  have hsub:∀ q,h.2 q→FO g Ai Af hi hf q:=fun q hq=>.inr (.inr (.inr (.inr ⟨h,List.mem_of_getElem? hh,hq⟩)))
  exact ⟨n,k.mono hsub (fun _ _ q=>q.mono hsub)⟩)
 refine ⟨RelD.cons ⟨⟨max n1 n2+1,rfl,.inl rfl,Ai,ci,Af,cf,hB,⟨hi,hI,rI.1,fun q hq=>.inr (.inl hq),fun i h x hh hx=>?_⟩,⟨hf,hF,rF.1,fun q hq=>.inr (.inr (.inl hq)),fun i h x hh hx=>?_⟩⟩,fun q hq=>?_⟩ RelD.nil,fun q d1 d2 d3 d4 d5=>DnD.cons (fun r e hq=>?_) DnD.nil⟩
 ·exact (k1 i h x hh hx).mono (fun _ q=>q) (fun _ _ q=>q.le (Nat.le_max_left _ _))
 ·exact (k2 i h x hh hx).mono (fun _ q=>q) (fun _ _ q=>q.le (Nat.le_max_right _ _))
 ·rcases hq with rfl | hq | hq | ⟨h,hh,hq⟩ | ⟨h,hh,hq⟩
  ·exact hB.lt
  ·exact lI q hq
  ·exact lF q hq
  ·obtain ⟨i,x,a,b⟩:=at' rI h hh; exact (rI.2 i h x a b).2 q hq
  ·obtain ⟨i,x,a,b⟩:=at' rF h hh; exact (rF.2 i h x a b).2 q hq
 ·subst e
  rcases hq with rfl | hq | hq | ⟨h,hh,hq⟩ | ⟨h,hh,hq⟩
  ·exact d1 _ rfl rfl
  ·exact d2 _ hq rfl
  ·exact d3 _ hq rfl
  ·obtain ⟨i,x,a,b⟩:=at' rI h hh; exact d4 i h x a b _ rfl hq
  ·obtain ⟨i,x,a,b⟩:=at' rF h hh; exact d5 i h x a b _ rfl hq
end
end Go.Proofs.YtjjcdkfhaceicaaGreatDoor
 
namespace Go.Proofs.YtjjcdkfhaceicaaGreatDoor
open Go Go.RowKit
attribute [local irreducible] WL WC WX WQ WK WJ Yld Eff Ef0 Fn
def z5 (neg:Bool) (l:List Int) (K:Bool→(List Int)→Prop):Prop :=
 (l.length≤maxLen →
 Lp1 (fun (n:Int) kont1=>((decide ((0:Int)<n))=true→(In .i64 (n - (1:Int)))) ∧
 ((decide ((0:Int)<n))=true→(0≤n - (1:Int)∧n - (1:Int)<(l.length:Nat))) ∧
 ((((decide ((0:Int)<n)) && (decide ((l.getD ((n - (1:Int)).toNat) 0)=(0:Int))))=true→(In .i64 (n - (1:Int))) ∧
 kont1 (n - (1:Int))) ∧
 (((decide ((0:Int)<n)) && (decide ((l.getD ((n - (1:Int)).toNat) 0)=(0:Int))))=false→(0≤(0:Int)∧(0:Int)≤n∧n≤(l.length:Nat)) ∧
 K (neg && (decide ((0:Int)<n))) ((l.drop 0).take (n.toNat - 0))))) (l.length:Int))
def z4 (x:Int) (K:(List UInt8)→Prop):Prop :=
 (0≤x∧0<(1000:Int)∧In .i64 x) ∧
 (0≤x∧0<(100:Int)∧In .i64 x) ∧
 (0≤x / (100:Int)∧0<(10:Int)) ∧
 (0≤x∧0<(10:Int)∧In .i64 x) ∧
 (0≤x / (10:Int)∧0<(10:Int)) ∧
 (0≤x∧0<(10:Int)) ∧
 (In .i64 ((x / (1000:Int))+(1:Int))) ∧
 (0≤x / (1000:Int)∧x / (1000:Int)≤(x / (1000:Int))+(1:Int)∧(x / (1000:Int))+(1:Int)≤([48,49,50,51,52,53,54,55,56,57]:List UInt8).length) ∧
 (In .i64 (((x / (100:Int)) % (10:Int))+(1:Int))) ∧
 (0≤(x / (100:Int)) % (10:Int)∧(x / (100:Int)) % (10:Int)≤((x / (100:Int)) % (10:Int))+(1:Int)∧((x / (100:Int)) % (10:Int))+(1:Int)≤([48,49,50,51,52,53,54,55,56,57]:List UInt8).length) ∧
 (((([48,49,50,51,52,53,54,55,56,57]:List UInt8).drop (x / (1000:Int)).toNat).take (((x / (1000:Int))+(1:Int)).toNat - (x / (1000:Int)).toNat)).length+((([48,49,50,51,52,53,54,55,56,57]:List UInt8).drop ((x / (100:Int)) % (10:Int)).toNat).take ((((x / (100:Int)) % (10:Int))+(1:Int)).toNat - ((x / (100:Int)) % (10:Int)).toNat)).length≤9223372036854775807) ∧
 (In .i64 (((x / (10:Int)) % (10:Int))+(1:Int))) ∧
 (0≤(x / (10:Int)) % (10:Int)∧(x / (10:Int)) % (10:Int)≤((x / (10:Int)) % (10:Int))+(1:Int)∧((x / (10:Int)) % (10:Int))+(1:Int)≤([48,49,50,51,52,53,54,55,56,57]:List UInt8).length) ∧
 ((((([48,49,50,51,52,53,54,55,56,57]:List UInt8).drop (x / (1000:Int)).toNat).take (((x / (1000:Int))+(1:Int)).toNat - (x / (1000:Int)).toNat))++((([48,49,50,51,52,53,54,55,56,57]:List UInt8).drop ((x / (100:Int)) % (10:Int)).toNat).take ((((x / (100:Int)) % (10:Int))+(1:Int)).toNat - ((x / (100:Int)) % (10:Int)).toNat))).length+((([48,49,50,51,52,53,54,55,56,57]:List UInt8).drop ((x / (10:Int)) % (10:Int)).toNat).take ((((x / (10:Int)) % (10:Int))+(1:Int)).toNat - ((x / (10:Int)) % (10:Int)).toNat)).length≤9223372036854775807) ∧
 (In .i64 ((x % (10:Int))+(1:Int))) ∧
 (0≤x % (10:Int)∧x % (10:Int)≤(x % (10:Int))+(1:Int)∧(x % (10:Int))+(1:Int)≤([48,49,50,51,52,53,54,55,56,57]:List UInt8).length) ∧
 (((((([48,49,50,51,52,53,54,55,56,57]:List UInt8).drop (x / (1000:Int)).toNat).take (((x / (1000:Int))+(1:Int)).toNat - (x / (1000:Int)).toNat))++((([48,49,50,51,52,53,54,55,56,57]:List UInt8).drop ((x / (100:Int)) % (10:Int)).toNat).take ((((x / (100:Int)) % (10:Int))+(1:Int)).toNat - ((x / (100:Int)) % (10:Int)).toNat)))++((([48,49,50,51,52,53,54,55,56,57]:List UInt8).drop ((x / (10:Int)) % (10:Int)).toNat).take ((((x / (10:Int)) % (10:Int))+(1:Int)).toNat - ((x / (10:Int)) % (10:Int)).toNat))).length+((([48,49,50,51,52,53,54,55,56,57]:List UInt8).drop (x % (10:Int)).toNat).take (((x % (10:Int))+(1:Int)).toNat - (x % (10:Int)).toNat)).length≤9223372036854775807) ∧
 K (((((([48,49,50,51,52,53,54,55,56,57]:List UInt8).drop (x / (1000:Int)).toNat).take (((x / (1000:Int))+(1:Int)).toNat - (x / (1000:Int)).toNat))++((([48,49,50,51,52,53,54,55,56,57]:List UInt8).drop ((x / (100:Int)) % (10:Int)).toNat).take ((((x / (100:Int)) % (10:Int))+(1:Int)).toNat - ((x / (100:Int)) % (10:Int)).toNat)))++((([48,49,50,51,52,53,54,55,56,57]:List UInt8).drop ((x / (10:Int)) % (10:Int)).toNat).take ((((x / (10:Int)) % (10:Int))+(1:Int)).toNat - ((x / (10:Int)) % (10:Int)).toNat)))++((([48,49,50,51,52,53,54,55,56,57]:List UInt8).drop (x % (10:Int)).toNat).take (((x % (10:Int))+(1:Int)).toNat - (x % (10:Int)).toNat)))
def qD (n:Int) (K:Bool→(List Int)→Prop):Prop :=
 Lp2 (fun (l:List Int) (m:Int) kont1=>((¬ (m=(0:Int))→((10000:Int)≠0) ∧
 ∃ J1:Int→Prop,((((m.tmod (10000:Int))<(0:Int)→(In .i64 (0 - (m.tmod (10000:Int)))) ∧
 J1 (0 - (m.tmod (10000:Int)))) ∧
 (¬ ((m.tmod (10000:Int))<(0:Int))→J1 (m.tmod (10000:Int))))) ∧
 (∀ d:Int,J1 d→((l.length+(([d]:List Int)).length)*8≤140737488355328) ∧
 ((10000:Int)≠0) ∧
 kont1 (l++([d]:List Int)) (IntKind.wrap .i64 (m.tdiv (10000:Int))))) ∧
 (m=(0:Int)→z5 (decide (n<(0:Int))) l (fun (t24_Neg:Bool) (t24_L:List Int) =>
 K t24_Neg t24_L)))) [] n
def zz (a_Neg:Bool) (a_L:List Int) (K:(List UInt8)→Prop):Prop :=
 (a_L.length≤maxLen →
 (In .i64 ((a_L.length:Int) - (1:Int))) ∧
 Lp2 (fun (s:List UInt8) (i:Int) kont1=>(((0:Int)≤i→(0≤i∧i<(a_L.length:Nat)) ∧
 z4 (a_L.getD i.toNat 0) (fun (t20:List UInt8) =>
 (s.length+t20.length≤9223372036854775807) ∧
 (In .i64 (i - (1:Int))) ∧
 kont1 (s++t20) (i - (1:Int)))) ∧
 (¬ ((0:Int)≤i)→Lp1 (fun (k:Int) kont2=>((decide (k<(s.length:Int)))=true→(0≤k∧k<s.length)) ∧
 ((((decide (k<(s.length:Int))) && (decide (((s.getD k.toNat 0).toNat:Int)=(48:Int))))=true→(In .i64 (k+(1:Int))) ∧
 kont2 (k+(1:Int))) ∧
 (((decide (k<(s.length:Int))) && (decide (((s.getD k.toNat 0).toNat:Int)=(48:Int))))=false→(0≤k∧k≤s.length) ∧
 (((s.drop k.toNat)=([]:List UInt8)→K ([48]:List UInt8)) ∧
 (¬ ((s.drop k.toNat)=([]:List UInt8))→((a_Neg=true→(([45]:List UInt8).length+(s.drop k.toNat).length≤9223372036854775807) ∧
 K (([45]:List UInt8)++(s.drop k.toNat))) ∧
 (a_Neg=false→K (s.drop k.toNat)))))))) (0:Int)))) ([]:List UInt8) ((a_L.length:Int) - (1:Int)))
set_option maxHeartbeats 8000000 in
theorem W_smithyref9_trim {w:World} {neg:Bool} {l:List Int} {A_l:Option Addr} {c_l:Nat} {n_l:Nat} {K:Bool→(List Int)→Prop} (hl:Rd vi w A_l c_l l) (hn_l:n_l=l.length) (H:z5 neg l K):Fn Tryz.prog 115 ⟨[.bool neg,.slice A_l n_l c_l]⟩ w (fun v w'=>w.grownBy w' none∧∃ (r_Neg:Bool),∃ (r_L:List Int),∃ (A_r_L:Option Addr),∃ (c_r_L:Nat),v=.agg ⟨[.bool r_Neg,.slice A_r_L r_L.length c_r_L]⟩∧Rd vi w' A_r_L c_r_L r_L∧Orig (r_L≠[]) (blk A_r_L) w.heap.size [(l≠[],blk A_l)]∧K r_Neg r_L):=by
 subst hn_l
 unfold z5 at H
 refine Fn.enter (by kernel_rfl) Tryz.func115 rfl Tryz.ntmps115 rfl ?_
 replace H:=H (Nat.le_trans hl.cap hl.max)
 refine WC.seq (WC.region (WL.alloc rfl zero35 (fun g1 w1 hB1 hg1 hl1=>?_)))
 have gr1:=hg1
 refine WL.nil (WX.then_normal (WC.seq (WC.region (yp (h:=(yp (h:=(yp (h:=(WL.nil (WX.then_normal (WC.seq (WC.block ?_)))))))))))))
 obtain ⟨I1,mu1,h0_1,HR1⟩:=H
 refine WC.loopF (fun n' L' w'=>∃ (n:Int),n'=mu1 n∧L'=[(0,.bool neg),(1,.slice A_l l.length c_l),(4,.pointer (some ⟨g1,0,none⟩)),(5,.int .i64 n)]∧I1 n∧w1=w') _ _ ⟨(l.length:Int),rfl,rfl,h0_1,rfl⟩ (by repeat (first | exact Sub.nil | refine Sub.cons rfl ?_)) ?_
 clear h0_1
 rintro _ _ _ ⟨n,rfl,rfl,hI1,rfl⟩
 have H:=HR1 n hI1
 refine WC.seq (WC.seq (WC.region (yp (h:=(yp (h:=(yp (h:=?_))))))))
 obtain ⟨h1,H⟩:=H
 obtain ⟨h2,H⟩:=H
 refine WL.midF 7 (fun L' w'=>∃ q1:Bool,L'=[(17,.bool q1),(0,.bool neg),(1,.slice A_l l.length c_l),(4,.pointer (some ⟨g1,0,none⟩)),(5,.int .i64 n)]∧((decide ((0:Int)<n)) && (decide ((l.getD ((n - (1:Int)).toNat) 0)=(0:Int))))=q1∧w1=w') ?_ (fun hQ=>?_)
 ·rintro _ _ ⟨q1,rfl,rfl,rfl⟩
  refine WL.nil (WX.then_normal (WC.cond rfl (fun b1=>?_) (fun b1=>?_)))
  ·replace H:=H.1 (b1)
   refine WC.skip (WX.then_normal (WC.block (WC.region (yp (h:=?_)))))
   obtain ⟨h3,H⟩:=H
   refine WL.y rfl (Yld.sub rfl rfl h3) (yp (h:=(WL.nil (WX.block_normal ?_))))
   exact WX.roundF _ ⟨n - (1:Int),rfl,rfl,H.1,rfl⟩ (by repeat (first | exact Sub.nil | refine Sub.cons rfl ?_)) H.2
  ·replace H:=H.2 (b1)
   refine WC.exit (WX.then_exit (WX.then_exit (WX.block_same (WX.then_normal (WC.seq (WC.region (yp (h:=(yp (h:=(WL.midF 3 (fun L' w'=>∃ q2:Bool,L'=[(24,.bool q2),(1,.slice A_l l.length c_l),(4,.pointer (some ⟨g1,0,none⟩)),(5,.int .i64 n)]∧(neg && (decide ((0:Int)<n)))=q2∧w1=w') ?_ (fun hQ=>?_))))))))))))
   ·rintro _ _ ⟨q2,rfl,rfl,rfl⟩
    refine yp (h:=(yp (h:=?_)))
    obtain ⟨h4,H⟩:=H
    exact WL.cut za (hl.grown gr1) rfl rfl rfl rfl rfl rfl h4.1 h4.2.1 h4.2.2 (fun A_t27 c_t27 hR1 hb1=>WL.y rfl (Yld.struct (us:=[.bool (neg && (decide ((0:Int)<n))),.slice A_t27 (((l.drop 0).take (n.toNat - 0)).length) c_t27]) zero35 places35 rfl rfl) (WL.storeW (vs:=[.bool (neg && (decide ((0:Int)<n))),.slice A_t27 (((l.drop 0).take (n.toNat - 0)).length) c_t27]) za rfl rfl rfl (zf rfl (zf rfl zm)) hB1 rfl rfl (fun w2 hB2 hg2=>WL.nil (WX.then_normal (WC.ret (WX.retc za rfl rfl rfl hB2 rfl ⟨(zk gr1 hg2 (Ge.le (Ge.box hl1) (Nat.le_refl _))),neg && (decide ((0:Int)<n)),((l.drop 0).take (n.toNat - 0)),A_t27,c_t27,rfl,(hR1.go hg2 (Dn.sub (Dn.new (fun hx=>hl.lt' hx) (Ge.le (Ge.box hl1) (Nat.le_refl _))) ne_cut hb1)),(Orig.sub (Orig.par (List.Mem.head _)) ne_cut hb1),H⟩))))))
   ·clear H
    rcases Bool.eq_false_or_eq_true (neg) with b2 | b2
    ·exact gp b2 (h:=(gp b2 (h:=(WL.y rfl (Yld.pickT (okb b2) rfl) (wk (hQ _ _ ⟨decide ((0:Int)<n),rfl,by rw [b2] <;> rfl,rfl⟩))))))
    ·exact gn b2 (h:=(gn b2 (h:=(WL.y rfl (Yld.pickF (okb b2) rfl) (wk (hQ _ _ ⟨false,rfl,by rw [b2] <;> rfl,rfl⟩))))))
 ·clear H
  rcases Bool.eq_false_or_eq_true (decide ((0:Int)<n)) with b3 | b3
  ·exact gp b3 (h:=(gp b3 (h:=(WL.gyes rfl rfl (okb b3) rfl (Yld.sub rfl rfl (h1 b3)) (WL.gyes rfl rfl (okb b3) rfl (Yld.iaddrW za (hl.grown gr1) rfl rfl rfl rfl (h2 b3).1 (h2 b3).2) (WL.gyes rfl rfl (okb b3) rfl (Yld.iload 0 za (hl.grown gr1) rfl rfl (iltN (h2 b3) rfl)) (gp b3 (h:=(WL.y rfl (Yld.pickT (okb b3) rfl) (wk (hQ _ _ ⟨decide ((l.getD ((n - (1:Int)).toNat) 0)=(0:Int)),rfl,by rw [b3] <;> rfl,rfl⟩)))))))))))
  ·exact gn b3 (h:=(gn b3 (h:=(gn b3 (h:=(gn b3 (h:=(gn b3 (h:=(gn b3 (h:=(WL.y rfl (Yld.pickF (okb b3) rfl) (wk (hQ _ _ ⟨false,rfl,by rw [b3] <;> rfl,rfl⟩))))))))))))))
set_option maxHeartbeats 8000000 in
theorem W_smithyref9_four {w:World} {x:Int} {K:(List UInt8)→Prop} (H:z4 x K):Fn Tryz.prog 185 ⟨[.int .i64 x]⟩ w (fun v w'=>w=w'∧∃ (r:List UInt8),v=vs r∧K r):=by
 unfold z4 at H
 refine Fn.enter (by kernel_rfl) Tryz.func185 rfl Tryz.ntmps185 rfl ?_
 refine WC.seq (WC.region (yp (h:=(WL.nil (WX.then_normal (WC.seq (WC.region (yp (h:=(WL.nil (WX.then_normal (WC.seq (WC.region (yp (h:=?_)))))))))))))))
 obtain ⟨h1,H⟩:=H
 refine WL.y rfl (Yld.quo rfl rfl h1.1 h1.2.1 h1.2.2) (yp (h:=(WL.nil (WX.then_normal (WC.seq (WC.region (yp (h:=?_))))))))
 obtain ⟨h2,H⟩:=H
 refine WL.y rfl (Yld.quo rfl rfl h2.1 h2.2.1 h2.2.2) ?_
 obtain ⟨h3,H⟩:=H
 refine WL.y rfl (Yld.rem rfl rfl h3.1 h3.2) (yp (h:=(WL.nil (WX.then_normal (WC.seq (WC.region (yp (h:=?_))))))))
 obtain ⟨h4,H⟩:=H
 refine WL.y rfl (Yld.quo rfl rfl h4.1 h4.2.1 h4.2.2) ?_
 obtain ⟨h5,H⟩:=H
 refine WL.y rfl (Yld.rem rfl rfl h5.1 h5.2) (yp (h:=(WL.nil (WX.then_normal (WC.seq (WC.region (yp (h:=?_))))))))
 obtain ⟨h6,H⟩:=H
 refine WL.y rfl (Yld.rem rfl rfl h6.1 h6.2) (yp (h:=(WL.nil (WX.then_normal (WC.seq (WC.quiet mixed (by kernel_rfl) (WQ.y rfl (Yld.pure za rfl) (WQ.y rfl (Yld.pure za rfl) (WQ.y rfl (Yld.pure za rfl) ?_)))))))))
 obtain ⟨h7,H⟩:=H
 refine WQ.y rfl (Yld.add rfl rfl h7) ?_
 obtain ⟨h8,H⟩:=H
 refine WQ.y rfl (Yld.scut za rfl rfl rfl rfl h8.1 h8.2.1 h8.2.2) (WQ.y rfl (Yld.pure za rfl) (WQ.y rfl (Yld.pure za rfl) (WQ.y rfl (Yld.pure za rfl) ?_)))
 obtain ⟨h9,H⟩:=H
 refine WQ.y rfl (Yld.add rfl rfl h9) ?_
 obtain ⟨h10,H⟩:=H
 refine WQ.y rfl (Yld.scut za rfl rfl rfl rfl h10.1 h10.2.1 h10.2.2) ?_
 obtain ⟨h11,H⟩:=H
 refine WQ.y rfl (Yld.sadd rfl rfl h11) (WQ.y rfl (Yld.pure za rfl) (WQ.y rfl (Yld.pure za rfl) (WQ.y rfl (Yld.pure za rfl) ?_)))
 obtain ⟨h12,H⟩:=H
 refine WQ.y rfl (Yld.add rfl rfl h12) ?_
 obtain ⟨h13,H⟩:=H
 refine WQ.y rfl (Yld.scut za rfl rfl rfl rfl h13.1 h13.2.1 h13.2.2) ?_
 obtain ⟨h14,H⟩:=H
 refine WQ.y rfl (Yld.sadd rfl rfl h14) (WQ.y rfl (Yld.pure za rfl) (WQ.y rfl (Yld.pure za rfl) (WQ.y rfl (Yld.pure za rfl) ?_)))
 obtain ⟨h15,H⟩:=H
 refine WQ.y rfl (Yld.add rfl rfl h15) ?_
 obtain ⟨h16,H⟩:=H
 refine WQ.y rfl (Yld.scut za rfl rfl rfl rfl h16.1 h16.2.1 h16.2.2) ?_
 obtain ⟨h17,H⟩:=H
 exact WQ.y rfl (Yld.sadd rfl rfl h17) (WQ.y rfl (Yld.pure za rfl) (WQ.nil (WX.then_normal (WC.ret (WX.ret1 rfl rfl ⟨rfl,((((([48,49,50,51,52,53,54,55,56,57]:List UInt8).drop (x / (1000:Int)).toNat).take (((x / (1000:Int))+(1:Int)).toNat - (x / (1000:Int)).toNat))++((([48,49,50,51,52,53,54,55,56,57]:List UInt8).drop ((x / (100:Int)) % (10:Int)).toNat).take ((((x / (100:Int)) % (10:Int))+(1:Int)).toNat - ((x / (100:Int)) % (10:Int)).toNat)))++((([48,49,50,51,52,53,54,55,56,57]:List UInt8).drop ((x / (10:Int)) % (10:Int)).toNat).take ((((x / (10:Int)) % (10:Int))+(1:Int)).toNat - ((x / (10:Int)) % (10:Int)).toNat)))++((([48,49,50,51,52,53,54,55,56,57]:List UInt8).drop (x % (10:Int)).toNat).take (((x % (10:Int))+(1:Int)).toNat - (x % (10:Int)).toNat)),rfl,H⟩)))))
set_option maxHeartbeats 8000000 in
theorem W_smithyref9_Of {w:World} {n:Int} {K:Bool→(List Int)→Prop} (H:qD n K):Fn Tryz.prog 53 ⟨[.int .i64 n]⟩ w (fun v w'=>w.grownBy w' none∧∃ (r_Neg:Bool),∃ (r_L:List Int),∃ (A_r_L:Option Addr),∃ (c_r_L:Nat),v=.agg ⟨[.bool r_Neg,.slice A_r_L r_L.length c_r_L]⟩∧Rd vi w' A_r_L c_r_L r_L∧Orig (r_L≠[]) (blk A_r_L) w.heap.size []∧K r_Neg r_L):=by
 unfold qD at H
 refine Fn.enter (by kernel_rfl) Tryz.func53 rfl Tryz.ntmps53 rfl ?_
 refine WC.seq (WC.region (WL.alloc rfl zero35 (fun g1 w1 hB1 hg1 hl1=>WL.nil (WX.then_normal (WC.seq (WC.region (yp (h:=(WL.nil (WX.then_normal (WC.seq (WC.region (yp (h:=(yp (h:=(WL.nil (WX.then_normal (WC.seq (WC.block ?_))))))))))))))))))))
 obtain ⟨I1,mu1,h0_1,HR1⟩:=H
 refine WC.loopF (fun n' L' w'=>∃ (l:List Int),∃ (A_l:Option Addr),∃ (c_l:Nat),∃ (n_l:Nat),∃ (m:Int),n'=mu1 l m∧L'=[(0,.int .i64 n),(2,.pointer (some ⟨g1,0,none⟩)),(3,.slice A_l n_l c_l),(4,.int .i64 m)]∧I1 l m∧n_l=l.length∧w.grownBy w' none∧Bl w' g1 35 [.bool false,.slice none 0 0]∧Own vi w' w.heap.size 3 A_l c_l l∧Dj (some g1) (blk A_l)) _ _ ⟨[],none,0,0,n,rfl,rfl,h0_1,rfl,hg1,hB1,(Own.nil vi w1 w.heap.size 3),Dj.nr⟩ (by repeat (first | exact Sub.nil | refine Sub.cons rfl ?_)) ?_
 clear h0_1
 rintro _ _ w2 ⟨l,A_l,c_l,n_l,m,rfl,rfl,hI1,rfl,gr2,k1,k2,dj1⟩
 have H:=HR1 l m hI1
 refine WC.seq (WC.seq (WC.region (yp (h:=(yp (h:=(WL.nil (WX.then_normal (WC.cond rfl (fun b1=>?_) (fun b1=>?_))))))))))
 ·replace H:=H.1 (nd_true b1)
  refine WC.skip (WX.then_normal (WC.block (WC.seq (WC.region (yp (h:=?_))))))
  obtain ⟨h1,H⟩:=H
  refine WL.y rfl (Yld.rem' rfl rfl h1) (yp (h:=(WL.nil (WX.then_normal (WC.seq ?_)))))
  obtain ⟨J1,H,hJ1⟩:=H
  refine WC.midF (fun L' w'=>∃ (d:Int),L'=[(0,.int .i64 n),(2,.pointer (some ⟨g1,0,none⟩)),(3,.slice A_l l.length c_l),(4,.int .i64 m),(5,.int .i64 d)]∧J1 d∧w2=w') ?_ (fun hQ=>?_)
  ·clear H
   rintro _ _ ⟨d,rfl,H,rfl⟩
   replace H:=hJ1 d H
   refine WX.then_normal (WC.seq (WC.region (yp (h:=(yp (h:=(WL.lit za rfl rfl rfl (zf rfl zm) rfl (by omega) (fun g2 w3 hB2 hg2 hl2=>?_))))))))
   have hO1:Own vi w3 w.heap.size 3 (some ⟨g2,0,none⟩) 1 ([d]:List Int):=Own.ofBl hB2 (Nat.le_trans (ze gr2) hl2) (by simp [maxLen]) rfl
   have gr3:=zd gr2 hg2
   have k3:=k1.g0 hg2
   have k4:=k2.grown hg2
   obtain ⟨h2,H⟩:=H
   refine WL.append za rfl rfl One.i k4 rfl rfl hO1.rd rfl rfl h2 (zx h2) (ze gr3) (fun A_l2 c_l2 w4 hO2 hg3 hk1=>yp (h:=(WL.nil (WX.then_normal (WC.region (yp (h:=?_)))))))
   obtain ⟨h3,H⟩:=H
   refine WL.y rfl (Yld.quo' rfl rfl h3) (yp (h:=(WL.nil (WX.block_normal ?_))))
   exact WX.roundF _ ⟨l++([d]:List Int),A_l2,c_l2,(l++([d]:List Int)).length,IntKind.wrap .i64 (m.tdiv (10000:Int)),rfl,rfl,H.1,rfl,(zk gr3 hg3 k4.ge'),(k3.go hg3 dj1),hO2,(Dj.app dj1.symm k3.lt' hk1).symm⟩ (by repeat (first | exact Sub.nil | refine Sub.cons rfl ?_)) H.2
  ·clear hJ1
   refine WC.seq (WC.region (yp (h:=(yp (h:=(WL.nil (WX.then_normal (WC.cond rfl (fun b2=>?_) (fun b2=>?_)))))))))
   ·replace H:=H.1 (of_decide_eq_true b2)
    refine WC.region (yp (h:=?_))
    obtain ⟨h4,H⟩:=H
    refine WL.y rfl (Yld.neg za rfl h4) (yp (h:=(WL.nil ?_)))
    exact WX.weaken (by repeat (first | exact Sub.nil | refine Sub.cons rfl ?_)) (hQ _ _ ⟨0 - (m.tmod (10000:Int)),rfl,H,rfl⟩)
   ·replace H:=H.2 (of_decide_eq_false b2)
    refine WC.skip ?_
    exact WX.weaken (by repeat (first | exact Sub.nil | refine Sub.cons rfl ?_)) (hQ _ _ ⟨m.tmod (10000:Int),rfl,H,rfl⟩)
 ·replace H:=H.2 (nd_false b1)
  refine WC.exit (WX.then_exit (WX.then_exit (WX.block_same (WX.then_normal (WC.seq (WC.region (yp (h:=(yp (h:=(yp (h:=(WL.call rfl rfl (W_smithyref9_trim k2.rd rfl H) ?_)))))))))))))
  rintro _ w5 ⟨hg4,t24_Neg,t24_L,A_t24_L,c_t24_L,rfl,ht24_L,ho1,H⟩
  exact WL.storeW (vs:=[.bool t24_Neg,.slice A_t24_L t24_L.length c_t24_L]) za rfl rfl rfl (zf rfl (zf rfl zm)) (k1.g0 hg4) rfl rfl (fun w6 hB3 hg5=>WL.nil (WX.then_normal (WC.ret (WX.retc za rfl rfl rfl hB3 rfl ⟨(zk (zd gr2 hg4) hg5 (Ge.le (Ge.box hl1) (Nat.le_refl _))),t24_Neg,t24_L,A_t24_L,c_t24_L,rfl,(ht24_L.go hg5 (Orig.apart ho1 k1.lt' (orC (Dn.of dj1.symm) orN))),(Orig.trans ho1 (ze gr2) (orC (Orig.new k2.ge') orN)),H⟩))))
set_option maxHeartbeats 8000000 in
theorem qm {w:World} {a_Neg:Bool} {a_L:List Int} {A_a_L:Option Addr} {c_a_L:Nat} {n_a_L:Nat} {K:(List UInt8)→Prop} (ha_L:Rd vi w A_a_L c_a_L a_L) (hn_a_L:n_a_L=a_L.length) (H:zz a_Neg a_L K):Fn Tryz.prog 145 ⟨[.agg ⟨[.bool a_Neg,.slice A_a_L n_a_L c_a_L]⟩]⟩ w (fun v w'=>w.grownBy w' none∧∃ (r:List UInt8),v=vs r∧K r):=by
 subst hn_a_L
 unfold zz at H
 refine Fn.enter (by kernel_rfl) Tryz.func145 rfl Tryz.ntmps145 rfl ?_
 replace H:=H (Nat.le_trans ha_L.cap ha_L.max)
 refine WC.seq (WC.region (WL.box (us:=[.bool a_Neg,.slice A_a_L a_L.length c_a_L]) rfl rfl rfl (fun g1 w1 hB1 hg1 hl1=>?_)))
 have gr1:=hg1
 refine yp (h:=(WL.nil (WX.then_normal (WC.seq (WC.region (yp (h:=(WL.nil (WX.then_normal (WC.seq (WC.seq (WC.region (yp (h:=(WL.y rfl (Yld.bload za hB1 rfl rfl rfl) (yp (h:=?_)))))))))))))))))
 obtain ⟨h1,H⟩:=H
 refine WL.y rfl (Yld.sub rfl rfl h1) (yp (h:=(WL.nil (WX.then_normal (WC.block ?_)))))
 obtain ⟨I1,mu1,h0_1,HR1⟩:=H
 refine WC.loopF (fun n' L' w'=>∃ (s:List UInt8),∃ (i:Int),n'=mu1 s i∧L'=[(1,.pointer (some ⟨g1,0,none⟩)),(3,vs s),(4,.int .i64 i)]∧I1 s i∧w1=w') _ _ ⟨([]:List UInt8),(a_L.length:Int) - (1:Int),rfl,rfl,h0_1,rfl⟩ (by repeat (first | exact Sub.nil | refine Sub.cons rfl ?_)) ?_
 clear h0_1
 rintro _ _ _ ⟨s,i,rfl,rfl,hI1,rfl⟩
 have H:=HR1 s i hI1
 refine WC.seq (WC.seq (WC.region (yp (h:=(yp (h:=(WL.nil (WX.then_normal (WC.cond rfl (fun b1=>?_) (fun b1=>?_))))))))))
 ·replace H:=H.1 (of_decide_eq_true b1)
  refine WC.skip (WX.then_normal (WC.seq (WC.block (WC.region (yp (h:=(yp (h:=(WL.y rfl (Yld.bload za hB1 rfl rfl rfl) (yp (h:=?_)))))))))))
  obtain ⟨h2,H⟩:=H
  refine WL.y rfl (Yld.iaddrW za (ha_L.grown gr1) rfl rfl rfl rfl h2.1 h2.2) (WL.y rfl (Yld.iload 0 za (ha_L.grown gr1) rfl rfl (iltN h2 rfl)) (WL.call rfl rfl (W_smithyref9_four H) ?_))
  rintro _ _ ⟨rfl,t20,rfl,H⟩
  obtain ⟨h3,H⟩:=H
  refine WL.y rfl (Yld.sadd rfl rfl h3) (yp (h:=(WL.nil (WX.block_normal (WX.then_normal (WC.region (yp (h:=?_))))))))
  obtain ⟨h4,H⟩:=H
  refine WL.y rfl (Yld.sub rfl rfl h4) (yp (h:=(WL.nil ?_)))
  exact WX.roundF _ ⟨s++t20,i - (1:Int),rfl,rfl,H.1,rfl⟩ (by repeat (first | exact Sub.nil | refine Sub.cons rfl ?_)) H.2
 ·replace H:=H.2 (of_decide_eq_false b1)
  refine WC.exit (WX.then_exit (WX.then_exit (WX.block_same (WX.then_normal (WC.seq (WC.region (yp (h:=(WL.nil (WX.then_normal (WC.seq (WC.block ?_))))))))))))
  obtain ⟨I2,mu2,h0_2,HR2⟩:=H
  refine WC.loopF (fun n' L' w'=>∃ (k:Int),n'=mu2 k∧L'=[(1,.pointer (some ⟨g1,0,none⟩)),(3,vs s),(5,.int .i64 k)]∧I2 k∧w1=w') _ _ ⟨(0:Int),rfl,rfl,h0_2,rfl⟩ (by repeat (first | exact Sub.nil | refine Sub.cons rfl ?_)) ?_
  clear h0_2
  rintro _ _ _ ⟨k,rfl,rfl,hI2,rfl⟩
  have H:=HR2 k hI2
  refine WC.seq (WC.seq (WC.region (yp (h:=(yp (h:=(yp (h:=(yp (h:=(yp (h:=?_))))))))))))
  obtain ⟨h5,H⟩:=H
  refine WL.midF 5 (fun L' w'=>∃ q1:Bool,L'=[(31,.bool q1),(1,.pointer (some ⟨g1,0,none⟩)),(3,vs s),(5,.int .i64 k)]∧((decide (k<(s.length:Int))) && (decide (((s.getD k.toNat 0).toNat:Int)=(48:Int))))=q1∧w1=w') ?_ (fun hQ=>?_)
  ·rintro _ _ ⟨q1,rfl,rfl,rfl⟩
   refine WL.nil (WX.then_normal (WC.cond rfl (fun b2=>?_) (fun b2=>?_)))
   ·replace H:=H.1 (b2)
    refine WC.skip (WX.then_normal (WC.block (WC.region (yp (h:=?_)))))
    obtain ⟨h6,H⟩:=H
    refine WL.y rfl (Yld.add rfl rfl h6) (yp (h:=(WL.nil (WX.block_normal ?_))))
    exact WX.roundF _ ⟨k+(1:Int),rfl,rfl,H.1,rfl⟩ (by repeat (first | exact Sub.nil | refine Sub.cons rfl ?_)) H.2
   ·replace H:=H.2 (b2)
    refine WC.exit (WX.then_exit (WX.then_exit (WX.block_same (WX.then_normal (WC.seq (WC.region (yp (h:=(yp (h:=?_))))))))))
    obtain ⟨h7,H⟩:=H
    refine WL.y rfl (Yld.scutF za rfl rfl rfl h7.1 h7.2) (yp (h:=(WL.nil (WX.then_normal (WC.seq (WC.seq (WC.region (yp (h:=(yp (h:=(WL.nil (WX.then_normal (WC.cond rfl (fun b3=>?_) (fun b3=>?_)))))))))))))))
    ·replace H:=H.1 (of_decide_eq_true b3)
     exact WC.seq (WC.region (yp (h:=(WL.nil (WX.then_normal (WC.ret (WX.then_ret (WX.ret1 rfl rfl ⟨gr1,([48]:List UInt8),rfl,H⟩))))))))
    ·replace H:=H.2 (of_decide_eq_false b3)
     refine WC.skip (WX.then_normal (WC.seq (WC.seq (WC.region (yp (h:=(WL.y rfl (Yld.bload za hB1 rfl rfl rfl) (WL.nil (WX.then_normal (WC.cond rfl (fun b4=>?_) (fun b4=>?_)))))))))))
     ·replace H:=H.1 (b4)
      refine WC.seq (WC.region (yp (h:=?_)))
      obtain ⟨h8,H⟩:=H
      exact WL.y rfl (Yld.sadd rfl rfl h8) (yp (h:=(WL.nil (WX.then_normal (WC.ret (WX.then_ret (WX.ret1 rfl rfl ⟨gr1,([45]:List UInt8)++(s.drop k.toNat),rfl,H⟩)))))))
     ·replace H:=H.2 (b4)
      exact WC.skip (WX.then_normal (WC.seq (WC.region (yp (h:=(yp (h:=(WL.nil (WX.then_normal (WC.ret (WX.ret1 rfl rfl ⟨gr1,s.drop k.toNat,rfl,H⟩)))))))))))
  ·clear H
   rcases Bool.eq_false_or_eq_true (decide (k<(s.length:Int))) with b5 | b5
   ·exact gp b5 (h:=(gp b5 (h:=(WL.gyes rfl rfl (okb b5) rfl (Yld.sidx za rfl rfl rfl (h5 b5).1 (h5 b5).2) (gp b5 (h:=(WL.y rfl (Yld.pickT (okb b5) rfl) (wk (hQ _ _ ⟨decide (((s.getD k.toNat 0).toNat:Int)=(48:Int)),rfl,by rw [b5] <;> rfl,rfl⟩)))))))))
   ·exact gn b5 (h:=(gn b5 (h:=(gn b5 (h:=(gn b5 (h:=(WL.y rfl (Yld.pickF (okb b5) rfl) (wk (hQ _ _ ⟨false,rfl,by rw [b5] <;> rfl,rfl⟩))))))))))
end Go.Proofs.YtjjcdkfhaceicaaGreatDoor
 
namespace Go.Proofs.YtjjcdkfhaceicaaGreatDoor
open Go Go.RowKit
attribute [local irreducible] WL WC WX WQ WK WJ Yld Eff Ef0 Fn
def qz (n:Int) (K:RV→Prop):Prop:=qD n fun s L=>K (3,(s,L),.nil)
theorem Int_fn {w:World} {neg:Bool} {L:List Int} {A:Option Addr} {c:Nat} (hR:Rd vi w A c L):Fn Tryz.prog 63 ⟨[.agg ⟨[.bool neg,.slice A L.length c]⟩]⟩ w
  (fun v w'=>w.grownBy w' none∧v=.agg ⟨cellsV 3 false neg (.slice A L.length c) [] (.pointer none)⟩):=by
 refine Fn.enter (by kernel_rfl) Tryz.func63 rfl Tryz.ntmps63 rfl ?_
 refine WC.seq ?_
 refine WC.region ?_
 refine WL.box (us:=[.bool neg,.slice A L.length c]) rfl rfl rfl (fun g1 w1 hB1 hg1 hl1=>?_)
 refine WL.alloc rfl zero38 (fun g2 w2 hB2 hg2 hl2=>?_)
 refine WL.nil (WX.then_normal ?_)
 refine WC.seq ?_
 refine WC.region ?_
 have gr2:=zd hg1 hg2
 refine WL.y rfl (Yld.bagg (vs:=[.bool neg,.slice A L.length c]) za (hB1.g0 hg2) rfl rfl rfl rfl) ?_
 refine WL.y rfl (Yld.struct (us:=[.int .i64 (3:Int),.bool false,.bool neg,.slice A L.length c,vs ([]:List UInt8),.pointer none]) zero38 places38 rfl rfl) ?_
 refine WL.storeW (vs:=[.int .i64 (3:Int),.bool false,.bool neg,.slice A L.length c,vs ([]:List UInt8),.pointer none]) za rfl rfl rfl (zf rfl (zf rfl (zf rfl (zf rfl (zf rfl (zf rfl zm)))))) hB2 rfl rfl (fun w3 hB3 hg3=>?_)
 have gr3:=zk gr2 hg3 (Ge.le (Ge.box hl2) (ze hg1))
 refine WL.nil (WX.then_normal ?_)
 refine WC.ret ?_
 exact WX.retc za rfl rfl rfl hB3 rfl ⟨gr3,rfl⟩
theorem W_smithyref14_Small {w:World} {n:Int} {K:RV→Prop} (H:qz n K):Fn Tryz.prog 11 ⟨[.int .i64 n]⟩ w
  (fun v w'=>w.grownBy w' none∧∃ (v_r:RC),∃ (F_r:Nat→Prop),∃ (r:RV),v=(.agg ⟨v_r.1⟩)∧RelD deR w' [(v_r,F_r)] [r]∧(∀ p:Option Nat,Lt p w.heap.size→DnD deR [(v_r,F_r)] [r] p)∧K r):=by
 refine Fn.enter (by kernel_rfl) Tryz.func11 rfl Tryz.ntmps11 rfl ?_
 refine WC.seq ?_
 refine WC.region ?_
 refine WL.alloc rfl zero38 (fun g1 w1 hB1 hg1 hl1=>?_)
 refine WL.nil (WX.then_normal ?_)
 refine WC.seq ?_
 refine WC.region ?_
 refine WL.y rfl (Yld.pure za rfl) ?_
 refine WL.call rfl rfl (W_smithyref9_Of H) ?_
 rintro _ w2 ⟨hg2,neg,L,A,c,rfl,hR,hO,H⟩
 have gr2:=zd hg1 hg2
 refine WL.call rfl rfl (Int_fn hR) ?_
 rintro _ w3 ⟨hg3,rfl⟩
 have gr3:=zd gr2 hg3
 refine WL.storeW (vs:=cellsV 3 false neg (.slice A L.length c) [] (.pointer none)) za rfl rfl rfl (cellsV_ok rfl rfl).2 ((hB1.g0 hg2).g0 hg3) rfl rfl (fun w4 hB4 hg4=>?_)
 have gr4:=zk gr3 hg4 (Ge.box hl1)
 have hA:Dn L (blk A) (some g1):=hO.apart hB1.lt' (fun _ h=>nomatch h)
 have hp:=qf (k:=(3:Int)) (neg:=neg) (c:=c) ((hR.grown hg3).go hg4 hA) (deO_nil (w:=w4))
 refine WL.nil (WX.then_normal ?_)
 refine WC.ret ?_
 exact WX.retc za rfl rfl rfl hB4 rfl ⟨gr4,_,_,_,rfl,hp.1,fun p hlt=>hp.2 p (hO.apart (fun g e=>Nat.lt_of_lt_of_le (hlt g e) (ze hg1)) (fun _ h=>nomatch h)) deO_nilD,H⟩
end Go.Proofs.YtjjcdkfhaceicaaGreatDoor
 
namespace Go.Proofs.YtjjcdkfhaceicaaGreatDoor
open Go Go.RowKit
attribute [local irreducible] WL WC WX WQ WK WJ Yld Eff Ef0 Fn
def qd (x_n:Int) (K:Bool→Int→Prop):Prop :=
 (In .i64 (x_n+(1:Int))) ∧
 K (decide ((x_n+(1:Int))≤(4096:Int))) (x_n+(1:Int))
def zS (l:List (List UInt8)) (s:List UInt8) (K:Int→Prop):Prop :=
 (l.length≤maxLen →
 Lp1 (fun (i:Int) kont1=>((i<(l.length:Int)→(0≤i∧i<(l.length:Nat)) ∧
 (((l.getD i.toNat [])=s→K i) ∧
 (¬ ((l.getD i.toNat [])=s)→(In .i64 (i+(1:Int))) ∧
 kont1 (i+(1:Int))))) ∧
 (¬ (i<(l.length:Int))→K (-1:Int)))) (0:Int))
def qu (l:List RV) (K:(List RV)→Prop):Prop :=
 (l.length≤maxLen →
 (0≤(l.length:Int)∧(l.length:Int)*72≤140737488355328∧(l.length:Int)≤140737488355328) ∧
 Lp2 (fun (out:List RV) (i:Int) kont1=>((i<(l.length:Int)→(0≤i∧i<(l.length:Nat)) ∧
 ((out.length+(([l.getD i.toNat rv0]:List RV)).length)*72≤140737488355328) ∧
 (In .i64 (i+(1:Int))) ∧
 kont1 (out++([l.getD i.toNat rv0]:List RV)) (i+(1:Int))) ∧
 (¬ (i<(l.length:Int))→K out))) ([]:List RV) (0:Int))
def qv (l:List RV) (n:Int) (K:Int→Prop):Prop :=
 (l.length≤maxLen →
 Lp2 (fun (n2:Int) (i:Int) kont1=>((((decide (i<(l.length:Int))) && (decide (n2≤(4096:Int))))=true→∃ J1:Prop,((In .i64 (n2+(1:Int))) ∧
 (0≤i∧i<(l.length:Nat)) ∧
 ((decide (((l.getD i.toNat rv0).1)=(5:Int)))=false→(0≤i∧i<(l.length:Nat))) ∧
 (((decide (((l.getD i.toNat rv0).1)=(5:Int))) || (decide (((l.getD i.toNat rv0).1)=(6:Int))))=false→(0≤i∧i<(l.length:Nat))) ∧
 ((((decide (((l.getD i.toNat rv0).1)=(5:Int))) || (decide (((l.getD i.toNat rv0).1)=(6:Int)))) || (decide (((l.getD i.toNat rv0).1)=(7:Int))))=false→(0≤i∧i<(l.length:Nat))) ∧
 ((((((decide (((l.getD i.toNat rv0).1)=(5:Int))) || (decide (((l.getD i.toNat rv0).1)=(6:Int)))) || (decide (((l.getD i.toNat rv0).1)=(7:Int)))) || (decide (((l.getD i.toNat rv0).1)=(8:Int))))=true→(0≤i∧i<(l.length:Nat)) ∧
 (((l.getD i.toNat rv0).2.2)≠RO.nil) ∧
 False) ∧
 (((((decide (((l.getD i.toNat rv0).1)=(5:Int))) || (decide (((l.getD i.toNat rv0).1)=(6:Int)))) || (decide (((l.getD i.toNat rv0).1)=(7:Int)))) || (decide (((l.getD i.toNat rv0).1)=(8:Int))))=false→J1))) ∧
 (J1→(In .i64 (i+(1:Int))) ∧
 kont1 (n2+(1:Int)) (i+(1:Int)))) ∧
 (((decide (i<(l.length:Int))) && (decide (n2≤(4096:Int))))=false→K n2))) n (0:Int))
def qc (l:List RV) (K:Bool→Prop):Prop :=
 (l.length≤maxLen →
 qv l (0:Int) (fun (t4:Int) =>
 K (decide ((4096:Int)<t4))))
def qA (v:RV) (deep:Int) (x_n:Int) (K:(List UInt8)→Int→Int→Prop):Prop :=
 ∃ J1:Bool→Int→Prop,(((((decide (v.1=(6:Int))) && (decide ((60:Int)≤deep)))=true→J1 true x_n) ∧
 (((decide (v.1=(6:Int))) && (decide ((60:Int)≤deep)))=false→qd x_n (fun (t21:Bool) (x_:Int) =>
 J1 (!t21) x_)))) ∧
 (∀ q2:Bool,∀ x:Int,J1 q2 x→((q2=true→K ([]:List UInt8) (108:Int) x) ∧
 (q2=false→((v.1=(1:Int)→K ([110]:List UInt8) (0:Int) x) ∧
 (¬ (v.1=(1:Int))→((v.1=(2:Int)→K ([102]:List UInt8) (0:Int) x) ∧
 (¬ (v.1=(2:Int))→((v.1=(3:Int)→zz v.2.1.1 v.2.1.2 (fun (t36:List UInt8) =>
 (([105]:List UInt8).length+t36.length≤9223372036854775807) ∧
 ((([105]:List UInt8)++t36).length+([59]:List UInt8).length≤9223372036854775807) ∧
 K ((([105]:List UInt8)++t36)++([59]:List UInt8)) (0:Int) x)) ∧
 (¬ (v.1=(3:Int))→((v.1=(4:Int)→False) ∧
 (¬ (v.1=(4:Int))→((v.1=(6:Int)→Lp2 (fun (s:List UInt8) (i:Int) kont1=>((v.2.2)≠RO.nil) ∧
 ((i<((v.2.2).items.length:Int)→(0≤i∧i<((v.2.2).items.length:Nat)) ∧
 (In .i64 (deep+(1:Int))) ∧
 False) ∧
 (¬ (i<((v.2.2).items.length:Int))→(s.length+([41]:List UInt8).length≤9223372036854775807) ∧
 K (s++([41]:List UInt8)) (0:Int) x))) ([40]:List UInt8) (0:Int)) ∧
 (¬ (v.1=(6:Int))→K ([]:List UInt8) (104:Int) x)))))))))))))
def qo (v:RV) (K:(List UInt8)→Int→Prop):Prop :=
 qA v (0:Int) (0:Int) (fun (t70:List UInt8) (t71:Int) (t6_:Int) =>
 K t70 t71)
def zp (p_out:List UInt8) (K:Bool→Prop):Prop :=
 (p_out.length≤maxLen →
 K (decide ((65536:Int)≤(p_out.length:Int))))
def zg (p_out:List UInt8) (s:List UInt8) (K:(List UInt8)→Prop):Prop :=
 (p_out.length≤maxLen →
 (In .i64 ((65536:Int) - (p_out.length:Int))) ∧
 (0≤(if ((65536:Int) - (p_out.length:Int))<(s.length:Int) then (65536:Int) - (p_out.length:Int) else (s.length:Int))∧(if ((65536:Int) - (p_out.length:Int))<(s.length:Int) then (65536:Int) - (p_out.length:Int) else (s.length:Int))≤s.length) ∧
 ((p_out.length+(s.take (if ((65536:Int) - (p_out.length:Int))<(s.length:Int) then (65536:Int) - (p_out.length:Int) else (s.length:Int)).toNat).length)*1≤140737488355328) ∧
 K (p_out++(s.take (if ((65536:Int) - (p_out.length:Int))<(s.length:Int) then (65536:Int) - (p_out.length:Int) else (s.length:Int)).toNat)))
def qb (l:List RV) (K:RV→Prop):Prop :=
 (l.length≤maxLen →
 qu l (fun (t4:List RV) =>
 ∀ g2:Nat,K (((6:Int),(false,([]:List Int)),(RO.mk g2 t4 (0:Int) ([]:List RV) (0:Int))):RV)))
def zB (p_out:List UInt8) (v:RV) (deep:Int) (K:(List UInt8)→Prop):Prop :=
 (p_out.length≤maxLen →
 zp p_out (fun (t12:Bool) =>
 ((t12=true→K p_out) ∧
 (t12=false→(((((((decide (v.1=(5:Int))) || (decide (v.1=(6:Int)))) || (decide (v.1=(7:Int)))) || (decide (v.1=(8:Int)))) && (decide ((60:Int)≤deep)))=true→zg p_out ([46,46,46]:List UInt8) (fun (p_:List UInt8) =>
 K p_)) ∧
 ((((((decide (v.1=(5:Int))) || (decide (v.1=(6:Int)))) || (decide (v.1=(7:Int)))) || (decide (v.1=(8:Int)))) && (decide ((60:Int)≤deep)))=false→((v.1=(1:Int)→zg p_out ([78,111,110,101]:List UInt8) (fun (p_2:List UInt8) =>
 K p_2)) ∧
 (¬ (v.1=(1:Int))→((v.1=(2:Int)→False) ∧
 (¬ (v.1=(2:Int))→((v.1=(3:Int)→zz v.2.1.1 v.2.1.2 (fun (t57:List UInt8) =>
 zg p_out t57 (fun (p_3:List UInt8) =>
 K p_3))) ∧
 (¬ (v.1=(3:Int))→((v.1=(4:Int)→False) ∧
 (¬ (v.1=(4:Int))→((v.1=(5:Int)→False) ∧
 (¬ (v.1=(5:Int))→((v.1=(6:Int)→zg p_out ([40]:List UInt8) (fun (p_4:List UInt8) =>
 ((v.2.2)≠RO.nil) ∧
 (In .i64 (deep+(1:Int))) ∧
 False)) ∧
 (¬ (v.1=(6:Int))→((v.1=(7:Int)→False) ∧
 (¬ (v.1=(7:Int))→((v.1=(8:Int)→False) ∧
 (¬ (v.1=(8:Int))→((v.1=(9:Int)→False) ∧
 (¬ (v.1=(9:Int))→((v.1=(10:Int)→False) ∧
 (¬ (v.1=(10:Int))→((v.1=(11:Int)→False) ∧
 (¬ (v.1=(11:Int))→K p_out))))))))))))))))))))))))))))
def zE (p_out:List UInt8) (l:List RV) (deep:Int) (K:(List UInt8)→Prop):Prop :=
 (p_out.length≤maxLen →
 (l.length≤maxLen →
 Lp2 (fun (i:Int) (p0:List UInt8) kont1=>∃ J1:Bool→Prop,((((decide (i<(l.length:Int)))=true→zp p0 (fun (t13:Bool) =>
 J1 (!t13))) ∧
 ((decide (i<(l.length:Int)))=false→J1 false))) ∧
 (∀ q1:Bool,J1 q1→((q1=true→∃ J2:(List UInt8)→Prop,((((0:Int)<i→zg p0 ([44,32]:List UInt8) (fun (p_2:List UInt8) =>
 J2 p_2)) ∧
 (¬ ((0:Int)<i)→J2 p0))) ∧
 (∀ p02:List UInt8,J2 p02→(0≤i∧i<(l.length:Nat)) ∧
 zB p02 (l.getD i.toNat rv0) deep (fun (p_:List UInt8) =>
 (In .i64 (i+(1:Int))) ∧
 kont1 (i+(1:Int)) p_))) ∧
 (q1=false→K p0)))) (0:Int) p_out))
def zP (p_out:List UInt8) (v:RV) (deep:Int) (K:(List UInt8)→Prop):Prop :=
 (p_out.length≤maxLen →
 zp p_out (fun (t12:Bool) =>
 ((t12=true→K p_out) ∧
 (t12=false→(((((((decide (v.1=(5:Int))) || (decide (v.1=(6:Int)))) || (decide (v.1=(7:Int)))) || (decide (v.1=(8:Int)))) && (decide ((60:Int)≤deep)))=true→zg p_out ([46,46,46]:List UInt8) (fun (p_:List UInt8) =>
 K p_)) ∧
 ((((((decide (v.1=(5:Int))) || (decide (v.1=(6:Int)))) || (decide (v.1=(7:Int)))) || (decide (v.1=(8:Int)))) && (decide ((60:Int)≤deep)))=false→((v.1=(1:Int)→zg p_out ([78,111,110,101]:List UInt8) (fun (p_2:List UInt8) =>
 K p_2)) ∧
 (¬ (v.1=(1:Int))→((v.1=(2:Int)→False) ∧
 (¬ (v.1=(2:Int))→((v.1=(3:Int)→zz v.2.1.1 v.2.1.2 (fun (t57:List UInt8) =>
 zg p_out t57 (fun (p_3:List UInt8) =>
 K p_3))) ∧
 (¬ (v.1=(3:Int))→((v.1=(4:Int)→False) ∧
 (¬ (v.1=(4:Int))→((v.1=(5:Int)→False) ∧
 (¬ (v.1=(5:Int))→((v.1=(6:Int)→zg p_out ([40]:List UInt8) (fun (p_4:List UInt8) =>
 ((v.2.2)≠RO.nil) ∧
 (In .i64 (deep+(1:Int))) ∧
 zE p_4 ((v.2.2).items) (deep+(1:Int)) (fun (p_5:List UInt8) =>
 ∃ J1:(List UInt8)→Prop,(((((v.2.2).items.length:Int)=(1:Int)→zg p_5 ([44]:List UInt8) (fun (p_7:List UInt8) =>
 J1 p_7)) ∧
 (¬ (((v.2.2).items.length:Int)=(1:Int))→J1 p_5))) ∧
 (∀ p0:List UInt8,J1 p0→zg p0 ([41]:List UInt8) (fun (p_6:List UInt8) =>
 K p_6))))) ∧
 (¬ (v.1=(6:Int))→((v.1=(7:Int)→False) ∧
 (¬ (v.1=(7:Int))→((v.1=(8:Int)→False) ∧
 (¬ (v.1=(8:Int))→((v.1=(9:Int)→False) ∧
 (¬ (v.1=(9:Int))→((v.1=(10:Int)→False) ∧
 (¬ (v.1=(10:Int))→((v.1=(11:Int)→False) ∧
 (¬ (v.1=(11:Int))→K p_out))))))))))))))))))))))))))))
def qj (v:RV) (K:(List UInt8)→Prop):Prop :=
 zP [] v (0:Int) (fun (t5_:List UInt8) =>
 K t5_)
set_option maxHeartbeats 8000000 in
theorem W_psmithyref14_look_one {w:World} {g_x:Nat} {x_n:Int} {K:Bool→Int→Prop} (hx:Bl w g_x 200 [.int .i64 x_n]) (H:qd x_n K):Fn Tryz.prog 175 ⟨[.pointer (some ⟨g_x,0,none⟩)]⟩ w (fun v w'=>GrL [(some g_x)] w w'∧∃ (r:Bool),∃ (x_n2:Int),v=.bool r∧Bl w' g_x 200 [.int .i64 x_n2]∧K r x_n2):=by
 unfold qd at H
 refine Fn.enter (by kernel_rfl) Tryz.func175 rfl Tryz.ntmps175 rfl ?_
 have hNoAt:AllP (NoAt w) [(some g_x)]:=(apC (NoAt.bl hx rfl) apN)
 refine WC.seq (WC.region (yp (h:=(WL.nil (WX.then_normal (WC.seq (WC.region (yp (h:=(yp (h:=(yp (h:=(yp (h:=(WL.y rfl (Yld.bload za hx rfl rfl rfl) ?_))))))))))))))))
 obtain ⟨h1,H⟩:=H
 refine WL.y rfl (Yld.add rfl rfl h1) (yp (h:=(yp (h:=(WL.store1 one3 rfl rfl rfl hx (by simp) (fun w1 hB2 hg1=>?_))))))
 have hB1:Bl w1 g_x 200 [.int .i64 (x_n+(1:Int))]:=hB2
 have gr1:GrL [(some g_x)] w w1:=GrL.mod (GrL.refl _) hg1 (InP.mem (List.Mem.head _))
 exact WL.nil (WX.then_normal (WC.seq (WC.region (yp (h:=(yp (h:=(yp (h:=(WL.y rfl (Yld.bload za hB1 rfl rfl rfl) (yp (h:=(yp (h:=(WL.nil (WX.then_normal (WC.ret (WX.ret1 rfl rfl ⟨gr1,decide ((x_n+(1:Int))≤(4096:Int)),x_n+(1:Int),rfl,hB1,H⟩))))))))))))))))))
set_option maxHeartbeats 8000000 in
theorem W_smithyref_AmongTexts {w:World} {l:List (List UInt8)} {A_l:Option Addr} {c_l:Nat} {s:List UInt8} {n_l:Nat} {K:Int→Prop} (hl:Rd vs w A_l c_l l) (hn_l:n_l=l.length) (H:zS l s K):Fn Tryz.prog 76 ⟨[.slice A_l n_l c_l,vs s]⟩ w (fun v w'=>w=w'∧∃ (r:Int),v=.int .i64 r∧K r):=by
 subst hn_l
 unfold zS at H
 refine Fn.enter (by kernel_rfl) Tryz.func76 rfl Tryz.ntmps76 rfl ?_
 replace H:=H (Nat.le_trans hl.cap hl.max)
 refine WC.seq (WC.region (yp (h:=(WL.nil (WX.then_normal (WC.seq (WC.seq (WC.region (yp (h:=(WL.nil (WX.then_normal (WC.block ?_)))))))))))))
 obtain ⟨I1,mu1,h0_1,HR1⟩:=H
 refine WC.loopF (fun n' L' w'=>∃ (i:Int),n'=mu1 i∧L'=[(0,.slice A_l l.length c_l),(1,vs s),(5,.int .i64 i)]∧I1 i∧w=w') _ _ ⟨(0:Int),rfl,rfl,h0_1,rfl⟩ (by repeat (first | exact Sub.nil | refine Sub.cons rfl ?_)) ?_
 clear h0_1
 rintro _ _ _ ⟨i,rfl,rfl,hI1,rfl⟩
 have H:=HR1 i hI1
 refine WC.seq (WC.seq (WC.region (yp (h:=(yp (h:=(yp (h:=(yp (h:=(WL.nil (WX.then_normal (WC.cond rfl (fun b1=>?_) (fun b1=>?_))))))))))))))
 ·replace H:=H.1 (of_decide_eq_true b1)
  refine WC.skip (WX.then_normal (WC.seq (WC.block (WC.seq (WC.region (yp (h:=(yp (h:=?_)))))))))
  obtain ⟨h1,H⟩:=H
  refine WL.y rfl (Yld.iaddrW za hl rfl rfl rfl rfl h1.1 h1.2) (WL.y rfl (Yld.iload [] za hl rfl rfl (iltN h1 rfl)) (yp (h:=(yp (h:=(WL.nil (WX.then_normal (WC.cond rfl (fun b2=>?_) (fun b2=>?_)))))))))
  ·replace H:=H.1 (of_decide_eq_true b2)
   exact WC.seq (WC.region (yp (h:=(yp (h:=(WL.nil (WX.then_normal (WC.ret (WX.block_ret (WX.then_ret (WX.then_ret (WX.block_ret (WX.then_ret (WX.ret1 rfl rfl ⟨rfl,i,rfl,H⟩))))))))))))))
  ·replace H:=H.2 (of_decide_eq_false b2)
   refine WC.skip (WX.block_normal (WX.then_normal (WC.region (yp (h:=?_)))))
   obtain ⟨h2,H⟩:=H
   refine WL.y rfl (Yld.add rfl rfl h2) (yp (h:=(WL.nil ?_)))
   exact WX.roundF _ ⟨i+(1:Int),rfl,rfl,H.1,rfl⟩ (by repeat (first | exact Sub.nil | refine Sub.cons rfl ?_)) H.2
 ·replace H:=H.2 (of_decide_eq_false b1)
  exact WC.exit (WX.then_exit (WX.then_exit (WX.block_same (WX.then_normal (WC.seq (WC.region (yp (h:=(WL.nil (WX.then_normal (WC.ret (WX.ret1 rfl rfl ⟨rfl,(-1:Int),rfl,H⟩))))))))))))
set_option maxHeartbeats 8000000 in
theorem W_smithyref14_copied {w:World} {l:List RV} {A_l:Option Addr} {c_l:Nat} {hs_l:List RH} {n_l:Nat} {K:(List RV)→Prop} (hl:RdK 6 vr w A_l c_l hs_l) (hn_l:n_l=l.length) (hr_l:RelD deR w hs_l l) (H:qu l K):Fn Tryz.prog 85 ⟨[.slice A_l n_l c_l]⟩ w (fun v w'=>w.grownBy w' none∧∃ (r:List RV),∃ (A_r:Option Addr),∃ (c_r:Nat),∃ (hs_r:List RH),v=.slice A_r r.length c_r∧OwnK 6 vr w' w.heap.size 38 A_r c_r hs_r∧RelD deR w' hs_r r∧(∀ p:Option Nat,Lt p w.heap.size→DnD deR hs_l l p→DnD deR hs_r r p)∧DnD deR hs_r r (blk A_r)∧K r):=by
 subst hn_l
 unfold qu at H
 refine Fn.enter (by kernel_rfl) Tryz.func85 rfl Tryz.ntmps85 rfl ?_
 replace H:=H (by rw [←hr_l.1]; exact Nat.le_trans hl.cap hl.max)
 refine WC.seq (WC.region (yp (h:=(WL.nil (WX.then_normal (WC.seq (WC.region (yp (h:=(yp (h:=?_)))))))))))
 obtain ⟨h1,H⟩:=H
 refine WL.makeCK (f:=vr) (B:=w.heap.size) vr_ok rfl ow26 rfl rfl h1.1 h1.2.1 h1.2.2 (Nat.le_refl _) (fun g1 w1 hO1 hg1 hl1=>?_)
 have hr1:RelD deR w1 ([]:List RH) ([]:List RV):=RelD.nil
 refine yp (h:=(WL.nil (WX.then_normal (WC.seq (WC.seq (WC.region (yp (h:=(WL.nil (WX.then_normal (WC.block ?_)))))))))))
 obtain ⟨I1,mu1,h0_1,HR1⟩:=H
 refine WC.loopF (fun n' L' w'=>∃ (out:List RV),∃ (A_out:Option Addr),∃ (c_out:Nat),∃ (n_out:Nat),∃ (hs_out:List RH),∃ (i:Int),n'=mu1 out i∧L'=[(0,.slice A_l l.length c_l),(3,.slice A_out n_out c_out),(4,.int .i64 i)]∧I1 out i∧n_out=out.length∧w.grownBy w' none∧OwnK 6 vr w' w.heap.size 38 A_out c_out hs_out∧RelD deR w' hs_out out∧DnD deR hs_out out (blk A_out)∧OrD (fun p=>DnD deR hs_l l p) deR hs_out out w.heap.size) _ _ ⟨([]:List RV),(some ⟨g1,0,none⟩),(l.length:Int).toNat,0,([]:List RH),(0:Int),rfl,rfl,h0_1,(rfl.trans hr1.1),hg1,hO1,hr1,(DnD.nil (d:=deR)),(OrD.nil (d:=deR))⟩ (by repeat (first | exact Sub.nil | refine Sub.cons rfl ?_)) ?_
 clear h0_1
 rintro _ _ w2 ⟨out,A_out,c_out,n_out,hs_out,i,rfl,rfl,hI1,rfl,gr2,k1,k2,dj1,or1⟩
 have H:=HR1 out i hI1
 refine WC.seq (WC.seq (WC.region (yp (h:=(yp (h:=(yp (h:=(yp (h:=(WL.nil (WX.then_normal (WC.cond rfl (fun b1=>?_) (fun b1=>?_))))))))))))))
 ·replace H:=H.1 (of_decide_eq_true b1)
  refine WC.skip (WX.then_normal (WC.seq (WC.block (WC.region (yp (h:=(yp (h:=(yp (h:=?_))))))))))
  obtain ⟨h2,H⟩:=H
  refine WL.y rfl (Yld.iaddrK za (hl.grown gr2) rfl rfl hr_l.1.symm rfl h2.1 h2.2) ?_
  obtain ⟨⟨v_el,F_el⟩,eh1,hR1⟩:=RelD.at (hr_l.grown gr2) rh0 rv0 (j:=i.toNat) (Nat.lt_of_lt_of_eq (iltN h2 hr_l.1.symm) (hr_l.grown gr2).1)
  have hv1:RelD deR w2 [(v_el,F_el)] [l.getD i.toNat rv0]:=RelD.cons hR1 RelD.nil
  refine WL.y rfl (Yld.to (v:=(.agg ⟨v_el.1⟩)) (Yld.iloadK rh0 za (hl.grown gr2) rfl rfl (iltN h2 hr_l.1.symm)) (congrArg (fun h=>Value.agg ⟨vr h⟩) eh1)) (WL.litK (f:=vr) ([(v_el,F_el)]:List RH) vr_ok rfl ow26 rfl rfl rfl (fun g3 w4 hB2 hg3 hl3=>?_))
  have hO3:OwnK 6 vr w4 w.heap.size 38 (some ⟨g3,0,none⟩) 1 ([(v_el,F_el)]:List RH):=OwnK.ofBl vr_ok hB2 (Nat.le_trans (ze gr2) hl3) (by simp [maxLen]) rfl
  have gr3:=zd gr2 hg3
  have k3:=k1.grown hg3
  have k4:=k2.grown hg3
  have hr2:RelD deR w4 ([(v_el,F_el)]:List RH) ([l.getD i.toNat rv0]:List RV):=(RelD.cons (RelD.one (hv1.grown hg3)) RelD.nil)
  have nd1:OrD (fun p=>DnD deR hs_l l p) deR ([(v_el,F_el)]:List RH) ([l.getD i.toNat rv0]:List RV) w.heap.size:=(OrD.cons (d:=deR) (fun p_ hp_ q_=>(DnD.one (DnD.cons (DnD.at (q_) (hr_l.grown gr2).1 (Nat.lt_of_lt_of_eq (iltN h2 hr_l.1.symm) (hr_l.grown gr2).1) eh1) DnD.nil))) (fun _ _ _=>DnD.nil))
  have dj2:DnD deR ([(v_el,F_el)]:List RH) ([l.getD i.toNat rv0]:List RV) (blk A_out):=(DnD.cons (d:=deR) (DnD.one (DnD.cons (DnD.at (hr_l.new k1.ge') (hr_l.grown gr2).1 (Nat.lt_of_lt_of_eq (iltN h2 hr_l.1.symm) (hr_l.grown gr2).1) eh1) DnD.nil)) DnD.nil)
  have dj3:DnD deR ([(v_el,F_el)]:List RH) ([l.getD i.toNat rv0]:List RV) (blk (some ⟨g3,0,none⟩)):=(DnD.cons (d:=deR) (DnD.one (hv1.new (Ge.box hl3))) DnD.nil)
  obtain ⟨h3,H⟩:=H
  have h4:((hs_out:List RH).length+([(v_el,F_el)]:List RH).length)*72≤140737488355328:=by rw [k4.1,hr2.1]; exact h3
  refine WL.appendK rfl ow26 k3 rfl k2.1.symm hO3.rd rfl rfl h4 (zx h4) (ze gr3) (fun A_out2 c_out2 w5 hO4 hg4 hk1=>?_)
  have el1:(hs_out++([(v_el,F_el)]:List RH)).length=(out++([l.getD i.toNat rv0]:List RV)).length:=by rw [List.length_append,List.length_append,k4.1,hr2.1]
  rw [el1]
  have hr3:RelD deR w5 (hs_out++([(v_el,F_el)]:List RH)) (out++([l.getD i.toNat rv0]:List RV)):=RelD.append (k4.go hg4 dj1) (hr2.go hg4 dj2)
  have nd2:OrD (fun p=>DnD deR hs_l l p) deR (hs_out++([(v_el,F_el)]:List RH)) (out++([l.getD i.toNat rv0]:List RV)) w.heap.size:=OrD.append k4.1 or1 nd1
  have dj4:DnD deR (hs_out++([(v_el,F_el)]:List RH)) (out++([l.getD i.toNat rv0]:List RV)) (blk (some ⟨g3,0,none⟩)):=(DnD.append k4.1 (k2.new (Ge.box hl3)) dj3)
  have dj5:DnD deR (hs_out++([(v_el,F_el)]:List RH)) (out++([l.getD i.toNat rv0]:List RV)) (blk A_out2):=(DnD.append k4.1 (RelD.app k4 dj1 hk1) (RelD.app hr2 dj2 hk1))
  refine yp (h:=(WL.nil (WX.block_normal (WX.then_normal (WC.region (yp (h:=?_)))))))
  obtain ⟨h5,H⟩:=H
  refine WL.y rfl (Yld.add rfl rfl h5) (yp (h:=(WL.nil ?_)))
  exact WX.roundF _ ⟨out++([l.getD i.toNat rv0]:List RV),A_out2,c_out2,(out++([l.getD i.toNat rv0]:List RV)).length,hs_out++([(v_el,F_el)]:List RH),i+(1:Int),rfl,rfl,H.1,rfl,(zk gr3 hg4 k3.ge'),hO4,hr3,dj5,nd2⟩ (by repeat (first | exact Sub.nil | refine Sub.cons rfl ?_)) H.2
 ·replace H:=H.2 (of_decide_eq_false b1)
  exact WC.exit (WX.then_exit (WX.then_exit (WX.block_same (WX.then_normal (WC.seq (WC.region (yp (h:=(yp (h:=(WL.nil (WX.then_normal (WC.ret (WX.ret1 rfl rfl ⟨gr2,out,A_out,c_out,hs_out,(by rw [k2.1.symm]),k1,k2,(fun p_ hp_ v0_=>or1 p_ hp_ v0_),dj1,H⟩))))))))))))))
set_option maxHeartbeats 8000000 in
theorem W_smithyref14_weight {w:World} {l:List RV} {A_l:Option Addr} {c_l:Nat} {hs_l:List RH} {n:Int} {n_l:Nat} {K:Int→Prop} (hl:RdK 6 vr w A_l c_l hs_l) (hn_l:n_l=l.length) (hr_l:RelD deR w hs_l l) (H:qv l n K):Fn Tryz.prog 130 ⟨[.slice A_l n_l c_l,.int .i64 n]⟩ w (fun v w'=>w.grownBy w' none∧∃ (r:Int),v=.int .i64 r∧K r):=by
 subst hn_l
 unfold qv at H
 refine Fn.enter (by kernel_rfl) Tryz.func130 rfl Tryz.ntmps130 rfl ?_
 replace H:=H (by rw [←hr_l.1]; exact Nat.le_trans hl.cap hl.max)
 refine WC.seq (WC.region (yp (h:=(WL.nil (WX.then_normal (WC.seq (WC.seq (WC.region (yp (h:=(WL.nil (WX.then_normal (WC.block ?_)))))))))))))
 obtain ⟨I1,mu1,h0_1,HR1⟩:=H
 refine WC.loopF (fun n' L' w'=>∃ (n2:Int),∃ (i:Int),n'=mu1 n2 i∧L'=[(0,.slice A_l l.length c_l),(1,.int .i64 n2),(5,.int .i64 i)]∧I1 n2 i∧w.grownBy w' none) _ _ ⟨n,(0:Int),rfl,rfl,h0_1,(zN _ _)⟩ (by repeat (first | exact Sub.nil | refine Sub.cons rfl ?_)) ?_
 clear h0_1
 rintro _ _ w1 ⟨n2,i,rfl,rfl,hI1,gr1⟩
 have H:=HR1 n2 i hI1
 refine WC.seq (WC.seq (WC.region (yp (h:=(yp (h:=(yp (h:=(yp (h:=(yp (h:=(WL.midF 3 (fun L' w'=>∃ q1:Bool,L'=[(13,.bool q1),(0,.slice A_l l.length c_l),(1,.int .i64 n2),(5,.int .i64 i)]∧((decide (i<(l.length:Int))) && (decide (n2≤(4096:Int))))=q1∧w1=w') ?_ (fun hQ=>?_))))))))))))))
 ·rintro _ _ ⟨q1,rfl,rfl,rfl⟩
  refine WL.nil (WX.then_normal (WC.cond rfl (fun b1=>?_) (fun b1=>?_)))
  ·replace H:=H.1 (b1)
   refine WC.skip (WX.then_normal (WC.seq ?_))
   obtain ⟨J1,H,hJ1⟩:=H
   refine WC.midF (fun L' w'=>L'=[(0,.slice A_l l.length c_l),(1,.int .i64 (n2+(1:Int))),(5,.int .i64 i)]∧J1∧w1=w') ?_ (fun hQ=>?_)
   ·clear H
    rintro _ _ ⟨rfl,H,rfl⟩
    replace H:=hJ1  H
    refine WX.then_normal (WC.region (yp (h:=?_)))
    obtain ⟨h1,H⟩:=H
    refine WL.y rfl (Yld.add rfl rfl h1) (yp (h:=(WL.nil ?_)))
    exact WX.roundF _ ⟨n2+(1:Int),i+(1:Int),rfl,rfl,H.1,gr1⟩ (by repeat (first | exact Sub.nil | refine Sub.cons rfl ?_)) H.2
   ·clear hJ1
    refine WC.block (WC.seq (WC.region (yp (h:=?_))))
    obtain ⟨h2,H⟩:=H
    refine WL.y rfl (Yld.add rfl rfl h2) (yp (h:=(WL.nil (WX.then_normal (WC.seq (WC.region (yp (h:=(yp (h:=?_))))))))))
    obtain ⟨h3,H⟩:=H
    refine WL.y rfl (Yld.iaddrK za (hl.grown gr1) rfl rfl hr_l.1.symm rfl h3.1 h3.2) (WL.y rfl (Yld.faddrK za (hl.grown gr1) (iltN h3 hr_l.1.symm) rfl rfl rfl) ?_)
    obtain ⟨⟨v_el,F_el⟩,eh1,hR1⟩:=RelD.at (hr_l.grown gr1) rh0 rv0 (j:=i.toNat) (Nat.lt_of_lt_of_eq (iltN h3 hr_l.1.symm) (hr_l.grown gr1).1)
    have hv1:RelD deR w1 [(v_el,F_el)] [l.getD i.toNat rv0]:=RelD.cons hR1 RelD.nil
    obtain ⟨A_L,c_L,v_o,hc1,hR2,hO1,hd1,hd2⟩:=qe hv1
    refine WL.y rfl (Yld.iloadF (v:=.int .i64 ((l.getD i.toNat rv0).1)) rh0 za (hl.grown gr1) rfl rfl (iltN h3 hr_l.1.symm) (by rw [eh1]; show v_el.1[0]?=_; rw [hc1]; rfl)) (yp (h:=(yp (h:=?_))))
    obtain ⟨h4,H⟩:=H
    refine WL.midF 7 (fun L' w'=>∃ q2:Bool,L'=[(31,.bool q2),(0,.slice A_l l.length c_l),(1,.int .i64 (n2+(1:Int))),(5,.int .i64 i)]∧((decide (((l.getD i.toNat rv0).1)=(5:Int))) || (decide (((l.getD i.toNat rv0).1)=(6:Int))))=q2∧w1=w') ?_ (fun hQ=>?_)
    ·rintro _ _ ⟨q2,rfl,rfl,rfl⟩
     refine yp (h:=?_)
     obtain ⟨h5,H⟩:=H
     refine WL.midF 7 (fun L' w'=>∃ q3:Bool,L'=[(39,.bool q3),(0,.slice A_l l.length c_l),(1,.int .i64 (n2+(1:Int))),(5,.int .i64 i)]∧(((decide (((l.getD i.toNat rv0).1)=(5:Int))) || (decide (((l.getD i.toNat rv0).1)=(6:Int)))) || (decide (((l.getD i.toNat rv0).1)=(7:Int))))=q3∧w1=w') ?_ (fun hQ=>?_)
     ·rintro _ _ ⟨q3,rfl,rfl,rfl⟩
      refine yp (h:=?_)
      obtain ⟨h6,H⟩:=H
      refine WL.midF 7 (fun L' w'=>∃ q4:Bool,L'=[(47,.bool q4),(0,.slice A_l l.length c_l),(1,.int .i64 (n2+(1:Int))),(5,.int .i64 i)]∧((((decide (((l.getD i.toNat rv0).1)=(5:Int))) || (decide (((l.getD i.toNat rv0).1)=(6:Int)))) || (decide (((l.getD i.toNat rv0).1)=(7:Int)))) || (decide (((l.getD i.toNat rv0).1)=(8:Int))))=q4∧w1=w') ?_ (fun hQ=>?_)
      ·rintro _ _ ⟨q4,rfl,rfl,rfl⟩
       refine WL.nil (WX.then_normal (WC.cond rfl (fun b2=>?_) (fun b2=>?_)))
       ·replace H:=H.1 (b2)
        refine WC.seq (WC.region (yp (h:=(yp (h:=?_)))))
        obtain ⟨h7,H⟩:=H
        refine WL.y rfl (Yld.iaddrK za (hl.grown gr1) rfl rfl hr_l.1.symm rfl h7.1 h7.2) (WL.y rfl (Yld.faddrK za (hl.grown gr1) (iltN h7 hr_l.1.symm) rfl rfl rfl) (WL.y rfl (Yld.iloadF (v:=v_o.1) rh0 za (hl.grown gr1) rfl rfl (iltN h7 hr_l.1.symm) (by rw [eh1]; show v_el.1[5]?=_; rw [hc1]; rfl)) ?_))
        obtain ⟨h8,H⟩:=H
        obtain ⟨A_its,c_its,A_fr,c_fr,hi,hf,hv2,hB1,hR3,hr1,hR4,hr2,hd3,hd4,hd5,hd6,hd7⟩:=deO_openD hO1 h8
        exact WL.y rfl (nilpV hv2 rfl) (yp (h:=(WL.y rfl (Yld.bload za hB1 rfl rfl rfl) (yp (h:=(False.elim H))))))
       ·replace H:=H.2 (b2)
        refine WC.skip (WX.block_normal ?_)
        exact WX.weaken (by repeat (first | exact Sub.nil | refine Sub.cons rfl ?_)) (hQ _ _ ⟨rfl,H,rfl⟩)
      ·clear H
       rcases Bool.eq_false_or_eq_true (((decide (((l.getD i.toNat rv0).1)=(5:Int))) || (decide (((l.getD i.toNat rv0).1)=(6:Int)))) || (decide (((l.getD i.toNat rv0).1)=(7:Int)))) with b3 | b3
       ·exact gn b3 (h:=(gn b3 (h:=(gn b3 (h:=(gn b3 (h:=(gn b3 (h:=(gn b3 (h:=(WL.y rfl (Yld.pickT (okb b3) rfl) (wk (hQ _ _ ⟨true,rfl,by rw [b3] <;> rfl,rfl⟩))))))))))))))
       ·exact gp b3 (h:=(gp b3 (h:=(WL.gyes rfl rfl (okb b3) rfl (Yld.iaddrK za (hl.grown gr1) rfl rfl hr_l.1.symm rfl (h6 b3).1 (h6 b3).2) (WL.gyes rfl rfl (okb b3) rfl (Yld.faddrK za (hl.grown gr1) (iltN (h6 b3) hr_l.1.symm) rfl rfl rfl) (WL.gyes rfl rfl (okb b3) rfl (Yld.iloadF (v:=.int .i64 ((l.getD i.toNat rv0).1)) rh0 za (hl.grown gr1) rfl rfl (iltN (h6 b3) hr_l.1.symm) (by rw [eh1]; show v_el.1[0]?=_; rw [hc1]; rfl)) (gp b3 (h:=(WL.y rfl (Yld.pickF (okb b3) rfl) (wk (hQ _ _ ⟨decide (((l.getD i.toNat rv0).1)=(8:Int)),rfl,by rw [b3] <;> rfl,rfl⟩)))))))))))
     ·clear H
      rcases Bool.eq_false_or_eq_true ((decide (((l.getD i.toNat rv0).1)=(5:Int))) || (decide (((l.getD i.toNat rv0).1)=(6:Int)))) with b4 | b4
      ·exact gn b4 (h:=(gn b4 (h:=(gn b4 (h:=(gn b4 (h:=(gn b4 (h:=(gn b4 (h:=(WL.y rfl (Yld.pickT (okb b4) rfl) (wk (hQ _ _ ⟨true,rfl,by rw [b4] <;> rfl,rfl⟩))))))))))))))
      ·exact gp b4 (h:=(gp b4 (h:=(WL.gyes rfl rfl (okb b4) rfl (Yld.iaddrK za (hl.grown gr1) rfl rfl hr_l.1.symm rfl (h5 b4).1 (h5 b4).2) (WL.gyes rfl rfl (okb b4) rfl (Yld.faddrK za (hl.grown gr1) (iltN (h5 b4) hr_l.1.symm) rfl rfl rfl) (WL.gyes rfl rfl (okb b4) rfl (Yld.iloadF (v:=.int .i64 ((l.getD i.toNat rv0).1)) rh0 za (hl.grown gr1) rfl rfl (iltN (h5 b4) hr_l.1.symm) (by rw [eh1]; show v_el.1[0]?=_; rw [hc1]; rfl)) (gp b4 (h:=(WL.y rfl (Yld.pickF (okb b4) rfl) (wk (hQ _ _ ⟨decide (((l.getD i.toNat rv0).1)=(7:Int)),rfl,by rw [b4] <;> rfl,rfl⟩)))))))))))
    ·clear H
     rcases Bool.eq_false_or_eq_true (decide (((l.getD i.toNat rv0).1)=(5:Int))) with b5 | b5
     ·exact gn b5 (h:=(gn b5 (h:=(gn b5 (h:=(gn b5 (h:=(gn b5 (h:=(gn b5 (h:=(WL.y rfl (Yld.pickT (okb b5) rfl) (wk (hQ _ _ ⟨true,rfl,by rw [b5] <;> rfl,rfl⟩))))))))))))))
     ·exact gp b5 (h:=(gp b5 (h:=(WL.gyes rfl rfl (okb b5) rfl (Yld.iaddrK za (hl.grown gr1) rfl rfl hr_l.1.symm rfl (h4 b5).1 (h4 b5).2) (WL.gyes rfl rfl (okb b5) rfl (Yld.faddrK za (hl.grown gr1) (iltN (h4 b5) hr_l.1.symm) rfl rfl rfl) (WL.gyes rfl rfl (okb b5) rfl (Yld.iloadF (v:=.int .i64 ((l.getD i.toNat rv0).1)) rh0 za (hl.grown gr1) rfl rfl (iltN (h4 b5) hr_l.1.symm) (by rw [eh1]; show v_el.1[0]?=_; rw [hc1]; rfl)) (gp b5 (h:=(WL.y rfl (Yld.pickF (okb b5) rfl) (wk (hQ _ _ ⟨decide (((l.getD i.toNat rv0).1)=(6:Int)),rfl,by rw [b5] <;> rfl,rfl⟩)))))))))))
  ·replace H:=H.2 (b1)
   exact WC.exit (WX.then_exit (WX.then_exit (WX.block_same (WX.then_normal (WC.seq (WC.region (yp (h:=(yp (h:=(WL.nil (WX.then_normal (WC.ret (WX.ret1 rfl rfl ⟨gr1,n2,rfl,H⟩))))))))))))))
 ·clear H
  rcases Bool.eq_false_or_eq_true (decide (i<(l.length:Int))) with b6 | b6
  ·exact gp b6 (h:=(gp b6 (h:=(WL.y rfl (Yld.pickT (okb b6) rfl) (wk (hQ _ _ ⟨decide (n2≤(4096:Int)),rfl,by rw [b6] <;> rfl,rfl⟩))))))
  ·exact gn b6 (h:=(gn b6 (h:=(WL.y rfl (Yld.pickF (okb b6) rfl) (wk (hQ _ _ ⟨false,rfl,by rw [b6] <;> rfl,rfl⟩))))))
set_option maxHeartbeats 8000000 in
theorem W_smithyref14_heavy {w:World} {l:List RV} {A_l:Option Addr} {c_l:Nat} {hs_l:List RH} {n_l:Nat} {K:Bool→Prop} (hl:RdK 6 vr w A_l c_l hs_l) (hn_l:n_l=l.length) (hr_l:RelD deR w hs_l l) (H:qc l K):Fn Tryz.prog 74 ⟨[.slice A_l n_l c_l]⟩ w (fun v w'=>w.grownBy w' none∧∃ (r:Bool),v=.bool r∧K r):=by
 subst hn_l
 unfold qc at H
 refine Fn.enter (by kernel_rfl) Tryz.func74 rfl Tryz.ntmps74 rfl ?_
 replace H:=H (by rw [←hr_l.1]; exact Nat.le_trans hl.cap hl.max)
 refine WC.seq (WC.region (yp (h:=(WL.nil (WX.then_normal (WC.seq (WC.region (yp (h:=(WL.call rfl rfl (W_smithyref14_weight hl rfl hr_l H) ?_))))))))))
 rintro _ w1 ⟨hg1,t4,rfl,H⟩
 exact yp (h:=(yp (h:=(WL.nil (WX.then_normal (WC.ret (WX.ret1 rfl rfl ⟨hg1,decide ((4096:Int)<t4),rfl,H⟩)))))))
set_option maxHeartbeats 8000000 in
theorem W_smithyref14_keyOf {w:World} {v_v:RC} {F_v:Nat→Prop} {v:RV} {deep:Int} {g_x:Nat} {x_n:Int} {K:(List UInt8)→Int→Int→Prop} (hv:RelD deR w [(v_v,F_v)] [v]) (hx:Bl w g_x 200 [.int .i64 x_n]) (hap0:AllP (DnD deR [(v_v,F_v)] [v]) [(some g_x)]) (H:qA v deep x_n K):Fn Tryz.prog 131 ⟨[(.agg ⟨v_v.1⟩),.int .i64 deep,.pointer (some ⟨g_x,0,none⟩)]⟩ w (fun v w'=>GrL [(some g_x)] w w'∧∃ (r0:List UInt8),∃ (r1:Int),∃ (x_n2:Int),v=.tuple #[vs r0,.int .i64 r1]∧Bl w' g_x 200 [.int .i64 x_n2]∧K r0 r1 x_n2):=by
 unfold qA at H
 refine Fn.enter (by kernel_rfl) Tryz.func131 rfl Tryz.ntmps131 rfl ?_
 have hNoAt:AllP (NoAt w) [(some g_x)]:=(apC (NoAt.bl hx rfl) apN)
 refine WC.seq (WC.region ?_)
 obtain ⟨A_L,c_L,v_o,hc1,hR1,hO1,hd1,hd2⟩:=qe hv
 rw [hc1]
 refine WL.box (us:=[.int .i64 v.1,.bool false,.bool v.2.1.1,.slice A_L v.2.1.2.length c_L,vs [],v_o.1]) rfl rfl rfl (fun g1 w1 hB1 hg1 hl1=>?_)
 have gr1:=(GrL.of0 (ps:=[(some g_x)]) hg1)
 have k1:=hx.g0 hg1
 have k2:=hR1.grown hg1
 have k3:=hO1.grown hg1
 refine yp (h:=(yp (h:=(WL.nil (WX.then_normal (WC.seq (WC.seq (WC.region (yp (h:=(WL.y rfl (Yld.bload za hB1 rfl rfl rfl) (yp (h:=(yp (h:=(WL.midF 3 (fun L' w'=>∃ q1:Bool,L'=[(18,.bool q1),(1,.int .i64 deep),(2,.pointer (some ⟨g_x,0,none⟩)),(3,.pointer (some ⟨g1,0,none⟩))]∧((decide (v.1=(6:Int))) && (decide ((60:Int)≤deep)))=q1∧w1=w') ?_ (fun hQ=>?_)))))))))))))))))
 ·rintro _ _ ⟨q1,rfl,rfl,rfl⟩
  refine yp (h:=?_)
  obtain ⟨J1,H,hJ1⟩:=H
  refine WL.midF 4 (fun L' w'=>∃ q2:Bool,∃ x:Int,L'=[(23,.bool q2),(1,.int .i64 deep),(2,.pointer (some ⟨g_x,0,none⟩)),(3,.pointer (some ⟨g1,0,none⟩))]∧J1 q2 x∧GrL [(some g_x)] w w'∧Bl w' g_x 200 [.int .i64 x]∧Rd vi w' A_L c_L v.2.1.2∧RelD deO w' [(v_o,F_v)] [(v.2.2)]∧Bl w' g1 38 [.int .i64 v.1,.bool false,.bool v.2.1.1,.slice A_L v.2.1.2.length c_L,vs [],v_o.1]) ?_ (fun hQ=>?_)
  ·clear H
   rintro _ w2 ⟨q2,x,rfl,H,gr2,k4,k5,k6,k7⟩
   replace H:=hJ1 q2 x H
   refine WL.nil (WX.then_normal (WC.cond rfl (fun b1=>?_) (fun b1=>?_)))
   ·replace H:=H.1 (b1)
    exact WC.seq (WC.region (yp (h:=(yp (h:=(WL.nil (WX.then_normal (WC.ret (WX.then_ret (WX.ret2 rfl rfl rfl ⟨gr2,([]:List UInt8),(108:Int),x,rfl,k4,H⟩))))))))))
   ·replace H:=H.2 (b1)
    refine WC.skip (WX.then_normal (WC.seq (WC.seq (WC.region (yp (h:=(WL.y rfl (Yld.bload za k7 rfl rfl rfl) (WL.nil (WX.then_normal (WC.block (WC.seq (WC.region (yp (h:=(yp (h:=(WL.nil (WX.then_normal (WC.cond rfl (fun b2=>?_) (fun b2=>?_))))))))))))))))))))
    ·replace H:=H.1 (of_decide_eq_true b2)
     exact WC.seq (WC.region (yp (h:=(yp (h:=(WL.nil (WX.then_normal (WC.ret (WX.block_ret (WX.then_ret (WX.ret2 rfl rfl rfl ⟨gr2,([110]:List UInt8),(0:Int),x,rfl,k4,H⟩)))))))))))
    ·replace H:=H.2 (of_decide_eq_false b2)
     refine WC.seq (WC.region (yp (h:=(yp (h:=(WL.nil (WX.then_normal (WC.cond rfl (fun b3=>?_) (fun b3=>?_)))))))))
     ·replace H:=H.1 (of_decide_eq_true b3)
      exact WC.seq (WC.seq (WC.region (yp (h:=(WL.y rfl (Yld.bload za k7 rfl rfl rfl) (WL.nil (WX.then_normal (WC.cond rfl (fun h=>by cases h) (fun _=>WC.skip (WX.then_normal (WC.seq (WC.region (yp (h:=(yp (h:=(WL.nil (WX.then_normal (WC.ret (WX.block_ret (WX.then_ret (WX.ret2 rfl rfl rfl ⟨gr2,([102]:List UInt8),(0:Int),x,rfl,k4,H⟩))))))))))))))))))))))
     ·replace H:=H.2 (of_decide_eq_false b3)
      refine WC.seq (WC.region (yp (h:=(yp (h:=(WL.nil (WX.then_normal (WC.cond rfl (fun b4=>?_) (fun b4=>?_)))))))))
      ·replace H:=H.1 (of_decide_eq_true b4)
       refine WC.seq (WC.region (yp (h:=(WL.y rfl (Yld.bagg (vs:=[.bool v.2.1.1,.slice A_L v.2.1.2.length c_L]) za k7 rfl rfl rfl rfl) (WL.call rfl rfl (qm k5 rfl H) ?_)))))
       rintro _ w3 ⟨hg2,t36,rfl,H⟩
       obtain ⟨h1,H⟩:=H
       refine WL.y rfl (Yld.sadd rfl rfl h1) ?_
       obtain ⟨h2,H⟩:=H
       exact WL.y rfl (Yld.sadd rfl rfl h2) (yp (h:=(yp (h:=(WL.nil (WX.then_normal (WC.ret (WX.block_ret (WX.then_ret (WX.ret2 rfl rfl rfl ⟨(GrL.add0 gr2 hg2),(([105]:List UInt8)++t36)++([59]:List UInt8),(0:Int),x,rfl,(k4.g0 hg2),H⟩))))))))))
      ·replace H:=H.2 (of_decide_eq_false b4)
       refine WC.seq (WC.region (yp (h:=(yp (h:=(WL.nil (WX.then_normal (WC.cond rfl (fun b5=>?_) (fun b5=>?_)))))))))
       ·replace H:=H.1 (of_decide_eq_true b5)
        exact WC.seq (WC.region (yp (h:=(WL.y rfl (Yld.bload za k7 rfl rfl rfl) (False.elim H)))))
       ·replace H:=H.2 (of_decide_eq_false b5)
        refine WC.seq (WC.region (yp (h:=(yp (h:=(WL.nil (WX.then_normal (WC.cond rfl (fun b6=>?_) (fun b6=>?_)))))))))
        ·replace H:=H.1 (of_decide_eq_true b6)
         refine WC.seq (WC.region (yp (h:=(WL.nil (WX.then_normal (WC.seq (WC.seq (WC.region (yp (h:=(WL.nil (WX.then_normal (WC.block ?_)))))))))))))
         obtain ⟨I1,mu1,h0_1,HR1⟩:=H
         refine WC.loopF (fun n' L' w'=>∃ (s:List UInt8),∃ (i:Int),n'=mu1 s i∧L'=[(1,.int .i64 deep),(2,.pointer (some ⟨g_x,0,none⟩)),(3,.pointer (some ⟨g1,0,none⟩)),(8,vs s),(9,.int .i64 i)]∧I1 s i∧GrL [(some g_x)] w w'∧Bl w' g_x 200 [.int .i64 x]∧Rd vi w' A_L c_L v.2.1.2∧RelD deO w' [(v_o,F_v)] [(v.2.2)]∧Bl w' g1 38 [.int .i64 v.1,.bool false,.bool v.2.1.1,.slice A_L v.2.1.2.length c_L,vs [],v_o.1]∧Dj (some g_x) (some g1)∧Dn v.2.1.2 (blk A_L) (some g_x)∧Dn v.2.1.2 (blk A_L) (some g1)∧DnD deO [(v_o,F_v)] [(v.2.2)] (some g_x)∧DnD deO [(v_o,F_v)] [(v.2.2)] (some g1)) _ _ ⟨([40]:List UInt8),(0:Int),rfl,rfl,h0_1,gr2,k4,k5,k6,k7,(Dj.new hx.lt' (Ge.box hl1)),(hd1 _ (hv.inp hap0 (InP.mem (List.Mem.head _)))),(Dn.new (fun hx=>hR1.lt' hx) (Ge.box hl1)),(hd2 _ (hv.inp hap0 (InP.mem (List.Mem.head _)))),(hO1.new (Ge.box hl1))⟩ (by repeat (first | exact Sub.nil | refine Sub.cons rfl ?_)) ?_
         clear h0_1
         rintro _ _ w4 ⟨s,i,rfl,rfl,hI1,gr4,k9,k10,k11,k12,dj1,dj2,dj3,dj4,dj5⟩
         have H:=HR1 s i hI1
         refine WC.seq (WC.seq (WC.region (yp (h:=(yp (h:=(WL.y rfl (Yld.bload za k12 rfl rfl rfl) ?_)))))))
         obtain ⟨h3,H⟩:=H
         obtain ⟨A_its,c_its,A_fr,c_fr,hi,hf,hv1,hB2,hR2,hr1,hR3,hr2,hd3,hd4,hd5,hd6,hd7⟩:=deO_openD k11 h3
         refine WL.y rfl (nilpV hv1 rfl) (yp (h:=(WL.y rfl (Yld.bload za hB2 rfl rfl rfl) (yp (h:=(yp (h:=(WL.nil (WX.then_normal (WC.cond rfl (fun b7=>?_) (fun b7=>?_)))))))))))
         ·replace H:=H.1 (of_decide_eq_true b7)
          refine WC.skip (WX.then_normal (WC.seq (WC.block (WC.seq (WC.region (yp (h:=(WL.y rfl (Yld.bload za k12 rfl rfl rfl) (WL.y rfl (nilpV hv1 rfl) (yp (h:=(WL.y rfl (Yld.bload za hB2 rfl rfl rfl) (yp (h:=?_))))))))))))))
          obtain ⟨h4,H⟩:=H
          refine WL.y rfl (Yld.iaddrK za hR2 rfl rfl hr1.1.symm rfl h4.1 h4.2) ?_
          obtain ⟨⟨v_el,F_el⟩,eh1,hR4⟩:=RelD.at hr1 rh0 rv0 (j:=i.toNat) (Nat.lt_of_lt_of_eq (iltN h4 hr1.1.symm) hr1.1)
          have hv2:RelD deR w4 [(v_el,F_el)] [((v.2.2).items).getD i.toNat rv0]:=RelD.cons hR4 RelD.nil
          refine WL.y rfl (Yld.to (v:=(.agg ⟨v_el.1⟩)) (Yld.iloadK rh0 za hR2 rfl rfl (iltN h4 hr1.1.symm)) (congrArg (fun h=>Value.agg ⟨vr h⟩) eh1)) (yp (h:=?_))
          obtain ⟨h5,H⟩:=H
          exact WL.y rfl (Yld.add rfl rfl h5) (yp (h:=(False.elim H)))
         ·replace H:=H.2 (of_decide_eq_false b7)
          refine WC.exit (WX.then_exit (WX.then_exit (WX.block_same (WX.then_normal (WC.seq (WC.region (yp (h:=?_))))))))
          obtain ⟨h6,H⟩:=H
          exact WL.y rfl (Yld.sadd rfl rfl h6) (yp (h:=(yp (h:=(WL.nil (WX.then_normal (WC.ret (WX.block_ret (WX.then_ret (WX.ret2 rfl rfl rfl ⟨gr4,s++([41]:List UInt8),(0:Int),x,rfl,k9,H⟩))))))))))
        ·replace H:=H.2 (of_decide_eq_false b6)
         exact WC.skip (WX.block_normal (WX.then_normal (WC.seq (WC.region (yp (h:=(yp (h:=(WL.nil (WX.then_normal (WC.ret (WX.ret2 rfl rfl rfl ⟨gr2,([]:List UInt8),(104:Int),x,rfl,k4,H⟩))))))))))))
  ·clear hJ1
   rcases Bool.eq_false_or_eq_true ((decide (v.1=(6:Int))) && (decide ((60:Int)≤deep))) with b8 | b8
   ·replace H:=H.1 b8
    exact gn b8 (h:=(gn b8 (h:=(gn b8 (h:=(WL.y rfl (Yld.pickT (okb b8) rfl) (wk (hQ _ _ ⟨true,x_n,rfl,H,gr1,k1,k2,k3,hB1⟩))))))))
   ·replace H:=H.2 b8
    refine gp b8 (h:=(WL.callw (zc rfl rfl (okb b8)) rfl rfl (W_psmithyref14_look_one k1 H) ?_))
    rintro _ w5 ⟨hgl1,t21,x_,rfl,hB3,H⟩
    have gr5:GrL [(some g_x)] w w5:=GrL.modL gr1 hgl1 (apC (InP.mem (List.Mem.head _)) apN)
    exact gp b8 (h:=(WL.y rfl (Yld.pickF (okb b8) rfl) (wk (hQ _ _ ⟨!t21,x_,rfl,H,gr5,hB3,(k2.goL hgl1 (apC (hd1 _ (hv.inp hap0 (InP.mem (List.Mem.head _)))) apN)),(k3.goL hgl1 (apC (hd2 _ (hv.inp hap0 (InP.mem (List.Mem.head _)))) apN)),(hB1.goL hgl1 (apC (Dj.new hx.lt' (Ge.box hl1)).symm apN))⟩))))
 ·clear H
  rcases Bool.eq_false_or_eq_true (decide (v.1=(6:Int))) with b9 | b9
  ·exact gp b9 (h:=(gp b9 (h:=(WL.y rfl (Yld.pickT (okb b9) rfl) (wk (hQ _ _ ⟨decide ((60:Int)≤deep),rfl,by rw [b9] <;> rfl,rfl⟩))))))
  ·exact gn b9 (h:=(gn b9 (h:=(WL.y rfl (Yld.pickF (okb b9) rfl) (wk (hQ _ _ ⟨false,rfl,by rw [b9] <;> rfl,rfl⟩))))))
set_option maxHeartbeats 8000000 in
theorem W_smithyref14_Key {w:World} {v_v:RC} {F_v:Nat→Prop} {v:RV} {K:(List UInt8)→Int→Prop} (hv:RelD deR w [(v_v,F_v)] [v]) (H:qo v K):Fn Tryz.prog 75 ⟨[(.agg ⟨v_v.1⟩)]⟩ w (fun v w'=>w.grownBy w' none∧∃ (r0:List UInt8),∃ (r1:Int),v=.tuple #[vs r0,.int .i64 r1]∧K r0 r1):=by
 unfold qo at H
 refine Fn.enter (by kernel_rfl) Tryz.func75 rfl Tryz.ntmps75 rfl ?_
 refine WC.seq (WC.region ?_)
 obtain ⟨A_L,c_L,v_o,hc1,hR1,hO1,hd1,hd2⟩:=qe hv
 rw [hc1]
 refine WL.box (us:=[.int .i64 v.1,.bool false,.bool v.2.1.1,.slice A_L v.2.1.2.length c_L,vs [],v_o.1]) rfl rfl rfl (fun g1 w1 hB1 hg1 hl1=>?_)
 have gr1:=hg1
 have k1:=hR1.grown hg1
 have k2:=hO1.grown hg1
 refine yp (h:=(yp (h:=(WL.nil (WX.then_normal (WC.seq (WC.region (WL.y rfl (Yld.to (v:=(.agg ⟨v_v.1⟩)) (Yld.bagg (vs:=[.int .i64 v.1,.bool false,.bool v.2.1.1,.slice A_L v.2.1.2.length c_L,vs [],v_o.1]) za hB1 rfl rfl rfl rfl) (congrArg (fun l=>Value.agg ⟨l⟩) hc1.symm)) (WL.y rfl (Yld.struct (us:=[.int .i64 (0:Int)]) zero200 places200 rfl rfl) (WL.box (us:=[.int .i64 (0:Int)]) rfl rfl rfl (fun g2 w2 hB2 hg2 hl2=>?_)))))))))))
 have gr2:=zd gr1 hg2
 refine WL.call rfl rfl (W_smithyref14_keyOf (hv.grown gr2) hB2 (apC (hv.new (Ge.le (Ge.box hl2) (ze gr1))) apN) H) ?_
 rintro _ w3 ⟨hgl1,t70,t71,t6_,rfl,hB3,H⟩
 exact yp (h:=(yp (h:=(yp (h:=(yp (h:=(WL.nil (WX.then_normal (WC.ret (WX.ret2 rfl rfl rfl ⟨(gr_modL gr2 hgl1 (apC (Ge.le (Ge.box hl2) (ze gr1)) apN)),t70,t71,rfl,H⟩)))))))))))
set_option maxHeartbeats 8000000 in
theorem zT {w:World} {g_p:Nat} {p_out:List UInt8} {A_p_out:Option Addr} {c_p_out:Nat} {n_p_out:Nat} {K:Bool→Prop} (hp_out:Rd vb w A_p_out c_p_out p_out) (hn_p_out:n_p_out=p_out.length) (hp:Bl w g_p 161 [.slice A_p_out n_p_out c_p_out]) (H:zp p_out K):Fn Tryz.prog 143 ⟨[.pointer (some ⟨g_p,0,none⟩)]⟩ w (fun v w'=>w=w'∧∃ (r:Bool),v=.bool r∧K r):=by
 subst hn_p_out
 unfold zp at H
 refine Fn.enter (by kernel_rfl) Tryz.func143 rfl Tryz.ntmps143 rfl ?_
 replace H:=H (Nat.le_trans hp_out.cap hp_out.max)
 exact WC.seq (WC.region (yp (h:=(WL.nil (WX.then_normal (WC.seq (WC.region (yp (h:=(yp (h:=(yp (h:=(WL.y rfl (Yld.bload za hp rfl rfl rfl) (yp (h:=(yp (h:=(yp (h:=(WL.nil (WX.then_normal (WC.ret (WX.ret1 rfl rfl ⟨rfl,decide ((65536:Int)≤(p_out.length:Int)),rfl,H⟩))))))))))))))))))))))))
set_option maxHeartbeats 8000000 in
theorem zi {w:World} {g_p:Nat} {p_out:List UInt8} {A_p_out:Option Addr} {c_p_out:Nat} {s:List UInt8} {n_p_out:Nat} {K:(List UInt8)→Prop} (hp_out:Own vb w 0 5 A_p_out c_p_out p_out) (hn_p_out:n_p_out=p_out.length) (hp:Bl w g_p 161 [.slice A_p_out n_p_out c_p_out]) (hdj0_1:Dj (some g_p) (blk A_p_out)) (H:zg p_out s K):Fn Tryz.prog 144 ⟨[.pointer (some ⟨g_p,0,none⟩),vs s]⟩ w (fun v w'=>GrL [(some g_p),(blk A_p_out)] w w'∧∃ (p_out2:List UInt8),∃ (A_p_out2:Option Addr),∃ (c_p_out2:Nat),v=.tuple #[]∧Bl w' g_p 161 [.slice A_p_out2 p_out2.length c_p_out2]∧Own vb w' 0 5 A_p_out2 c_p_out2 p_out2∧InP [(some g_p),(blk A_p_out)] w.heap.size (blk A_p_out2)∧Dj (some g_p) (blk A_p_out2)∧K p_out2):=by
 subst hn_p_out
 unfold zg at H
 refine Fn.enter (by kernel_rfl) Tryz.func144 rfl Tryz.ntmps144 rfl ?_
 replace H:=H (Nat.le_trans hp_out.rd.cap hp_out.rd.max)
 have hNoAt:AllP (NoAt w) [(some g_p),(blk A_p_out)]:=(apC (NoAt.bl hp rfl) (apC (NoAt.own hp_out rfl) apN))
 refine WC.seq (WC.region (yp (h:=(yp (h:=(yp (h:=(yp (h:=(yp (h:=(WL.y rfl (Yld.bload za hp rfl rfl rfl) (yp (h:=?_))))))))))))))
 obtain ⟨h1,H⟩:=H
 refine WL.y rfl (Yld.sub rfl rfl h1) (WL.y rfl (Yld.min2 rfl rfl) (yp (h:=(WL.nil (WX.then_normal (WC.chainF (fun k => !(Nat.beq k 8 || Nat.beq k 11)) (LD [4] (fun w'=>Bl w' g_p 161 [.slice A_p_out p_out.length c_p_out])) mixed (by kernel_rfl) (fun k w' h _=>(zU h hp)) (WJ.y rfl rfl (fun w' hw'=>Yld.pure za rfl) (WJ.y rfl rfl (fun w' hw'=>Yld.pure za rfl) (WJ.y rfl rfl (fun w' hw'=>Yld.pure za rfl) (WJ.y rfl rfl (fun w' hw'=>Yld.pure za rfl) (WJ.y rfl rfl (fun w' hw'=>Yld.bload za (hw' rfl) rfl rfl rfl) (WJ.y rfl rfl (fun w' hw'=>Yld.pure za rfl) (WJ.y rfl rfl (fun w' hw'=>Yld.pure za rfl) ?_)))))))))))))
 obtain ⟨h2,H⟩:=H
 refine WJ.y rfl rfl (fun w' hw'=>Yld.scut za rfl rfl rfl rfl (Int.le_refl 0) h2.1 h2.2) ?_
 obtain ⟨h3,H⟩:=H
 refine WJ.putw rfl (zo) rfl (Eff.appendS za rfl rfl hp_out rfl rfl rfl h3 (zx h3) (Nat.zero_le _)) (fun v w' ⟨_,_,_,_,h,_⟩=>DD.keep (Bl.go hp (zq h (Eqv.refl _)) hdj0_1)) ?_
 rintro _ w1 ⟨A_t22,c_t22,rfl,hO1,hg1,hk1⟩
 have gr1:GrL [(some g_p),(blk A_p_out)] w w1:=GrL.mod (GrL.refl _) hg1 (InP.mem (List.Mem.tail _ (List.Mem.head _)))
 refine WJ.y rfl rfl (fun w' hw'=>Yld.pure za rfl) (WJ.y rfl rfl (fun w' hw'=>Yld.pure za rfl) (WJ.eff rfl (Ef0.store1 one151 rfl rfl rfl (hp.go hg1 hdj0_1) (by simp)) (fun w' h=>DD.past (by kernel_rfl)) ?_))
 rintro w2 ⟨hB2,hg2⟩
 have hB1:Bl w2 g_p 161 [.slice A_t22 ((p_out++(s.take (if ((65536:Int) - (p_out.length:Int))<(s.length:Int) then (65536:Int) - (p_out.length:Int) else (s.length:Int)).toNat)).length) c_t22]:=hB2
 have gr2:GrL [(some g_p),(blk A_p_out)] w w2:=GrL.mod gr1 hg2 (InP.mem (List.Mem.head _))
 exact WJ.nil (WX.end0 rfl ⟨gr2,(p_out++(s.take (if ((65536:Int) - (p_out.length:Int))<(s.length:Int) then (65536:Int) - (p_out.length:Int) else (s.length:Int)).toNat)),A_t22,c_t22,rfl,hB1,(hO1.go hg2 (Dj.app hdj0_1.symm hp.lt' hk1)),(InP.app (InP.mem (List.Mem.tail _ (List.Mem.head _))) hk1 (Nat.le_refl _)),(Dj.app hdj0_1.symm hp.lt' hk1).symm,H⟩)
set_option maxHeartbeats 8000000 in
theorem W_smithyref14_Tuple {w:World} {l:List RV} {A_l:Option Addr} {c_l:Nat} {hs_l:List RH} {n_l:Nat} {K:RV→Prop} (hl:RdK 6 vr w A_l c_l hs_l) (hn_l:n_l=l.length) (hr_l:RelD deR w hs_l l) (H:qb l K):Fn Tryz.prog 21 ⟨[.slice A_l n_l c_l]⟩ w (fun v w'=>w.grownBy w' none∧∃ (v_r:RC),∃ (F_r:Nat→Prop),∃ (r:RV),v=(.agg ⟨v_r.1⟩)∧RelD deR w' [(v_r,F_r)] [r]∧(∀ p:Option Nat,Lt p w.heap.size→DnD deR hs_l l p→DnD deR [(v_r,F_r)] [r] p)∧K r):=by
 subst hn_l
 unfold qb at H
 refine Fn.enter (by kernel_rfl) Tryz.func21 rfl Tryz.ntmps21 rfl ?_
 replace H:=H (by rw [←hr_l.1]; exact Nat.le_trans hl.cap hl.max)
 refine WC.seq (WC.region (WL.alloc rfl zero38 (fun g1 w1 hB1 hg1 hl1=>?_)))
 have gr1:=hg1
 refine WL.nil (WX.then_normal (WC.seq (WC.region (yp (h:=(WL.call rfl rfl (W_smithyref14_copied (hl.grown gr1) rfl (hr_l.grown gr1) H) ?_))))))
 rintro _ w2 ⟨hg2,t4,A_t4,c_t4,hs_t4,rfl,ht4,hr_t4,ho1,dj1,H⟩
 have hb1:=ht4.ge'
 have gr2:=zd gr1 hg2
 have k2:=hB1.g0 hg2
 refine WL.y rfl (Yld.struct (us:=[.slice A_t4 t4.length c_t4,.slice none 0 0,.slice none 0 0,.slice none 0 0,.bool false,.int .i64 (0:Int),vs ([]:List UInt8),.int .i64 (0:Int),.int .i64 (0:Int),.int .i64 (0:Int),.bool false,.bool false,.slice none 0 0,vs ([]:List UInt8),.pointer none,.int .i64 (0:Int),.slice none 0 0,.bool false,.slice none 0 0,.bool false,.slice none 0 0,.int .i64 (0:Int),.pointer none]) zero111 places111 rfl rfl) (WL.box (us:=[.slice A_t4 t4.length c_t4,.slice none 0 0,.slice none 0 0,.slice none 0 0,.bool false,.int .i64 (0:Int),vs ([]:List UInt8),.int .i64 (0:Int),.int .i64 (0:Int),.int .i64 (0:Int),.bool false,.bool false,.slice none 0 0,vs ([]:List UInt8),.pointer none,.int .i64 (0:Int),.slice none 0 0,.bool false,.slice none 0 0,.bool false,.slice none 0 0,.int .i64 (0:Int),.pointer none]) rfl rfl rfl (fun g2 w3 hB2 hg3 hl2=>WL.y rfl (Yld.struct (us:=[.int .i64 (6:Int),.bool false,.bool false,.slice none 0 0,vs ([]:List UInt8),.pointer (some ⟨g2,0,none⟩)]) zero38 places38 rfl rfl) (WL.storeW (vs:=[.int .i64 (6:Int),.bool false,.bool false,.slice none 0 0,vs ([]:List UInt8),.pointer (some ⟨g2,0,none⟩)]) za rfl rfl rfl (zf rfl (zf rfl (zf rfl (zf rfl (zf rfl (zf rfl zm)))))) (k2.g0 hg3) rfl rfl (fun w4 hB3 hg4=>?_))))
 have k6:=((ht4.base (fun g hg=>Nat.le_trans (ze gr1) (hb1 g hg))).grown hg3).go hg4 ((Dj.new hB1.lt' hb1).symm)
 refine WL.nil (WX.then_normal (WC.ret ?_))
 replace H:=H g2
 have hp1:=deO_packD (g:=g2) (ci:=c_t4) (cf:=0) (deep:=(0:Int)) (order:=(0:Int)) (its:=t4) (fr:=([]:List RV)) (Ai:=A_t4) (Af:=none) (hi:=hs_t4) (hf:=([]:List RH)) (hB2.go hg4 ((Dj.new k2.lt' (Ge.box hl2)).symm)) k6.rd ((hr_t4.grown hg3).go hg4 (ho1 _ hB1.lt' (hr_l.new (Ge.le (Ge.box hl1) (Nat.le_refl _))))) (RdK.nil vr_ok w4 (Nat.zero_le _)) (RelD.nil (d:=deR) (w:=w4)) k6.lt' (fun _ e_=>nomatch e_)
 have hp2:=qf (k:=(6:Int)) (neg:=false) (L:=([]:List Int)) (A:=none) (c:=0) (o:=(ovP g2)) (F:=(FO g2 A_t4 none hs_t4 ([]:List RH))) (Own.nil vi w4 w.heap.size 3).rd hp1.1
 exact WX.retc za rfl rfl rfl hB3 rfl ⟨(zk (zd gr2 hg3) hg4 (Ge.le (Ge.box hl1) (Nat.le_refl _))),(rcP (6:Int) false none 0 ([]:List Int) (ovP g2)),(FR none ([]:List Int) (FO g2 A_t4 none hs_t4 ([]:List RH))),(((6:Int),(false,([]:List Int)),(RO.mk g2 t4 (0:Int) ([]:List RV) (0:Int))):RV),rfl,hp2.1,(fun p_ hp_ v0_=>have q_:=v0_; hp2.2 _ (fun e_=>absurd rfl e_) (hp1.2 _ (Dj.new hp_ (Ge.le (Ge.box hl2) (ze gr2))).symm (Dj.new hp_ k6.ge').symm Dj.nl (ho1 p_ (fun g_ e_=>Nat.lt_of_lt_of_le (hp_ g_ e_) (ze gr1)) (q_)) DnD.nil)),H⟩
set_option maxHeartbeats 8000000 in
theorem W_psmithyref14_printer_value {w:World} {g_p:Nat} {p_out:List UInt8} {A_p_out:Option Addr} {c_p_out:Nat} {v_v:RC} {F_v:Nat→Prop} {v:RV} {deep:Int} {n_p_out:Nat} {K:(List UInt8)→Prop} (hp_out:Own vb w 0 5 A_p_out c_p_out p_out) (hn_p_out:n_p_out=p_out.length) (hp:Bl w g_p 161 [.slice A_p_out n_p_out c_p_out]) (hv:RelD deR w [(v_v,F_v)] [v]) (hdj0_1:Dj (some g_p) (blk A_p_out)) (hap0:AllP (DnD deR [(v_v,F_v)] [v]) [(some g_p),(blk A_p_out)]) (H:zB p_out v deep K):Fn Tryz.prog 84 ⟨[.pointer (some ⟨g_p,0,none⟩),(.agg ⟨v_v.1⟩),.int .i64 deep]⟩ w (fun v w'=>GrL [(some g_p),(blk A_p_out)] w w'∧∃ (p_out2:List UInt8),∃ (A_p_out2:Option Addr),∃ (c_p_out2:Nat),v=.tuple #[]∧Bl w' g_p 161 [.slice A_p_out2 p_out2.length c_p_out2]∧Own vb w' 0 5 A_p_out2 c_p_out2 p_out2∧InP [(some g_p),(blk A_p_out)] w.heap.size (blk A_p_out2)∧Dj (some g_p) (blk A_p_out2)∧K p_out2):=by
 subst hn_p_out
 unfold zB at H
 refine Fn.enter (by kernel_rfl) Tryz.func84 rfl Tryz.ntmps84 rfl ?_
 replace H:=H (Nat.le_trans hp_out.rd.cap hp_out.rd.max)
 have hNoAt:AllP (NoAt w) [(some g_p),(blk A_p_out)]:=(apC (NoAt.bl hp rfl) (apC (NoAt.own hp_out rfl) apN))
 refine WC.seq (WC.region ?_)
 obtain ⟨A_L,c_L,v_o,hc1,hR1,hO1,hd1,hd2⟩:=qe hv
 rw [hc1]
 refine WL.box (us:=[.int .i64 v.1,.bool false,.bool v.2.1.1,.slice A_L v.2.1.2.length c_L,vs [],v_o.1]) rfl rfl rfl (fun g1 w1 hB1 hg1 hl1=>?_)
 have gr1:=(GrL.of0 (ps:=[(some g_p),(blk A_p_out)]) hg1)
 have k1:=hp_out.grown hg1
 have k2:=hp.g0 hg1
 have k3:=hR1.grown hg1
 refine WL.nil (WX.then_normal (WC.seq (WC.seq (WC.region (yp (h:=(WL.call rfl rfl (zT k1.rd rfl k2 H) ?_)))))))
 rintro _ _ ⟨rfl,t12,rfl,H⟩
 refine WL.nil (WX.then_normal (WC.cond rfl (fun b1=>?_) (fun b1=>?_)))
 ·replace H:=H.1 (b1)
  exact WC.ret (WX.then_ret (WX.ret0 rfl ⟨gr1,p_out,A_p_out,c_p_out,rfl,k2,k1,(InP.mem (List.Mem.tail _ (List.Mem.head _))),hdj0_1,H⟩))
 ·replace H:=H.2 (b1)
  refine WC.skip (WX.then_normal (WC.seq (WC.region (yp (h:=(WL.y rfl (Yld.bload za hB1 rfl rfl rfl) (yp (h:=(yp (h:=(WL.midF 4 (fun L' w'=>∃ q1:Bool,L'=[(20,.bool q1),(0,.pointer (some ⟨g_p,0,none⟩)),(2,.int .i64 deep),(4,.pointer (some ⟨g1,0,none⟩))]∧((decide (v.1=(5:Int))) || (decide (v.1=(6:Int))))=q1∧w1=w') ?_ (fun hQ=>?_))))))))))))
  ·rintro _ _ ⟨q1,rfl,rfl,rfl⟩
   refine yp (h:=(WL.midF 4 (fun L' w'=>∃ q2:Bool,L'=[(25,.bool q2),(0,.pointer (some ⟨g_p,0,none⟩)),(2,.int .i64 deep),(4,.pointer (some ⟨g1,0,none⟩))]∧(((decide (v.1=(5:Int))) || (decide (v.1=(6:Int)))) || (decide (v.1=(7:Int))))=q2∧w1=w') ?_ (fun hQ=>?_)))
   ·rintro _ _ ⟨q2,rfl,rfl,rfl⟩
    refine yp (h:=(WL.midF 4 (fun L' w'=>∃ q3:Bool,L'=[(30,.bool q3),(0,.pointer (some ⟨g_p,0,none⟩)),(2,.int .i64 deep),(4,.pointer (some ⟨g1,0,none⟩))]∧((((decide (v.1=(5:Int))) || (decide (v.1=(6:Int)))) || (decide (v.1=(7:Int)))) || (decide (v.1=(8:Int))))=q3∧w1=w') ?_ (fun hQ=>?_)))
    ·rintro _ _ ⟨q3,rfl,rfl,rfl⟩
     refine yp (h:=(WL.nil (WX.then_normal (WC.seq (WC.seq (WC.region (yp (h:=(yp (h:=(WL.midF 3 (fun L' w'=>∃ q4:Bool,L'=[(35,.bool q4),(0,.pointer (some ⟨g_p,0,none⟩)),(2,.int .i64 deep),(4,.pointer (some ⟨g1,0,none⟩))]∧(((((decide (v.1=(5:Int))) || (decide (v.1=(6:Int)))) || (decide (v.1=(7:Int)))) || (decide (v.1=(8:Int)))) && (decide ((60:Int)≤deep)))=q4∧w1=w') ?_ (fun hQ=>?_))))))))))))
     ·rintro _ _ ⟨q4,rfl,rfl,rfl⟩
      refine WL.nil (WX.then_normal (WC.cond rfl (fun b2=>?_) (fun b2=>?_)))
      ·replace H:=H.1 (b2)
       refine WC.seq (WC.region (yp (h:=(WL.call rfl rfl (zi k1 rfl k2 hdj0_1 H) ?_))))
       rintro _ w2 ⟨hgl1,p_,A_p_,c_p_,rfl,hB2,hO2,hi1,dj1,H⟩
       have hi2:InP [(some g_p),(blk A_p_out)] w.heap.size (blk A_p_):=InP.trans hi1 (apC (InP.mem (List.Mem.head _)) (apC (InP.mem (List.Mem.tail _ (List.Mem.head _))) apN)) (GrL.sizeL gr1)
       have gr2:GrL [(some g_p),(blk A_p_out)] w w2:=GrL.modL gr1 hgl1 (apC (InP.mem (List.Mem.head _)) (apC (InP.mem (List.Mem.tail _ (List.Mem.head _))) apN))
       exact WL.nil (WX.then_normal (WC.ret (WX.then_ret (WX.ret0 rfl ⟨gr2,p_,A_p_,c_p_,rfl,hB2,hO2,hi2,dj1,H⟩))))
      ·replace H:=H.2 (b2)
       refine WC.skip (WX.then_normal (WC.seq (WC.region (yp (h:=(WL.y rfl (Yld.bload za hB1 rfl rfl rfl) (WL.nil (WX.then_normal (WC.block (WC.seq (WC.region (yp (h:=(yp (h:=(WL.nil (WX.then_normal (WC.cond rfl (fun b3=>?_) (fun b3=>?_)))))))))))))))))))
       ·replace H:=H.1 (of_decide_eq_true b3)
        refine WC.region (yp (h:=(WL.call rfl rfl (zi k1 rfl k2 hdj0_1 H) ?_)))
        rintro _ w3 ⟨hgl2,p_2,A_p_2,c_p_2,rfl,hB3,hO3,hi3,dj2,H⟩
        have hi4:InP [(some g_p),(blk A_p_out)] w.heap.size (blk A_p_2):=InP.trans hi3 (apC (InP.mem (List.Mem.head _)) (apC (InP.mem (List.Mem.tail _ (List.Mem.head _))) apN)) (GrL.sizeL gr1)
        have gr3:GrL [(some g_p),(blk A_p_out)] w w3:=GrL.modL gr1 hgl2 (apC (InP.mem (List.Mem.head _)) (apC (InP.mem (List.Mem.tail _ (List.Mem.head _))) apN))
        exact WL.nil (WX.block_normal (WX.end0 rfl ⟨gr3,p_2,A_p_2,c_p_2,rfl,hB3,hO3,hi4,dj2,H⟩))
       ·replace H:=H.2 (of_decide_eq_false b3)
        refine WC.seq (WC.region (yp (h:=(yp (h:=(WL.nil (WX.then_normal (WC.cond rfl (fun b4=>?_) (fun b4=>?_)))))))))
        ·replace H:=H.1 (of_decide_eq_true b4)
         exact WC.seq (False.elim H)
        ·replace H:=H.2 (of_decide_eq_false b4)
         refine WC.seq (WC.region (yp (h:=(yp (h:=(WL.nil (WX.then_normal (WC.cond rfl (fun b5=>?_) (fun b5=>?_)))))))))
         ·replace H:=H.1 (of_decide_eq_true b5)
          refine WC.region (yp (h:=(yp (h:=(WL.y rfl (Yld.bagg (vs:=[.bool v.2.1.1,.slice A_L v.2.1.2.length c_L]) za hB1 rfl rfl rfl rfl) (WL.call rfl rfl (qm k3 rfl H) ?_))))))
          rintro _ w4 ⟨hg2,t57,rfl,H⟩
          have gr4:=GrL.add0 gr1 hg2
          refine WL.call rfl rfl (zi (k1.grown hg2) rfl (k2.g0 hg2) hdj0_1 H) ?_
          rintro _ w5 ⟨hgl3,p_3,A_p_3,c_p_3,rfl,hB4,hO4,hi5,dj3,H⟩
          have hi6:InP [(some g_p),(blk A_p_out)] w.heap.size (blk A_p_3):=InP.trans hi5 (apC (InP.mem (List.Mem.head _)) (apC (InP.mem (List.Mem.tail _ (List.Mem.head _))) apN)) (GrL.sizeL gr4)
          have gr5:GrL [(some g_p),(blk A_p_out)] w w5:=GrL.modL gr4 hgl3 (apC (InP.mem (List.Mem.head _)) (apC (InP.mem (List.Mem.tail _ (List.Mem.head _))) apN))
          exact WL.nil (WX.block_normal (WX.end0 rfl ⟨gr5,p_3,A_p_3,c_p_3,rfl,hB4,hO4,hi6,dj3,H⟩))
         ·replace H:=H.2 (of_decide_eq_false b5)
          refine WC.seq (WC.region (yp (h:=(yp (h:=(WL.nil (WX.then_normal (WC.cond rfl (fun b6=>?_) (fun b6=>?_)))))))))
          ·replace H:=H.1 (of_decide_eq_true b6)
           exact False.elim H
          ·replace H:=H.2 (of_decide_eq_false b6)
           refine WC.seq (WC.region (yp (h:=(yp (h:=(WL.nil (WX.then_normal (WC.cond rfl (fun b7=>?_) (fun b7=>?_)))))))))
           ·replace H:=H.1 (of_decide_eq_true b7)
            exact WC.seq (False.elim H)
           ·replace H:=H.2 (of_decide_eq_false b7)
            refine WC.seq (WC.region (yp (h:=(yp (h:=(WL.nil (WX.then_normal (WC.cond rfl (fun b8=>?_) (fun b8=>?_)))))))))
            ·replace H:=H.1 (of_decide_eq_true b8)
             refine WC.seq (WC.region (yp (h:=(WL.call rfl rfl (zi k1 rfl k2 hdj0_1 H) ?_))))
             rintro _ w6 ⟨hgl4,p_4,A_p_4,c_p_4,rfl,hB5,hO5,hi7,dj4,H⟩
             have hi8:InP [(some g_p),(blk A_p_out)] w.heap.size (blk A_p_4):=InP.trans hi7 (apC (InP.mem (List.Mem.head _)) (apC (InP.mem (List.Mem.tail _ (List.Mem.head _))) apN)) (GrL.sizeL gr1)
             have gr6:GrL [(some g_p),(blk A_p_out)] w w6:=GrL.modL gr1 hgl4 (apC (InP.mem (List.Mem.head _)) (apC (InP.mem (List.Mem.tail _ (List.Mem.head _))) apN))
             have k7:=k3.goL hgl4 (apC (hd1 _ (hv.inp hap0 (InP.mem (List.Mem.head _)))) (apC (hd1 _ (hv.inp hap0 (InP.mem (List.Mem.tail _ (List.Mem.head _))))) apN))
             have k8:=(hO1.grown hg1).goL hgl4 (apC (hd2 _ (hv.inp hap0 (InP.mem (List.Mem.head _)))) (apC (hd2 _ (hv.inp hap0 (InP.mem (List.Mem.tail _ (List.Mem.head _))))) apN))
             refine WL.nil (WX.then_normal (WC.seq (WC.region (yp (h:=(yp (h:=(WL.y rfl (Yld.bload za (hB1.goL hgl4 (apC (Dj.new hp.lt' (Ge.box hl1)).symm (apC (Dj.new hp_out.lt' (Ge.box hl1)).symm apN))) rfl rfl rfl) ?_))))))))
             obtain ⟨h1,H⟩:=H
             obtain ⟨A_its,c_its,A_fr,c_fr,hi,hf,hv1,hB6,hR2,hr1,hR3,hr2,hd3,hd4,hd5,hd6,hd7⟩:=deO_openD k8 h1
             refine WL.y rfl (nilpV hv1 rfl) (yp (h:=(WL.y rfl (Yld.bload za hB6 rfl rfl rfl) (yp (h:=?_)))))
             obtain ⟨h2,H⟩:=H
             exact WL.y rfl (Yld.add rfl rfl h2) (False.elim H)
            ·replace H:=H.2 (of_decide_eq_false b8)
             refine WC.seq (WC.region (yp (h:=(yp (h:=(WL.nil (WX.then_normal (WC.cond rfl (fun b9=>?_) (fun b9=>?_)))))))))
             ·replace H:=H.1 (of_decide_eq_true b9)
              exact WC.seq (False.elim H)
             ·replace H:=H.2 (of_decide_eq_false b9)
              refine WC.seq (WC.region (yp (h:=(yp (h:=(WL.nil (WX.then_normal (WC.cond rfl (fun b10=>?_) (fun b10=>?_)))))))))
              ·replace H:=H.1 (of_decide_eq_true b10)
               exact WC.seq (False.elim H)
              ·replace H:=H.2 (of_decide_eq_false b10)
               refine WC.seq (WC.region (yp (h:=(yp (h:=(WL.nil (WX.then_normal (WC.cond rfl (fun b11=>?_) (fun b11=>?_)))))))))
               ·replace H:=H.1 (of_decide_eq_true b11)
                exact False.elim H
               ·replace H:=H.2 (of_decide_eq_false b11)
                refine WC.seq (WC.region (yp (h:=(yp (h:=(WL.nil (WX.then_normal (WC.cond rfl (fun b12=>?_) (fun b12=>?_)))))))))
                ·replace H:=H.1 (of_decide_eq_true b12)
                 exact WC.seq (False.elim H)
                ·replace H:=H.2 (of_decide_eq_false b12)
                 refine WC.seq (WC.region (yp (h:=(yp (h:=(WL.nil (WX.then_normal (WC.cond rfl (fun b13=>?_) (fun b13=>?_)))))))))
                 ·replace H:=H.1 (of_decide_eq_true b13)
                  exact WC.seq (False.elim H)
                 ·replace H:=H.2 (of_decide_eq_false b13)
                  exact WC.skip (WX.block_normal (WX.end0 rfl ⟨gr1,p_out,A_p_out,c_p_out,rfl,k2,k1,(InP.mem (List.Mem.tail _ (List.Mem.head _))),hdj0_1,H⟩))
     ·clear H
      rcases Bool.eq_false_or_eq_true ((((decide (v.1=(5:Int))) || (decide (v.1=(6:Int)))) || (decide (v.1=(7:Int)))) || (decide (v.1=(8:Int)))) with b14 | b14
      ·exact gp b14 (h:=(gp b14 (h:=(WL.y rfl (Yld.pickT (okb b14) rfl) (wk (hQ _ _ ⟨decide ((60:Int)≤deep),rfl,by rw [b14] <;> rfl,rfl⟩))))))
      ·exact gn b14 (h:=(gn b14 (h:=(WL.y rfl (Yld.pickF (okb b14) rfl) (wk (hQ _ _ ⟨false,rfl,by rw [b14] <;> rfl,rfl⟩))))))
    ·clear H
     rcases Bool.eq_false_or_eq_true (((decide (v.1=(5:Int))) || (decide (v.1=(6:Int)))) || (decide (v.1=(7:Int)))) with b15 | b15
     ·exact gn b15 (h:=(gn b15 (h:=(gn b15 (h:=(WL.y rfl (Yld.pickT (okb b15) rfl) (wk (hQ _ _ ⟨true,rfl,by rw [b15] <;> rfl,rfl⟩))))))))
     ·exact gp b15 (h:=(WL.gyes rfl rfl (okb b15) rfl (Yld.bload za hB1 rfl rfl rfl) (gp b15 (h:=(WL.y rfl (Yld.pickF (okb b15) rfl) (wk (hQ _ _ ⟨decide (v.1=(8:Int)),rfl,by rw [b15] <;> rfl,rfl⟩)))))))
   ·clear H
    rcases Bool.eq_false_or_eq_true ((decide (v.1=(5:Int))) || (decide (v.1=(6:Int)))) with b16 | b16
    ·exact gn b16 (h:=(gn b16 (h:=(gn b16 (h:=(WL.y rfl (Yld.pickT (okb b16) rfl) (wk (hQ _ _ ⟨true,rfl,by rw [b16] <;> rfl,rfl⟩))))))))
    ·exact gp b16 (h:=(WL.gyes rfl rfl (okb b16) rfl (Yld.bload za hB1 rfl rfl rfl) (gp b16 (h:=(WL.y rfl (Yld.pickF (okb b16) rfl) (wk (hQ _ _ ⟨decide (v.1=(7:Int)),rfl,by rw [b16] <;> rfl,rfl⟩)))))))
  ·clear H
   rcases Bool.eq_false_or_eq_true (decide (v.1=(5:Int))) with b17 | b17
   ·exact gn b17 (h:=(gn b17 (h:=(gn b17 (h:=(WL.y rfl (Yld.pickT (okb b17) rfl) (wk (hQ _ _ ⟨true,rfl,by rw [b17] <;> rfl,rfl⟩))))))))
   ·exact gp b17 (h:=(WL.gyes rfl rfl (okb b17) rfl (Yld.bload za hB1 rfl rfl rfl) (gp b17 (h:=(WL.y rfl (Yld.pickF (okb b17) rfl) (wk (hQ _ _ ⟨decide (v.1=(6:Int)),rfl,by rw [b17] <;> rfl,rfl⟩)))))))
set_option maxHeartbeats 8000000 in
theorem W_psmithyref14_printer_list {w:World} {g_p:Nat} {p_out:List UInt8} {A_p_out:Option Addr} {c_p_out:Nat} {l:List RV} {A_l:Option Addr} {c_l:Nat} {hs_l:List RH} {deep:Int} {n_p_out:Nat} {n_l:Nat} {K:(List UInt8)→Prop} (hp_out:Own vb w 0 5 A_p_out c_p_out p_out) (hn_p_out:n_p_out=p_out.length) (hp:Bl w g_p 161 [.slice A_p_out n_p_out c_p_out]) (hl:RdK 6 vr w A_l c_l hs_l) (hn_l:n_l=l.length) (hr_l:RelD deR w hs_l l) (hdj0_1:Dj (some g_p) (blk A_p_out)) (hap0:AllP (Dn hs_l (blk A_l)) [(some g_p),(blk A_p_out)]) (hap1:AllP (DnD deR hs_l l) [(some g_p),(blk A_p_out)]) (H:zE p_out l deep K):Fn Tryz.prog 147 ⟨[.pointer (some ⟨g_p,0,none⟩),.slice A_l n_l c_l,.int .i64 deep]⟩ w (fun v w'=>GrL [(some g_p),(blk A_p_out)] w w'∧∃ (p_out2:List UInt8),∃ (A_p_out2:Option Addr),∃ (c_p_out2:Nat),v=.tuple #[]∧Bl w' g_p 161 [.slice A_p_out2 p_out2.length c_p_out2]∧Own vb w' 0 5 A_p_out2 c_p_out2 p_out2∧InP [(some g_p),(blk A_p_out)] w.heap.size (blk A_p_out2)∧Dj (some g_p) (blk A_p_out2)∧K p_out2):=by
 subst hn_p_out
 subst hn_l
 unfold zE at H
 refine Fn.enter (by kernel_rfl) Tryz.func147 rfl Tryz.ntmps147 rfl ?_
 replace H:=H (Nat.le_trans hp_out.rd.cap hp_out.rd.max)
 replace H:=H (by rw [←hr_l.1]; exact Nat.le_trans hl.cap hl.max)
 have hNoAt:AllP (NoAt w) [(some g_p),(blk A_p_out)]:=(apC (NoAt.bl hp rfl) (apC (NoAt.own hp_out rfl) apN))
 refine WC.seq (WC.region (yp (h:=(WL.nil (WX.then_normal (WC.block ?_))))))
 obtain ⟨I1,mu1,h0_1,HR1⟩:=H
 refine WC.loopF (fun n' L' w'=>∃ (i:Int),∃ (p0:List UInt8),∃ (A_p0:Option Addr),∃ (c_p0:Nat),∃ (n_p0:Nat),n'=mu1 i p0∧L'=[(0,.pointer (some ⟨g_p,0,none⟩)),(1,.slice A_l l.length c_l),(2,.int .i64 deep),(6,.int .i64 i)]∧I1 i p0∧n_p0=p0.length∧GrL [(some g_p),(blk A_p_out)] w w'∧Bl w' g_p 161 [.slice A_p0 n_p0 c_p0]∧Own vb w' 0 5 A_p0 c_p0 p0∧Dj (some g_p) (blk A_p0)∧InP [(some g_p),(blk A_p_out)] w.heap.size (blk A_p0)) _ _ ⟨(0:Int),p_out,A_p_out,c_p_out,p_out.length,rfl,rfl,h0_1,rfl,(GrL.refl _),hp,hp_out,hdj0_1,(InP.mem (List.Mem.tail _ (List.Mem.head _)))⟩ (by repeat (first | exact Sub.nil | refine Sub.cons rfl ?_)) ?_
 clear h0_1
 rintro _ _ w1 ⟨i,p0,A_p0,c_p0,n_p0,rfl,rfl,hI1,rfl,gr1,k1,k2,dj1,hi1⟩
 have H:=HR1 i p0 hI1
 refine WC.seq (WC.seq (WC.region (yp (h:=(yp (h:=(yp (h:=(yp (h:=(yp (h:=?_))))))))))))
 obtain ⟨J1,H,hJ1⟩:=H
 refine WL.midF 4 (fun L' w'=>∃ q1:Bool,L'=[(15,.bool q1),(0,.pointer (some ⟨g_p,0,none⟩)),(1,.slice A_l l.length c_l),(2,.int .i64 deep),(6,.int .i64 i)]∧J1 q1∧w1=w') ?_ (fun hQ=>?_)
 ·clear H
  rintro _ _ ⟨q1,rfl,H,rfl⟩
  replace H:=hJ1 q1 H
  refine WL.nil (WX.then_normal (WC.cond rfl (fun b1=>?_) (fun b1=>?_)))
  ·replace H:=H.1 (b1)
   refine WC.skip (WX.then_normal (WC.seq (WC.block (WC.seq ?_))))
   obtain ⟨J2,H,hJ2⟩:=H
   refine WC.midF (fun L' w'=>∃ (p02:List UInt8),∃ (A_p02:Option Addr),∃ (c_p02:Nat),∃ (n_p02:Nat),L'=[(0,.pointer (some ⟨g_p,0,none⟩)),(1,.slice A_l l.length c_l),(2,.int .i64 deep),(6,.int .i64 i)]∧J2 p02∧n_p02=p02.length∧GrL [(some g_p),(blk A_p_out)] w w'∧Bl w' g_p 161 [.slice A_p02 n_p02 c_p02]∧Own vb w' 0 5 A_p02 c_p02 p02∧Dj (some g_p) (blk A_p02)∧InP [(some g_p),(blk A_p_out)] w.heap.size (blk A_p02)) ?_ (fun hQ=>?_)
   ·clear H
    rintro _ w2 ⟨p02,A_p02,c_p02,n_p02,rfl,H,rfl,gr2,k3,k4,dj2,hi2⟩
    replace H:=hJ2 p02 H
    refine WX.then_normal (WC.region (yp (h:=(yp (h:=(yp (h:=?_)))))))
    obtain ⟨h1,H⟩:=H
    refine WL.y rfl (Yld.iaddrK za (hl.goL gr2 hap0) rfl rfl hr_l.1.symm rfl h1.1 h1.2) ?_
    obtain ⟨⟨v_el,F_el⟩,eh1,hR1⟩:=RelD.at (hr_l.goL gr2 hap1) rh0 rv0 (j:=i.toNat) (Nat.lt_of_lt_of_eq (iltN h1 hr_l.1.symm) (hr_l.goL gr2 hap1).1)
    have hv1:RelD deR w2 [(v_el,F_el)] [l.getD i.toNat rv0]:=RelD.cons hR1 RelD.nil
    refine WL.y rfl (Yld.to (v:=(.agg ⟨v_el.1⟩)) (Yld.iloadK rh0 za (hl.goL gr2 hap0) rfl rfl (iltN h1 hr_l.1.symm)) (congrArg (fun h=>Value.agg ⟨vr h⟩) eh1)) (yp (h:=(WL.call rfl rfl (W_psmithyref14_printer_value k4 rfl k3 hv1 dj2 (apC (DnD.cons (DnD.at (hr_l.inp hap1 (InP.mem (List.Mem.head _))) (hr_l.goL gr2 hap1).1 (Nat.lt_of_lt_of_eq (iltN h1 hr_l.1.symm) (hr_l.goL gr2 hap1).1) eh1) DnD.nil) (apC (DnD.cons (DnD.at (hr_l.inp hap1 hi2) (hr_l.goL gr2 hap1).1 (Nat.lt_of_lt_of_eq (iltN h1 hr_l.1.symm) (hr_l.goL gr2 hap1).1) eh1) DnD.nil) apN)) H) ?_)))
    rintro _ w3 ⟨hgl1,p_,A_p_,c_p_,rfl,hB1,hO1,hi3,dj3,H⟩
    have hi4:InP [(some g_p),(blk A_p_out)] w.heap.size (blk A_p_):=InP.trans hi3 (apC (InP.mem (List.Mem.head _)) (apC hi2 apN)) (GrL.sizeL gr2)
    have gr3:GrL [(some g_p),(blk A_p_out)] w w3:=GrL.modL gr2 hgl1 (apC (InP.mem (List.Mem.head _)) (apC hi2 apN))
    refine WL.nil (WX.block_normal (WX.then_normal (WC.region (yp (h:=?_)))))
    obtain ⟨h2,H⟩:=H
    refine WL.y rfl (Yld.add rfl rfl h2) (yp (h:=(WL.nil ?_)))
    exact WX.roundF _ ⟨i+(1:Int),p_,A_p_,c_p_,p_.length,rfl,rfl,H.1,rfl,gr3,hB1,hO1,dj3,hi4⟩ (by repeat (first | exact Sub.nil | refine Sub.cons rfl ?_)) H.2
   ·clear hJ2
    refine WC.seq (WC.region (yp (h:=(yp (h:=(WL.nil (WX.then_normal (WC.cond rfl (fun b2=>?_) (fun b2=>?_)))))))))
    ·replace H:=H.1 (of_decide_eq_true b2)
     refine WC.region (yp (h:=(WL.call rfl rfl (zi k2 rfl k1 dj1 H) ?_)))
     rintro _ w4 ⟨hgl2,p_2,A_p_2,c_p_2,rfl,hB2,hO2,hi5,dj4,H⟩
     have hi6:InP [(some g_p),(blk A_p_out)] w.heap.size (blk A_p_2):=InP.trans hi5 (apC (InP.mem (List.Mem.head _)) (apC hi1 apN)) (GrL.sizeL gr1)
     have gr4:GrL [(some g_p),(blk A_p_out)] w w4:=GrL.modL gr1 hgl2 (apC (InP.mem (List.Mem.head _)) (apC hi1 apN))
     refine WL.nil ?_
     exact WX.weaken (by repeat (first | exact Sub.nil | refine Sub.cons rfl ?_)) (hQ _ _ ⟨p_2,A_p_2,c_p_2,p_2.length,rfl,H,rfl,gr4,hB2,hO2,dj4,hi6⟩)
    ·replace H:=H.2 (of_decide_eq_false b2)
     refine WC.skip ?_
     exact WX.weaken (by repeat (first | exact Sub.nil | refine Sub.cons rfl ?_)) (hQ _ _ ⟨p0,A_p0,c_p0,p0.length,rfl,H,rfl,gr1,k1,k2,dj1,hi1⟩)
  ·replace H:=H.2 (b1)
   exact WC.exit (WX.then_exit (WX.then_exit (WX.block_same (WX.end0 rfl ⟨gr1,p0,A_p0,c_p0,rfl,k1,k2,hi1,dj1,H⟩))))
 ·clear hJ1
  rcases Bool.eq_false_or_eq_true (decide (i<(l.length:Int))) with b3 | b3
  ·replace H:=H.1 b3
   refine gp b3 (h:=(WL.callw (zc rfl rfl (okb b3)) rfl rfl (zT k2.rd rfl k1 H) ?_))
   rintro _ _ ⟨rfl,t13,rfl,H⟩
   exact gp b3 (h:=(WL.y rfl (Yld.pickT (okb b3) rfl) (wk (hQ _ _ ⟨!t13,rfl,H,rfl⟩))))
  ·replace H:=H.2 b3
   exact gn b3 (h:=(gn b3 (h:=(gn b3 (h:=(WL.y rfl (Yld.pickF (okb b3) rfl) (wk (hQ _ _ ⟨false,rfl,H,rfl⟩))))))))
set_option maxHeartbeats 8000000 in
theorem W_smithyref14_printer_valueT {w:World} {g_p:Nat} {p_out:List UInt8} {A_p_out:Option Addr} {c_p_out:Nat} {v_v:RC} {F_v:Nat→Prop} {v:RV} {deep:Int} {n_p_out:Nat} {K:(List UInt8)→Prop} (hp_out:Own vb w 0 5 A_p_out c_p_out p_out) (hn_p_out:n_p_out=p_out.length) (hp:Bl w g_p 161 [.slice A_p_out n_p_out c_p_out]) (hv:RelD deR w [(v_v,F_v)] [v]) (hdj0_1:Dj (some g_p) (blk A_p_out)) (hap0:AllP (DnD deR [(v_v,F_v)] [v]) [(some g_p),(blk A_p_out)]) (H:zP p_out v deep K):Fn Tryz.prog 84 ⟨[.pointer (some ⟨g_p,0,none⟩),(.agg ⟨v_v.1⟩),.int .i64 deep]⟩ w (fun v w'=>GrL [(some g_p),(blk A_p_out)] w w'∧∃ (p_out2:List UInt8),∃ (A_p_out2:Option Addr),∃ (c_p_out2:Nat),v=.tuple #[]∧Bl w' g_p 161 [.slice A_p_out2 p_out2.length c_p_out2]∧Own vb w' 0 5 A_p_out2 c_p_out2 p_out2∧InP [(some g_p),(blk A_p_out)] w.heap.size (blk A_p_out2)∧Dj (some g_p) (blk A_p_out2)∧K p_out2):=by
 subst hn_p_out
 unfold zP at H
 refine Fn.enter (by kernel_rfl) Tryz.func84 rfl Tryz.ntmps84 rfl ?_
 replace H:=H (Nat.le_trans hp_out.rd.cap hp_out.rd.max)
 have hNoAt:AllP (NoAt w) [(some g_p),(blk A_p_out)]:=(apC (NoAt.bl hp rfl) (apC (NoAt.own hp_out rfl) apN))
 refine WC.seq (WC.region ?_)
 obtain ⟨A_L,c_L,v_o,hc1,hR1,hO1,hd1,hd2⟩:=qe hv
 rw [hc1]
 refine WL.box (us:=[.int .i64 v.1,.bool false,.bool v.2.1.1,.slice A_L v.2.1.2.length c_L,vs [],v_o.1]) rfl rfl rfl (fun g1 w1 hB1 hg1 hl1=>?_)
 have gr1:=(GrL.of0 (ps:=[(some g_p),(blk A_p_out)]) hg1)
 have k1:=hp_out.grown hg1
 have k2:=hp.g0 hg1
 have k3:=hR1.grown hg1
 have k4:=hO1.grown hg1
 refine WL.nil (WX.then_normal (WC.seq (WC.seq (WC.region (yp (h:=(WL.call rfl rfl (zT k1.rd rfl k2 H) ?_)))))))
 rintro _ _ ⟨rfl,t12,rfl,H⟩
 refine WL.nil (WX.then_normal (WC.cond rfl (fun b1=>?_) (fun b1=>?_)))
 ·replace H:=H.1 (b1)
  exact WC.ret (WX.then_ret (WX.ret0 rfl ⟨gr1,p_out,A_p_out,c_p_out,rfl,k2,k1,(InP.mem (List.Mem.tail _ (List.Mem.head _))),hdj0_1,H⟩))
 ·replace H:=H.2 (b1)
  refine WC.skip (WX.then_normal (WC.seq (WC.region (yp (h:=(WL.y rfl (Yld.bload za hB1 rfl rfl rfl) (yp (h:=(yp (h:=(WL.midF 4 (fun L' w'=>∃ q1:Bool,L'=[(20,.bool q1),(0,.pointer (some ⟨g_p,0,none⟩)),(2,.int .i64 deep),(4,.pointer (some ⟨g1,0,none⟩))]∧((decide (v.1=(5:Int))) || (decide (v.1=(6:Int))))=q1∧w1=w') ?_ (fun hQ=>?_))))))))))))
  ·rintro _ _ ⟨q1,rfl,rfl,rfl⟩
   refine yp (h:=(WL.midF 4 (fun L' w'=>∃ q2:Bool,L'=[(25,.bool q2),(0,.pointer (some ⟨g_p,0,none⟩)),(2,.int .i64 deep),(4,.pointer (some ⟨g1,0,none⟩))]∧(((decide (v.1=(5:Int))) || (decide (v.1=(6:Int)))) || (decide (v.1=(7:Int))))=q2∧w1=w') ?_ (fun hQ=>?_)))
   ·rintro _ _ ⟨q2,rfl,rfl,rfl⟩
    refine yp (h:=(WL.midF 4 (fun L' w'=>∃ q3:Bool,L'=[(30,.bool q3),(0,.pointer (some ⟨g_p,0,none⟩)),(2,.int .i64 deep),(4,.pointer (some ⟨g1,0,none⟩))]∧((((decide (v.1=(5:Int))) || (decide (v.1=(6:Int)))) || (decide (v.1=(7:Int)))) || (decide (v.1=(8:Int))))=q3∧w1=w') ?_ (fun hQ=>?_)))
    ·rintro _ _ ⟨q3,rfl,rfl,rfl⟩
     refine yp (h:=(WL.nil (WX.then_normal (WC.seq (WC.seq (WC.region (yp (h:=(yp (h:=(WL.midF 3 (fun L' w'=>∃ q4:Bool,L'=[(35,.bool q4),(0,.pointer (some ⟨g_p,0,none⟩)),(2,.int .i64 deep),(4,.pointer (some ⟨g1,0,none⟩))]∧(((((decide (v.1=(5:Int))) || (decide (v.1=(6:Int)))) || (decide (v.1=(7:Int)))) || (decide (v.1=(8:Int)))) && (decide ((60:Int)≤deep)))=q4∧w1=w') ?_ (fun hQ=>?_))))))))))))
     ·rintro _ _ ⟨q4,rfl,rfl,rfl⟩
      refine WL.nil (WX.then_normal (WC.cond rfl (fun b2=>?_) (fun b2=>?_)))
      ·replace H:=H.1 (b2)
       refine WC.seq (WC.region (yp (h:=(WL.call rfl rfl (zi k1 rfl k2 hdj0_1 H) ?_))))
       rintro _ w2 ⟨hgl1,p_,A_p_,c_p_,rfl,hB2,hO2,hi1,dj1,H⟩
       have hi2:InP [(some g_p),(blk A_p_out)] w.heap.size (blk A_p_):=InP.trans hi1 (apC (InP.mem (List.Mem.head _)) (apC (InP.mem (List.Mem.tail _ (List.Mem.head _))) apN)) (GrL.sizeL gr1)
       have gr2:GrL [(some g_p),(blk A_p_out)] w w2:=GrL.modL gr1 hgl1 (apC (InP.mem (List.Mem.head _)) (apC (InP.mem (List.Mem.tail _ (List.Mem.head _))) apN))
       exact WL.nil (WX.then_normal (WC.ret (WX.then_ret (WX.ret0 rfl ⟨gr2,p_,A_p_,c_p_,rfl,hB2,hO2,hi2,dj1,H⟩))))
      ·replace H:=H.2 (b2)
       refine WC.skip (WX.then_normal (WC.seq (WC.region (yp (h:=(WL.y rfl (Yld.bload za hB1 rfl rfl rfl) (WL.nil (WX.then_normal (WC.block (WC.seq (WC.region (yp (h:=(yp (h:=(WL.nil (WX.then_normal (WC.cond rfl (fun b3=>?_) (fun b3=>?_)))))))))))))))))))
       ·replace H:=H.1 (of_decide_eq_true b3)
        refine WC.region (yp (h:=(WL.call rfl rfl (zi k1 rfl k2 hdj0_1 H) ?_)))
        rintro _ w3 ⟨hgl2,p_2,A_p_2,c_p_2,rfl,hB3,hO3,hi3,dj2,H⟩
        have hi4:InP [(some g_p),(blk A_p_out)] w.heap.size (blk A_p_2):=InP.trans hi3 (apC (InP.mem (List.Mem.head _)) (apC (InP.mem (List.Mem.tail _ (List.Mem.head _))) apN)) (GrL.sizeL gr1)
        have gr3:GrL [(some g_p),(blk A_p_out)] w w3:=GrL.modL gr1 hgl2 (apC (InP.mem (List.Mem.head _)) (apC (InP.mem (List.Mem.tail _ (List.Mem.head _))) apN))
        exact WL.nil (WX.block_normal (WX.end0 rfl ⟨gr3,p_2,A_p_2,c_p_2,rfl,hB3,hO3,hi4,dj2,H⟩))
       ·replace H:=H.2 (of_decide_eq_false b3)
        refine WC.seq (WC.region (yp (h:=(yp (h:=(WL.nil (WX.then_normal (WC.cond rfl (fun b4=>?_) (fun b4=>?_)))))))))
        ·replace H:=H.1 (of_decide_eq_true b4)
         exact WC.seq (False.elim H)
        ·replace H:=H.2 (of_decide_eq_false b4)
         refine WC.seq (WC.region (yp (h:=(yp (h:=(WL.nil (WX.then_normal (WC.cond rfl (fun b5=>?_) (fun b5=>?_)))))))))
         ·replace H:=H.1 (of_decide_eq_true b5)
          refine WC.region (yp (h:=(yp (h:=(WL.y rfl (Yld.bagg (vs:=[.bool v.2.1.1,.slice A_L v.2.1.2.length c_L]) za hB1 rfl rfl rfl rfl) (WL.call rfl rfl (qm k3 rfl H) ?_))))))
          rintro _ w4 ⟨hg2,t57,rfl,H⟩
          have gr4:=GrL.add0 gr1 hg2
          refine WL.call rfl rfl (zi (k1.grown hg2) rfl (k2.g0 hg2) hdj0_1 H) ?_
          rintro _ w5 ⟨hgl3,p_3,A_p_3,c_p_3,rfl,hB4,hO4,hi5,dj3,H⟩
          have hi6:InP [(some g_p),(blk A_p_out)] w.heap.size (blk A_p_3):=InP.trans hi5 (apC (InP.mem (List.Mem.head _)) (apC (InP.mem (List.Mem.tail _ (List.Mem.head _))) apN)) (GrL.sizeL gr4)
          have gr5:GrL [(some g_p),(blk A_p_out)] w w5:=GrL.modL gr4 hgl3 (apC (InP.mem (List.Mem.head _)) (apC (InP.mem (List.Mem.tail _ (List.Mem.head _))) apN))
          exact WL.nil (WX.block_normal (WX.end0 rfl ⟨gr5,p_3,A_p_3,c_p_3,rfl,hB4,hO4,hi6,dj3,H⟩))
         ·replace H:=H.2 (of_decide_eq_false b5)
          refine WC.seq (WC.region (yp (h:=(yp (h:=(WL.nil (WX.then_normal (WC.cond rfl (fun b6=>?_) (fun b6=>?_)))))))))
          ·replace H:=H.1 (of_decide_eq_true b6)
           exact False.elim H
          ·replace H:=H.2 (of_decide_eq_false b6)
           refine WC.seq (WC.region (yp (h:=(yp (h:=(WL.nil (WX.then_normal (WC.cond rfl (fun b7=>?_) (fun b7=>?_)))))))))
           ·replace H:=H.1 (of_decide_eq_true b7)
            exact WC.seq (False.elim H)
           ·replace H:=H.2 (of_decide_eq_false b7)
            refine WC.seq (WC.region (yp (h:=(yp (h:=(WL.nil (WX.then_normal (WC.cond rfl (fun b8=>?_) (fun b8=>?_)))))))))
            ·replace H:=H.1 (of_decide_eq_true b8)
             refine WC.seq (WC.region (yp (h:=(WL.call rfl rfl (zi k1 rfl k2 hdj0_1 H) ?_))))
             rintro _ w6 ⟨hgl4,p_4,A_p_4,c_p_4,rfl,hB5,hO5,hi7,dj4,H⟩
             have hi8:InP [(some g_p),(blk A_p_out)] w.heap.size (blk A_p_4):=InP.trans hi7 (apC (InP.mem (List.Mem.head _)) (apC (InP.mem (List.Mem.tail _ (List.Mem.head _))) apN)) (GrL.sizeL gr1)
             have gr6:GrL [(some g_p),(blk A_p_out)] w w6:=GrL.modL gr1 hgl4 (apC (InP.mem (List.Mem.head _)) (apC (InP.mem (List.Mem.tail _ (List.Mem.head _))) apN))
             have k8:=k4.goL hgl4 (apC (hd2 _ (hv.inp hap0 (InP.mem (List.Mem.head _)))) (apC (hd2 _ (hv.inp hap0 (InP.mem (List.Mem.tail _ (List.Mem.head _))))) apN))
             have k9:=hB1.goL hgl4 (apC (Dj.new hp.lt' (Ge.box hl1)).symm (apC (Dj.new hp_out.lt' (Ge.box hl1)).symm apN))
             refine WL.nil (WX.then_normal (WC.seq (WC.region (yp (h:=(yp (h:=(WL.y rfl (Yld.bload za k9 rfl rfl rfl) ?_))))))))
             obtain ⟨h1,H⟩:=H
             obtain ⟨A_its,c_its,A_fr,c_fr,hi,hf,hv1,hB6,hR2,hr1,hR3,hr2,hd3,hd4,hd5,hd6,hd7⟩:=deO_openD k8 h1
             refine WL.y rfl (nilpV hv1 rfl) (yp (h:=(WL.y rfl (Yld.bload za hB6 rfl rfl rfl) (yp (h:=?_)))))
             obtain ⟨h2,H⟩:=H
             refine WL.y rfl (Yld.add rfl rfl h2) (WL.call rfl rfl (W_psmithyref14_printer_list hO5 rfl hB5 hR2 (hr1.1.symm.trans hr1.1) hr1 dj4 (apC (hd4 _ (hd2 _ (hv.inp hap0 (InP.mem (List.Mem.head _))))) (apC (hd4 _ (RelD.inp k4 (apC (hd2 _ (hv.inp hap0 (InP.mem (List.Mem.head _)))) (apC (hd2 _ (hv.inp hap0 (InP.mem (List.Mem.tail _ (List.Mem.head _))))) apN)) hi7)) apN)) (apC (hd5 _ (hd2 _ (hv.inp hap0 (InP.mem (List.Mem.head _))))) (apC (hd5 _ (RelD.inp k4 (apC (hd2 _ (hv.inp hap0 (InP.mem (List.Mem.head _)))) (apC (hd2 _ (hv.inp hap0 (InP.mem (List.Mem.tail _ (List.Mem.head _))))) apN)) hi7)) apN)) H) ?_)
             rintro _ w7 ⟨hgl5,p_5,A_p_5,c_p_5,rfl,hB7,hO6,hi9,dj5,H⟩
             have hi10:InP [(some g_p),(blk A_p_out)] w.heap.size (blk A_p_5):=InP.trans hi9 (apC (InP.mem (List.Mem.head _)) (apC hi8 apN)) (GrL.sizeL gr6)
             have gr7:GrL [(some g_p),(blk A_p_out)] w w7:=GrL.modL gr6 hgl5 (apC (InP.mem (List.Mem.head _)) (apC hi8 apN))
             have k10:=(k3.goL hgl4 (apC (hd1 _ (hv.inp hap0 (InP.mem (List.Mem.head _)))) (apC (hd1 _ (hv.inp hap0 (InP.mem (List.Mem.tail _ (List.Mem.head _))))) apN))).goL hgl5 (apC (hd1 _ (hv.inp hap0 (InP.mem (List.Mem.head _)))) (apC (InP.dn hi7 (fun hx=>k3.lt' hx) (apC (hd1 _ (hv.inp hap0 (InP.mem (List.Mem.head _)))) (apC (hd1 _ (hv.inp hap0 (InP.mem (List.Mem.tail _ (List.Mem.head _))))) apN))) apN))
             have k11:=k8.goL hgl5 (apC (hd2 _ (hv.inp hap0 (InP.mem (List.Mem.head _)))) (apC (RelD.inp k4 (apC (hd2 _ (hv.inp hap0 (InP.mem (List.Mem.head _)))) (apC (hd2 _ (hv.inp hap0 (InP.mem (List.Mem.tail _ (List.Mem.head _))))) apN)) hi7) apN))
             have k13:=hR2.goL hgl5 (apC (hd4 _ (hd2 _ (hv.inp hap0 (InP.mem (List.Mem.head _))))) (apC (hd4 _ (RelD.inp k4 (apC (hd2 _ (hv.inp hap0 (InP.mem (List.Mem.head _)))) (apC (hd2 _ (hv.inp hap0 (InP.mem (List.Mem.tail _ (List.Mem.head _))))) apN)) hi7)) apN))
             have k14:=hr1.goL hgl5 (apC (hd5 _ (hd2 _ (hv.inp hap0 (InP.mem (List.Mem.head _))))) (apC (hd5 _ (RelD.inp k4 (apC (hd2 _ (hv.inp hap0 (InP.mem (List.Mem.head _)))) (apC (hd2 _ (hv.inp hap0 (InP.mem (List.Mem.tail _ (List.Mem.head _))))) apN)) hi7)) apN))
             have k15:=hR3.goL hgl5 (apC (hd6 _ (hd2 _ (hv.inp hap0 (InP.mem (List.Mem.head _))))) (apC (hd6 _ (RelD.inp k4 (apC (hd2 _ (hv.inp hap0 (InP.mem (List.Mem.head _)))) (apC (hd2 _ (hv.inp hap0 (InP.mem (List.Mem.tail _ (List.Mem.head _))))) apN)) hi7)) apN))
             have k16:=hr2.goL hgl5 (apC (hd7 _ (hd2 _ (hv.inp hap0 (InP.mem (List.Mem.head _))))) (apC (hd7 _ (RelD.inp k4 (apC (hd2 _ (hv.inp hap0 (InP.mem (List.Mem.head _)))) (apC (hd2 _ (hv.inp hap0 (InP.mem (List.Mem.tail _ (List.Mem.head _))))) apN)) hi7)) apN))
             refine WL.nil (WX.then_normal (WC.seq ?_))
             obtain ⟨J1,H,hJ1⟩:=H
             refine WC.midF (fun L' w'=>∃ (p0:List UInt8),∃ (A_p0:Option Addr),∃ (c_p0:Nat),∃ (n_p0:Nat),L'=[(0,.pointer (some ⟨g_p,0,none⟩))]∧J1 p0∧n_p0=p0.length∧GrL [(some g_p),(blk A_p_out)] w w'∧Bl w' g_p 161 [.slice A_p0 n_p0 c_p0]∧Own vb w' 0 5 A_p0 c_p0 p0∧Dj (some g_p) (blk A_p0)∧InP [(some g_p),(blk A_p_out)] w.heap.size (blk A_p0)) ?_ (fun hQ=>?_)
             ·clear H
              rintro _ w8 ⟨p0,A_p0,c_p0,n_p0,rfl,H,rfl,gr8,k18,k19,dj6,hi11⟩
              replace H:=hJ1 p0 H
              refine WX.then_normal (WC.region (yp (h:=(WL.call rfl rfl (zi k19 rfl k18 dj6 H) ?_))))
              rintro _ w9 ⟨hgl6,p_6,A_p_6,c_p_6,rfl,hB8,hO7,hi12,dj7,H⟩
              have hi13:InP [(some g_p),(blk A_p_out)] w.heap.size (blk A_p_6):=InP.trans hi12 (apC (InP.mem (List.Mem.head _)) (apC hi11 apN)) (GrL.sizeL gr8)
              have gr9:GrL [(some g_p),(blk A_p_out)] w w9:=GrL.modL gr8 hgl6 (apC (InP.mem (List.Mem.head _)) (apC hi11 apN))
              exact WL.nil (WX.block_normal (WX.end0 rfl ⟨gr9,p_6,A_p_6,c_p_6,rfl,hB8,hO7,hi13,dj7,H⟩))
             ·clear hJ1
              refine WC.seq (WC.region (yp (h:=(WL.y rfl (Yld.bload za (k9.goL hgl5 (apC (Dj.new hp.lt' (Ge.box hl1)).symm (apC (InP.dj hi7 hB1.lt' (apC (Dj.new hp.lt' (Ge.box hl1)).symm (apC (Dj.new hp_out.lt' (Ge.box hl1)).symm apN))).symm apN))) rfl rfl rfl) (WL.y rfl (nilpV hv1 rfl) (yp (h:=(WL.y rfl (Yld.bload za (hB6.goL hgl5 (apC (hd3 _ (hd2 _ (hv.inp hap0 (InP.mem (List.Mem.head _))))) (apC (hd3 _ (RelD.inp k4 (apC (hd2 _ (hv.inp hap0 (InP.mem (List.Mem.head _)))) (apC (hd2 _ (hv.inp hap0 (InP.mem (List.Mem.tail _ (List.Mem.head _))))) apN)) hi7)) apN))) rfl rfl rfl) (yp (h:=(yp (h:=(WL.nil (WX.then_normal (WC.cond rfl (fun b9=>?_) (fun b9=>?_))))))))))))))))
              ·replace H:=H.1 (of_decide_eq_true b9)
               refine WC.region (yp (h:=(WL.call rfl rfl (zi hO6 rfl hB7 dj5 H) ?_)))
               rintro _ w10 ⟨hgl7,p_7,A_p_7,c_p_7,rfl,hB9,hO8,hi14,dj8,H⟩
               have hi15:InP [(some g_p),(blk A_p_out)] w.heap.size (blk A_p_7):=InP.trans hi14 (apC (InP.mem (List.Mem.head _)) (apC hi10 apN)) (GrL.sizeL gr7)
               have gr10:GrL [(some g_p),(blk A_p_out)] w w10:=GrL.modL gr7 hgl7 (apC (InP.mem (List.Mem.head _)) (apC hi10 apN))
               refine WL.nil ?_
               exact WX.weaken (by repeat (first | exact Sub.nil | refine Sub.cons rfl ?_)) (hQ _ _ ⟨p_7,A_p_7,c_p_7,p_7.length,rfl,H,rfl,gr10,hB9,hO8,dj8,hi15⟩)
              ·replace H:=H.2 (of_decide_eq_false b9)
               refine WC.skip ?_
               exact WX.weaken (by repeat (first | exact Sub.nil | refine Sub.cons rfl ?_)) (hQ _ _ ⟨p_5,A_p_5,c_p_5,p_5.length,rfl,H,rfl,gr7,hB7,hO6,dj5,hi10⟩)
            ·replace H:=H.2 (of_decide_eq_false b8)
             refine WC.seq (WC.region (yp (h:=(yp (h:=(WL.nil (WX.then_normal (WC.cond rfl (fun b10=>?_) (fun b10=>?_)))))))))
             ·replace H:=H.1 (of_decide_eq_true b10)
              exact WC.seq (False.elim H)
             ·replace H:=H.2 (of_decide_eq_false b10)
              refine WC.seq (WC.region (yp (h:=(yp (h:=(WL.nil (WX.then_normal (WC.cond rfl (fun b11=>?_) (fun b11=>?_)))))))))
              ·replace H:=H.1 (of_decide_eq_true b11)
               exact WC.seq (False.elim H)
              ·replace H:=H.2 (of_decide_eq_false b11)
               refine WC.seq (WC.region (yp (h:=(yp (h:=(WL.nil (WX.then_normal (WC.cond rfl (fun b12=>?_) (fun b12=>?_)))))))))
               ·replace H:=H.1 (of_decide_eq_true b12)
                exact False.elim H
               ·replace H:=H.2 (of_decide_eq_false b12)
                refine WC.seq (WC.region (yp (h:=(yp (h:=(WL.nil (WX.then_normal (WC.cond rfl (fun b13=>?_) (fun b13=>?_)))))))))
                ·replace H:=H.1 (of_decide_eq_true b13)
                 exact WC.seq (False.elim H)
                ·replace H:=H.2 (of_decide_eq_false b13)
                 refine WC.seq (WC.region (yp (h:=(yp (h:=(WL.nil (WX.then_normal (WC.cond rfl (fun b14=>?_) (fun b14=>?_)))))))))
                 ·replace H:=H.1 (of_decide_eq_true b14)
                  exact WC.seq (False.elim H)
                 ·replace H:=H.2 (of_decide_eq_false b14)
                  exact WC.skip (WX.block_normal (WX.end0 rfl ⟨gr1,p_out,A_p_out,c_p_out,rfl,k2,k1,(InP.mem (List.Mem.tail _ (List.Mem.head _))),hdj0_1,H⟩))
     ·clear H
      rcases Bool.eq_false_or_eq_true ((((decide (v.1=(5:Int))) || (decide (v.1=(6:Int)))) || (decide (v.1=(7:Int)))) || (decide (v.1=(8:Int)))) with b15 | b15
      ·exact gp b15 (h:=(gp b15 (h:=(WL.y rfl (Yld.pickT (okb b15) rfl) (wk (hQ _ _ ⟨decide ((60:Int)≤deep),rfl,by rw [b15] <;> rfl,rfl⟩))))))
      ·exact gn b15 (h:=(gn b15 (h:=(WL.y rfl (Yld.pickF (okb b15) rfl) (wk (hQ _ _ ⟨false,rfl,by rw [b15] <;> rfl,rfl⟩))))))
    ·clear H
     rcases Bool.eq_false_or_eq_true (((decide (v.1=(5:Int))) || (decide (v.1=(6:Int)))) || (decide (v.1=(7:Int)))) with b16 | b16
     ·exact gn b16 (h:=(gn b16 (h:=(gn b16 (h:=(WL.y rfl (Yld.pickT (okb b16) rfl) (wk (hQ _ _ ⟨true,rfl,by rw [b16] <;> rfl,rfl⟩))))))))
     ·exact gp b16 (h:=(WL.gyes rfl rfl (okb b16) rfl (Yld.bload za hB1 rfl rfl rfl) (gp b16 (h:=(WL.y rfl (Yld.pickF (okb b16) rfl) (wk (hQ _ _ ⟨decide (v.1=(8:Int)),rfl,by rw [b16] <;> rfl,rfl⟩)))))))
   ·clear H
    rcases Bool.eq_false_or_eq_true ((decide (v.1=(5:Int))) || (decide (v.1=(6:Int)))) with b17 | b17
    ·exact gn b17 (h:=(gn b17 (h:=(gn b17 (h:=(WL.y rfl (Yld.pickT (okb b17) rfl) (wk (hQ _ _ ⟨true,rfl,by rw [b17] <;> rfl,rfl⟩))))))))
    ·exact gp b17 (h:=(WL.gyes rfl rfl (okb b17) rfl (Yld.bload za hB1 rfl rfl rfl) (gp b17 (h:=(WL.y rfl (Yld.pickF (okb b17) rfl) (wk (hQ _ _ ⟨decide (v.1=(7:Int)),rfl,by rw [b17] <;> rfl,rfl⟩)))))))
  ·clear H
   rcases Bool.eq_false_or_eq_true (decide (v.1=(5:Int))) with b18 | b18
   ·exact gn b18 (h:=(gn b18 (h:=(gn b18 (h:=(WL.y rfl (Yld.pickT (okb b18) rfl) (wk (hQ _ _ ⟨true,rfl,by rw [b18] <;> rfl,rfl⟩))))))))
   ·exact gp b18 (h:=(WL.gyes rfl rfl (okb b18) rfl (Yld.bload za hB1 rfl rfl rfl) (gp b18 (h:=(WL.y rfl (Yld.pickF (okb b18) rfl) (wk (hQ _ _ ⟨decide (v.1=(6:Int)),rfl,by rw [b18] <;> rfl,rfl⟩)))))))
set_option maxHeartbeats 8000000 in
theorem W_smithyref14_Repr {w:World} {v_v:RC} {F_v:Nat→Prop} {v:RV} {K:(List UInt8)→Prop} (hv:RelD deR w [(v_v,F_v)] [v]) (H:qj v K):Fn Tryz.prog 20 ⟨[(.agg ⟨v_v.1⟩)]⟩ w (fun v w'=>w.grownBy w' none∧∃ (r:List UInt8),v=vs r∧K r):=by
 unfold qj at H
 refine Fn.enter (by kernel_rfl) Tryz.func20 rfl Tryz.ntmps20 rfl ?_
 refine WC.seq (WC.region ?_)
 obtain ⟨A_L,c_L,v_o,hc1,hR1,hO1,hd1,hd2⟩:=qe hv
 rw [hc1]
 refine WL.box (us:=[.int .i64 v.1,.bool false,.bool v.2.1.1,.slice A_L v.2.1.2.length c_L,vs [],v_o.1]) rfl rfl rfl (fun g1 w1 hB1 hg1 hl1=>?_)
 have gr1:=hg1
 refine yp (h:=(WL.nil (WX.then_normal (WC.seq (WC.region (WL.y rfl (Yld.struct (us:=[.slice none 0 0]) zero161 places161 rfl rfl) (WL.box (us:=[.slice none 0 0]) rfl rfl rfl (fun g2 w2 hB2 hg2 hl2=>?_))))))))
 have gr2:=zd gr1 hg2
 have k3:=(hR1.grown hg1).grown hg2
 have k4:=(hO1.grown hg1).grown hg2
 refine yp (h:=(WL.nil (WX.then_normal (WC.seq (WC.region (yp (h:=(WL.y rfl (Yld.to (v:=(.agg ⟨v_v.1⟩)) (Yld.bagg (vs:=[.int .i64 v.1,.bool false,.bool v.2.1.1,.slice A_L v.2.1.2.length c_L,vs [],v_o.1]) za (hB1.g0 hg2) rfl rfl rfl rfl) (congrArg (fun l=>Value.agg ⟨l⟩) hc1.symm)) (WL.call rfl rfl (W_smithyref14_printer_valueT ((Own.nil vb w2 w.heap.size 5).base (fun _ _=>Nat.zero_le _)) rfl hB2 (hv.grown gr2) Dj.nr (apC (hv.new (Ge.le (Ge.box hl2) (ze gr1))) (apC (DnD.none hv) apN)) H) ?_)))))))))
 rintro _ w3 ⟨hgl1,t5_,A_t5_,c_t5_,rfl,hB3,hO2,hi1,dj1,H⟩
 have hO3:=hO2.base (InP.toGe hi1 (apC (Ge.le (Ge.box hl2) (ze gr1)) (apC Ge.none apN)) (ze gr2))
 exact WL.nil (WX.then_normal (WC.seq (WC.region (yp (h:=(yp (h:=(yp (h:=(WL.y rfl (Yld.bload za hB3 rfl rfl rfl) (WL.y rfl (Yld.b2s za hO3.rd rfl rfl rfl rfl rfl) (yp (h:=(WL.nil (WX.then_normal (WC.ret (WX.ret1 rfl rfl ⟨(gr_modL gr2 hgl1 (apC (Ge.le (Ge.box hl2) (ze gr1)) (apC Ge.none apN))),t5_,rfl,H⟩)))))))))))))))))
end Go.Proofs.YtjjcdkfhaceicaaGreatDoor
 
namespace Go.Proofs.YtjjcdkfhaceicaaGreatDoor
open Go Go.RowKit
def depO:Nat→RO→Prop
 | _,.nil=>True
 | 0,.mk ..=>False
 | n+1,.mk _ _ _ fr _=>∀ f∈fr,depO n f.2.2
structure TQ where
 seen:List RO
 keys:List (List UInt8)
 out:List RV
def zj (kf:RV→List UInt8) (t:TQ) (v:RV):TQ:=if kf v∈t.keys then t else { t with keys:=t.keys++[kf v],out:=t.out++[v] }
def setQ (kf:RV→List UInt8):Nat→Int→RO→TQ→TQ
 | 0,_,_,t=>t
 | n+1,o,s,t=>if s.id∈t.seen.map RO.id then t else
  let t1:TQ:={ t with seen:=t.seen++[s] }
  if o=0 then s.fr.foldl (fun t f=>setQ kf n o f.2.2 t) t1
  else if o=1 then s.fr.foldl (fun t f=>setQ kf n o f.2.2 t) (s.items.foldl (zj kf) t1)
  else if o=2 then s.items.foldl (zj kf) (s.fr.foldl (fun t f=>setQ kf n o f.2.2 t) t1)
  else s.items.reverse.foldl (zj kf) (s.fr.reverse.foldl (fun t f=>setQ kf n o f.2.2 t) t1)
def tq0:TQ:=⟨[],[],[]⟩
def NoNil (s:RO):Prop:=∀ y,RRch s y→∀ f∈y.fr,f.2.2≠.nil
def KeyIs (v:RV) (k:List UInt8):Prop:=k.length≤1000000∧∀ K:List UInt8→Int→Prop,K k 0→qo v K
def allQ (kf:RV→List UInt8) (n:Nat) (s:RO):List RV:=if s.order=3 then (setQ kf n s.order s tq0).out.reverse else (setQ kf n s.order s tq0).out
def M_smithyref14_Sets (v:RV) (K:Int→Prop):Prop:=v.2.2≠.nil∧NoNil v.2.2∧∀ n,depO n v.2.2→(setQ (fun _=>[]) n 0 v.2.2 tq0).seen.length≤100000∧K ((setQ (fun _=>[]) n 0 v.2.2 tq0).seen.length:Int)
def M_smithyref14_All (v:RV) (K:List RV→Int→Prop):Prop:=v.2.2≠.nil∧NoNil v.2.2∧(0≤v.2.2.order∧v.2.2.order≤3)∧∃ kf:RV→List UInt8,(∀ s,RRch v.2.2 s→∀ x∈s.items,KeyIs x (kf x)) ∧
 ∀ n,depO n v.2.2→(setQ kf n v.2.2.order v.2.2 tq0).seen.length≤100000∧(setQ kf n v.2.2.order v.2.2 tq0).out.length≤1024∧K (allQ kf n v.2.2) 0
def dedQ (kf:RV→List UInt8) (l:List RV):List RV:=(l.foldl (zj kf) tq0).out
def deepQ (fr:List RV):Int:=fr.foldl (fun d f=>if d<f.2.2.deep+1 then f.2.2.deep+1 else d) 0
def M_nd_mid (its:List RV) (order:Int) (fr:List RV) (K:Int→Prop):Prop:=(∀ g,NoNil (.mk g its order fr 0))∧∀ g n,depO n (.mk g its order fr 0) →
  (setQ (fun _=>[]) n 0 (.mk g its order fr 0) tq0).seen.length≤100000∧((setQ (fun _=>[]) n 0 (.mk g its order fr 0) tq0).seen.map fun s=>s.items.length).sum≤1000000 ∧
  K (((setQ (fun _=>[]) n 0 (.mk g its order fr 0) tq0).seen.map fun s=>s.items.length).sum:Nat)
end Go.Proofs.YtjjcdkfhaceicaaGreatDoor
 
namespace Go.Proofs.YtjjcdkfhaceicaaGreatDoor
open Go Go.RowKit
def dep:Nat→PS→Prop
 | _,.nil=>True
 | 0,.mk ..=>False
 | n+1,.mk _ _ _ fr _ _=>∀ f∈fr,dep n f
structure TS where
 sets:List Nat
 keys:List (List UInt8)
 out:List PV
def ownT:List PV→TS→TS
 | [],t=>t
 | v :: l,t=>ownT l (if keyP v∈t.keys then t else { t with keys:=t.keys++[keyP v],out:=t.out++[v] })
def zH:Nat→Int→PS→TS→TS
 | 0,_,_,t=>t
 | n+1,o,s,t=>if s.id∈t.sets then t else
  let t1:TS:={ t with sets:=t.sets++[s.id] }
  let t2:=if o=1 then ownT s.own t1 else t1
  let t3:=(if o=3 then s.fr.reverse else s.fr).foldl (fun t f=>zH n o f t) t2
  if o=1 then t3 else ownT (if o=3 then s.own.reverse else s.own) t3
def ts0:TS:=⟨[],[],[]⟩
def allN (n:Nat) (s:PS):List PV:=if s.order=3 then (zH n s.order s ts0).out.reverse else (zH n s.order s ts0).out
structure Some' (s:PS) (l:List PS):Prop where
 nd:(l.map PS.id).Nodup
 re:∀ x∈l,zV s x
structure SetsOf (s:PS) (l:List PS):Prop extends Some' s l where
 top:s∈l
 cl:∀ x∈l,∀ f∈x.fr,∃ y∈l,y.id=f.id
def dedP:List PV→List PV
 | l=>(ownT l ts0).out
def M_pdeps_Set_All (s:PS) (K:List PV→Er→Prop):Prop:=s≠.nil∧∀ n,dep n s→(zH n s.order s ts0).sets.length≤100000∧(zH n s.order s ts0).out.length≤1024∧K (allN n s) .ok
def M_pdeps_Set_sets (s:PS) (K:List PS→Prop):Prop:=s≠.nil∧(∀ l,Some' s l→l.length≤100000)∧∀ l,SetsOf s l→K l
def qa (n:Int) (K:PV→Prop):Prop:=(-9223372036854775808≤n∧n≤9223372036854775807)∧K (.int n)
def M_val_Tuple (l:List PV) (K:PV→Prop):Prop:=l.length≤1000000∧∃ zs:List Int,l=zs.map .int∧K (.tup zs)
def comT:List Int→List UInt8
 | []=>[]
 | [z]=>txt z
 | z :: y :: l=>txt z++[44,32]++comT (y :: l)
def tupT (l:List Int):List UInt8:=[40]++comT l++(if l.length=1 then [44,41] else [41])
end Go.Proofs.YtjjcdkfhaceicaaGreatDoor
 