/- Texts of this claim, joined by a program: Laid, Shp, Row2, Row3, Map, Mut, Deep, Row4, Enc, EncD, Shelf, StrA, Cat, GPa, GSa, Pool, DeepO, CatI. -/
import Derived.Test.YtjobklaengaamaaGreatDoorJ1
import Derived.HandedShaped
import Derived.Shelf.Vars
import Derived.Lib.SmallJoins
import Derived.ChangeMaps5
import Derived.Maps.RangeRun
import Derived.Maps.Keyed
import Derived.Carry
import Derived.StringKeys
import Derived.Shelf.SlIter.Sorted
import Derived.Ground.GgzProg
import Derived.Shelf.Strings.Builder1
import Derived.Shelf.Strings.Builder2
import Derived.Shelf.Small.Bits
import Derived.Shelf.Small.Strs
import Derived.Shelf.Strings.BuilderF
import Derived.Shelf.Strings.BuilderK
import Derived.Shelf.Utf8.RuneCount
import Derived.Shelf.Strings.Builder2Cap
import Derived.Shelf.Strconv.Itoa0
import Derived.Shelf.Strconv.Itoa1
import Derived.Shelf.LaysM
import Derived.Shelf.Strconv.Itoa2
import Derived.Shelf.Strconv.Itoa3
import Derived.Shelf.Strings.Search1
import Derived.Shelf.Strings.Search2
import Derived.Shelf.Strings.Search3
import Derived.Shelf.Strings.Count
import Derived.Shelf.Strings.Shaped
import Derived.Shelf.Sort.Plain
import Derived.Shelf.Strings.Prefix
import Derived.Shelf.Strings.Split
import Derived.Shelf.Strings.Replace
import Derived.Shelf.Strings.SplitShaped
import Derived.Shelf.Unicode.Decode
import Derived.Shelf.Strings.RuneCount
import Derived.Shelf.Strings.Explode
import Derived.Shelf.Unicode.DecodeSlow
import Derived.Shelf.Unicode.DecodeAny
import Derived.Shelf.Strings.BuilderCap
import Derived.Shelf.Slices.Turned
import Derived.Ground.Names2Prog
import Derived.Shelf.Slices.ReverseS
import Derived.Shelf.Slices.Clone
import Derived.Shelf.Slices.CompactI
import Derived.Shelf.Slices.CompactS
import Derived.Shelf.Slices.SearchI
import Derived.Shelf.Slices.Cells
import Derived.Shelf.Slices.In.SortNone
import Derived.Ground.SlgnProg
import Derived.Shelf.SlicesE.Clone
import Derived.Test.YtjobklaengaamaaGreatDoorProg
import Derived.Lib.SplitLaws
import Derived.Sort.OwnSorted
import Derived.Sort.OwnSortedInts
namespace Go.Proofs.YtjobklaengaamaaGreatDoor

section
open Go Go.RowKit Go.WideShapes Go.ChangeShapes Go.ChangeAt
def ename:List String:=["smithy/api.ErrLex", "smithy/api.ErrParse", "smithy/api.ErrResolve", "smithy/api.ErrDynamic", "smithy/api.ErrCycle", "smithy/api.ErrVisibility", "smithy/api.ErrAnalysis", "smithy/api.ErrLimit", "smithy/api.ErrMissing", "smithy/api.ErrMany", "smithy/api.ErrKind", "smithy/api.ErrPath", "smithy/api.ErrShape", "smithy/api.ErrEnd", "smithy/api.ErrRange", "smithy/api.ErrDown", "smithy/api.ErrFail"]
theorem cellsEs:Tryz.prog.cellsOf 261=1:=by kernel_rfl
theorem cellsStr:Tryz.prog.cellsOf 9=1:=by kernel_rfl
theorem starEs : "*" ++ "errors.errorString" = "*errors.errorString" := by decide
theorem rowEs (u:TypeId) (h:Tryz.prog.typeName? 3 u=some "*errors.errorString"):u=247 :=
 typeName_ptr_named (nm := "errors.errorString") (by rw [starEs]; kernel_rfl) (by kernel_rfl) (by decide) u (by rw [starEs]; exact h)
set_option maxRecDepth 100000 in
theorem erv_of_vars {W:World}:∀ {l:List (String × DataW Unit)} {ps:List MemPlace},DataW.LaidVars Tryz.prog W l ps->(∀ b off,MemPlace.cell b off∈ps->(∃ c t,W.heap[b]? = some (.cells c t (0,0)))/\∀ u v,W.cell? ⟨b,off,none⟩=some (.iface u v)->Value.okWide Tryz.prog W .any 0 u v) ->
  ∀ nm t g,(nm,DataW.iface "*errors.errorString" (.ptr (.agg [.lit (.string t)])))∈l->Tryz.prog.globalNamed nm=some g->(Tryz.prog.globals[g]?).map (·.type)=some 30->∃ a,W.cell? ⟨g,0,none⟩=some (.iface 247 (.pointer (some a)))/\W.cell? a=some (vs t)/\∃ c e,W.heap[a.block]? = some (.cells c e (0,0))
 | [],_,_,_,_,_,_,h,_,_=>by cases h
 | (n0,d0) :: r,ps,hL,hok,nm,t,g,h,hg,ht=>by
  obtain ⟨g0,t0,cs0,f0,p0,q0,hg0,ht0,hv0,hd0,hr,rfl⟩:=hL
  rcases List.mem_cons.1 h with h | h
  ·simp only [Prod.mk.injEq] at h
   obtain ⟨rfl,rfl⟩:=h
   obtain rfl:=Option.some.inj (hg.symm.trans hg0)
   obtain rfl:=Option.some.inj (ht.symm.trans ht0)
   obtain ⟨l0⟩:=cs0
   have ok0:∀ u v,l0=[.iface u v]->Value.okWide Tryz.prog W .any 0 u v:=fun u v e=>by
    subst e
    exact (hok g 0 (by simp [MemPlace.row])).2 u v (by simpa using World.var?_cell hg0 hv0 0)
   obtain ⟨a0,s0,rfl,hc0,hs0,hz0,rfl⟩:=errorString_of_trod Tryz.underlying30 rowEs Tryz.underlying247 Tryz.underlying261 rfl rfl Tryz.underlying9 cellsEs cellsStr hd0 ok0
   refine ⟨a0,by simpa using World.var?_cell hg0 hv0 0,?_,(hok a0.block a0.off (by simp [MemPlace.row])).1⟩
   rw [hc0,<-hs0]
   rfl
  ·exact erv_of_vars hr (fun b off hb=>hok b off (by simp [hb])) nm t g h hg ht
theorem tab_of_vars {P:Program} {W:World} {name:String} {k:IntKind} {zs:List Int} {g:Nat} {t e:TypeId} {n:Nat}
  (hg:P.globalNamed name=some g) (hty:(P.globals[g]?).map (·.type)=some t) (ht:P.underlying t=some (.array n e)) (he:P.underlying e=some (.int k)) (hce:P.cellsOf e=1) (hct:P.cellsOf t=n) :
  ∀ {l:List (String × DataW Unit)} {ps:List MemPlace},DataW.LaidVars P W l ps->(name,Lib.tabData k zs)∈l->Lib.TabIs P W name k zs
 | [],_,_,h=>by cases h
 | (n0,d0) :: r,ps,hL,h=>by
  obtain ⟨g0,t0,cs0,f0,p0,q0,hg0,ht0,hv0,hd0,hr,rfl⟩:=hL
  rcases List.mem_cons.1 h with h | h
  ·simp only [Prod.mk.injEq] at h
   obtain ⟨rfl,rfl⟩:=h
   obtain rfl:=Option.some.inj (hg.symm.trans hg0)
   obtain rfl:=Option.some.inj (hty.symm.trans ht0)
   unfold Lib.TabIs
   rw [hv0,<-Lib.cells_of_tab ht he hce hct hd0]
  ·exact tab_of_vars hg hty ht he hce hct hr h
theorem tab_of_laid {P:Program} {W:World} {name:String} {k:IntKind} {zs:List Int} {g:Nat} {t e:TypeId} {n:Nat} {l:List (String × DataW Unit)} (h:laidMetH P l W) (hp:(l.all fun x=>x.2.handleName?.isNone)=true)
  (hg:P.globalNamed name=some g) (hty:(P.globals[g]?).map (·.type)=some t) (ht:P.underlying t=some (.array n e)) (he:P.underlying e=some (.int k)) (hce:P.cellsOf e=1) (hct:P.cellsOf t=n) (hm:(name,Lib.tabData k zs)∈l):Lib.TabIs P W name k zs:=by
 rw [MakeChecks.laidMetH_plain _ _ _ hp] at h
 obtain ⟨ps,hL,_⟩:=h
 exact tab_of_vars hg hty ht he hce hct hL hm
def errText? : DataW Unit->Option (List UInt8)
 | .iface n (.ptr (.agg [.lit (.string t)]))=>if n == "*errors.errorString" then some t else none
 | _=>none
theorem errText_spec {d:DataW Unit} {t:List UInt8} (h:errText? d=some t):d=.iface "*errors.errorString" (.ptr (.agg [.lit (.string t)])):=by
 unfold errText? at h
 split at h
 ·rename_i n t'
  split at h
  ·rename_i hn
   have:=eq_of_beq hn
   subst this
   cases h
   rfl
  ·cases h
 ·cases h
def gokB (P:Program) (S:List Nat) (l:List (String × DataW Unit)):Bool:=S.all fun n=>match eglob[n]?,etext[n]?,ename[n]? with
 | some (some g),some t,some nm=>decide (P.globalNamed nm=some g) && (decide ((P.globals[g]?).map (·.type)=some 30) && l.any fun x=>decide (x.1=nm) && decide (errText? x.2=some t))
 | _,_,_=>false
set_option maxRecDepth 100000 in
theorem gok_of_laid {S:List Nat} {W:World} {l:List (String × DataW Unit)} (h:laidMetH Tryz.prog l W) (hp:(l.all fun x=>x.2.handleName?.isNone)=true) (hB:gokB Tryz.prog (S.filter fun n=>Nat.blt n 17) l=true) (hM:100∈S->∃ m,W.cell? ⟨6,0,none⟩=some (.int .i64 m)) (hP:101∈S->Lib.TabIs Tryz.prog W "internal/strconv.uint64pow10" .u64 Lib.pow10Tab)
  : GOK S W:=by
 refine ⟨fun n hn hl=>?_,hM,hP
  ⟩
 rw [MakeChecks.laidMetH_plain _ _ _ hp] at h
 obtain ⟨ps,hL,_,hrows⟩:=h
 have hb:=List.all_eq_true.1 hB n (by simp [hn,Nat.blt_eq,hl])
 split at hb
 ·rename_i g t nm h1 h2 h3
  simp only [Bool.and_eq_true,decide_eq_true_eq,List.any_eq_true] at hb
  obtain ⟨hg,ht,⟨n',d'⟩,hm,he1,he2⟩:=hb
  simp only at he1 he2
  subst he1
  rw [errText_spec he2] at hm
  obtain ⟨a,k1,k2⟩:=erv_of_vars hL (fun b off hb=>hrows b off hb) _ t g hm hg ht
  exact ⟨_,g,t,a,h1,h2,k1,rfl,k2⟩
 ·cases hb
end
 
section
open Go Go.RowKit Go.WideShapes Go.ChangeShapes Go.ChangeAt
theorem handed_both {H:Type} {enc:TypeId × Value->H} {a:Assume} {C:Checked} {os:Os} {f:FuncId} {fn:Func} {s:ChangeSpec} {conds:List PathCond} {apart fresh handsOn again:Bool} {X:World->Array Value->Prop}
  (hX:∀ (w w':World) (args:Array Value),w.heap=w'.heap->X w args->X w' args)
  (own:ownKnob C.prog.godebug=none) (started:os.Started) (noInit:C.prog.inits.idxOf? f=none) (hfn:C.prog.funcs[f]? = some fn)
  (wit:∃ (w:World) (tape:Tape) (i:Input),w.os=os/\(w.forCall tape i).Shaped C.prog/\i.vars=[]/\Input.okWide C.prog (w.forCall tape i) .any w.heap.size f i /\
   ((s.pre enc C.prog fn conds apart (w.forCall tape i).memory i.args/\X (w.forCall tape i).memory i.args)/\sizedMet enc C.prog fn (OpenSpec.ofChange s) apart (w.forCall tape i).memory i.args)/\a.holds C.prog (lone (Frame.enter C.prog f i.args .normal) [] (w.forCall tape i)))
  (law:∀ (W:World) (base:Nat) (args:Array Value) (ds gs:List (DataW H)) (before:List MemPlace),
   (∀ (j:Nat) t v,fn.params[j]? = some t->args[j]? = some v->Value.okWide C.prog W .any base t v) ->
   DataW.Whole enc C.prog fn.params.toList s.vars apart W args.toList ds gs before->X W args->W.ShapedOpen C.prog ->
   Calls C.prog f args W fun e W'=>∃ v,e=.returned v/\s.post enc C.prog fn apart fresh handsOn again W args v W') :
  ReturnsInHanded a C os f .any (fun w args=>(s.pre enc C.prog fn conds apart w args/\X w args)/\sizedMet enc C.prog fn (OpenSpec.ofChange s) apart w args) (s.post enc C.prog fn apart fresh handsOn again):=by
 refine returnsInHanded_of_calls own started noInit wit fun w tape i _ hsh _ hok hpre _=>?_
 obtain ⟨_,_,_,fn',hfn',_,_,_,_,hval⟩:=hok
 obtain rfl:fn'=fn:=Option.some.inj (hfn'.symm.trans hfn)
 obtain ⟨⟨⟨ds,gs,before,hw,_⟩,hx⟩,_⟩:=hpre
 refine (law (w.forCall tape i) w.heap.size i.args ds gs before hval (DataW.Whole.of_heap (w':=w.forCall tape i) (by rfl) hw) (hX _ _ _ (by rfl) hx) hsh).mono fun e W' ⟨v,he,hp⟩=>?_
 subst he
 exact ChangeSpec.post_blind hp
theorem maxLenCell {W:World} (h:W.ShapedOpen Tryz.prog):∃ m,W.cell? ⟨6,0,none⟩=some (.int .i64 m) :=
 cell_of_shapedOpen_int (P:=Tryz.prog) (g:=6) (t:=3) (zero := #[.int .i64 0]) h (of_decide_eq_true (by kernel_rfl)) (by kernel_rfl) rfl (by kernel_rfl) (by kernel_rfl) Tryz.underlying3
end
 
section
open Go Go.RowKit Go.WideShapes Go.ChangeShapes Go.ChangeAt Go.Joins Go.Deep
section
variable {H:Type} {enc:TypeId × Value->H} {P:Program} {w:World} {base:Nat} {spare:Nat->Bool} {held:Bool}
end
end
 
section
open Go Go.RowKit Go.WideShapes Go.ChangeShapes Go.ChangeAt Go.Joins Go.Deep
section
variable {H:Type} {enc:TypeId × Value->H} {P:Program} {w:World} {base:Nat} {spare:Nat->Bool} {held:Bool}
theorem fieldsOne {t:TypeId} {fs:Array Field} {fuel:Nat} {cs:List Value} {x:DataW H × List MemPlace} (ht:P.underlying t=some (.struct fs)) (hone:oneCellFields P fs=true) (h:DataW.trod enc P w base spare held fuel t cs=some x) :
  ∃ n,∀ i f,fs[i]? = some f->i<cs.length->∃ v y,cs[i]? = some v/\DataW.trod enc P w base spare held n f.type [v]=some y:=by
 obtain ⟨xs,n,_,_,hl,hlen,hf⟩:=DataW.trod_struct ht h
 refine ⟨n,fun i f hi hc=>?_⟩
 obtain ⟨h1,h2⟩:=hone_of hone i f hi
 have h3:=hf i f hi
 have hi':i<fs.size:=(Array.getElem?_eq_some_iff.1 hi).1
 rw [h1,h2,List.getElem?_eq_getElem (by omega)] at h3
 refine ⟨cs[i],xs[i],List.getElem?_eq_getElem hc,?_⟩
 have e:(cs.drop i).take 1=[cs[i]]:=by rw [List.drop_eq_getElem_cons hc]; rfl
 rwa [e] at h3
theorem cell_plain {a:Addr} {v:Value} (h:w.cell? a=some v):a.spot=none:=by
 unfold World.cell? at h
 split at h
 ·split at h
  ·cases h
  ·rename_i hs; simpa using hs
 ·cases h
theorem open_rdK {α:Type} [Inhabited α] {k:Nat} {f:α->List Value} {Q:α->Prop} {W:World} {b0:Nat} {t e:TypeId} {v:Value} {d:DataW H} {p:List MemPlace} (hf:OneK k f) (ht:P.underlying t=some (.slice e)) (hc:P.cellsOf e=k)
  (hE:∀ n cs y,DataW.trod enc P W 0 (fun _=>true) true n e cs=some y->cs.length=k->∃ x,cs=f x/\Q x)
  (hval:Value.okWide P W .any b0 t v) (h:DataW.Trod enc P W 0 (fun _=>true) true t v d p):∃ A c l,v=.slice A l.length c/\RdK k f W A c l/\∀ x∈l,Q x:=by
 obtain ⟨a0,len,cap,rfl⟩:=okWide_slice ht hval
 obtain ⟨fuel,hfu⟩:=h
 rcases open_slice ht hfu with ⟨hcs,hx⟩ | ⟨a,len',cap',m,n,D,Pl,hcs,_,hl,hm,hmm,_,hel⟩
 ·simp [Value.cells] at hcs
  obtain ⟨rfl,rfl,rfl⟩:=hcs
  exact ⟨none,0,[],rfl,⟨hf,by simp,by simp [maxLen],fun h=>absurd rfl h⟩,by simp⟩
 ·simp [Value.cells] at hcs
  obtain ⟨rfl,rfl,rfl⟩:=hcs
  simp only [if_true] at hmm
  subst hmm
  have each:∀ i,i<m->∃ x:α,Q x/\∀ j,j<k->W.cell? ((a.add (i*k)).add j)=(f x)[j]? := fun i hi=>by
   obtain ⟨cs',h1,h2⟩:=hel i hi
   rw [hc] at h1
   obtain ⟨_,hlen,hcell⟩:=World.cells?_some h1
   obtain ⟨x,hx,hq⟩:=hE n cs' _ h2 hlen
   exact ⟨x,hq,fun j hj=>by rw [hcell j hj,hx]⟩
  obtain ⟨q,hq⟩:=choose_lt each
  have hll:((List.range len).map q).length=len:=by simp
  refine ⟨some a,m,(List.range len).map q,by rw [hll],⟨hf,by rw [hll]; exact hl,hm,fun hne=>?_⟩,fun x hx=>?_⟩
  ·have h0:0<len:=by
    rcases Nat.eq_zero_or_pos len with h | h
    ·subst h; simp at hne
    ·exact h
   have hcell0:=(hq 0 (by omega)).2 0 hf.pos
   rw [Nat.zero_mul] at hcell0
   have hs:a.spot=none:=by
    have h2:(f (q 0))[0]? = some ((f (q 0))[0]'(by rw [hf.len]; exact hf.pos)):=List.getElem?_eq_getElem _
    rw [h2] at hcell0
    have:=cell_plain hcell0
    simpa [Addr.add] using this
   obtain ⟨g,o,s⟩:=a
   dsimp only at hs
   subst hs
   refine ⟨g,o,rfl,fun j x i u hj hi=>?_⟩
   have hjl:j<len:=by
    rcases Nat.lt_or_ge j len with h | h
    ·exact h
    ·rw [List.getElem?_eq_none (by rw [hll]; exact h)] at hj; cases hj
   have hxe:x=q j:=by
    rw [List.getElem?_map,List.getElem?_range hjl] at hj
    simpa using hj.symm
   subst hxe
   have hik:i<k:=by
    have:=(List.getElem?_eq_some_iff.1 hi).1
    rwa [hf.len] at this
   have:=(hq j (by omega)).2 i hik
   rw [hi,Addr.add_mid,Addr.add_mid] at this
   rw [<-this]
   congr 2
   omega
  ·obtain ⟨i,hi,rfl⟩:=List.mem_map.1 hx
   exact (hq i (by have:=List.mem_range.1 hi; omega)).1
end
end
 
section
open Go Go.RowKit Go.MapKept Go.ChangeMaps
open Go.Maps (Keyed)
section
variable {κ ν:Type} [DecidableEq κ]
def mget:List (κ × ν)->κ->Option ν
 | [],_=>none
 | p :: m,k=>if p.1=k then some p.2 else mget m k
def mput:List (κ × ν)->κ->ν->List (κ × ν)
 | [],k,v=>[(k,v)]
 | p :: m,k,v=>if p.1=k then (k,v) :: m else p :: mput m k v
def Uq (m:List (κ × ν)):Prop:=(m.map (·.1)).Nodup
theorem mget_none {m:List (κ × ν)} {k:κ}:mget m k=none↔∀ p∈m,p.1≠k:=by
 induction m with
 | nil=>simp [mget]
 | cons p m ih =>
  unfold mget
  split
  ·rename_i h; simp [h]
  ·rename_i h; rw [ih]; simp [h]
theorem jX (m:List (κ × ν)) (k k':κ) (v:ν):mget (mput m k v) k'=if k=k' then some v else mget m k':=by
 induction m with
 | nil=>simp [mget,mput]
 | cons p m ih =>
  unfold mput
  split
  ·rename_i h
   subst h
   unfold mget
   split <;> simp_all
  ·rename_i h
   unfold mget
   rw [ih]
   split
   ·rename_i h2
    subst h2
    rw [if_neg (Ne.symm h)]
   ·rfl
theorem mput_new {m:List (κ × ν)} {k:κ} {v:ν} (h:mget m k=none):mput m k v=m++[(k,v)]:=by
 induction m with
 | nil=>rfl
 | cons p m ih =>
  unfold mget at h
  split at h
  ·cases h
  ·rename_i hne
   unfold mput
   rw [if_neg hne,ih h]
   rfl
theorem mput_set {m:List (κ × ν)} {k:κ} {v v0:ν} {j:Nat} (hu:Uq m) (h:m[j]? = some (k,v0)):mput m k v=m.set j (k,v):=by
 induction m generalizing j with
 | nil=>simp at h
 | cons p m ih =>
  have hu':=List.nodup_cons.1 hu
  cases j with
  | zero =>
   simp only [List.getElem?_cons_zero,Option.some.injEq] at h
   subst h
   simp [mput]
  | succ j =>
   simp only [List.getElem?_cons_succ] at h
   have hne:p.1≠k:=fun e=>hu'.1 (List.mem_map.2 ⟨(k,v0),List.mem_of_getElem? h,e.symm⟩)
   unfold mput
   rw [if_neg hne,ih hu'.2 h]
   rfl
theorem mget_mem {m:List (κ × ν)} {k:κ} {v:ν} (hu:Uq m):mget m k=some v↔(k,v)∈m:=by
 induction m with
 | nil=>simp [mget]
 | cons p m ih =>
  have hu':=List.nodup_cons.1 hu
  unfold mget
  split
  ·rename_i h
   subst h
   rw [Option.some.injEq,List.mem_cons]
   constructor
   ·rintro rfl; exact .inl rfl
   ·rintro (h | h)
    ·exact (congrArg Prod.snd h).symm
    ·exact absurd (List.mem_map.2 ⟨_,h,rfl⟩) hu'.1
  ·rename_i h
   rw [ih hu'.2,List.mem_cons]
   constructor
   ·exact .inr
   ·rintro (h2 | h2)
    ·exact absurd (congrArg Prod.fst h2).symm h
    ·exact h2
theorem mput_len (m:List (κ × ν)) (k:κ) (v:ν):(mput m k v).length=if (mget m k).isSome then m.length else m.length+1:=by
 induction m with
 | nil=>simp [mget,mput]
 | cons p m ih =>
  unfold mput mget
  split
  ·simp
  ·rw [List.length_cons,ih,List.length_cons]
   split <;> rfl
theorem mput_mem {m:List (κ × ν)} {k:κ} {v:ν} {p:κ × ν} (h:p∈mput m k v):p=(k,v)∨p∈m:=by
 induction m with
 | nil=>simp [mput] at h; exact .inl h
 | cons q m ih =>
  unfold mput at h
  split at h
  ·rcases List.mem_cons.1 h with h | h
   ·exact .inl h
   ·exact .inr (List.mem_cons_of_mem _ h)
  ·rcases List.mem_cons.1 h with h | h
   ·exact .inr (by rw [h]; exact List.mem_cons_self)
   ·rcases ih h with h | h
    ·exact .inl h
    ·exact .inr (List.mem_cons_of_mem _ h)
theorem mput_keys (m:List (κ × ν)) (k:κ) (v:ν):(mput m k v).map (·.1)=if (mget m k).isSome then m.map (·.1) else m.map (·.1)++[k]:=by
 induction m with
 | nil=>simp [mget,mput]
 | cons p m ih =>
  unfold mput mget
  split
  ·rename_i h; simp [h]
  ·rw [List.map_cons,ih,List.map_cons]
   split <;> rfl
theorem Uq.put {m:List (κ × ν)} (h:Uq m) (k:κ) (v:ν):Uq (mput m k v):=by
 unfold Uq at *
 rw [mput_keys]
 split
 ·exact h
 ·rename_i hn
  have:mget m k=none:=by simpa using hn
  rw [List.nodup_append]
  refine ⟨h,by simp,fun a ha b hb=>?_⟩
  obtain ⟨p,hp,rfl⟩:=List.mem_map.1 ha
  simp only [List.mem_cons,List.not_mem_nil,or_false] at hb
  subst hb
  exact mget_none.1 this p hp
end
structure KeyF {κ:Type} (P:Program) (k:TypeId) (fk:κ->Value) (ok:κ->Prop):Prop where
 check:∀ (w:World) (em:Bool) (x:κ),ok x->(Instr.checkKey em 10000 k (fk x)).run P w=.ok () w
 find:∀ (w:World) (x:κ),ok x->∀ es:List MapEntry,(∀ e∈es,∃ y,ok y/\e.key=fk y) ->
  ((Instr.findKey k (fk x) es).run P w=.ok none w/\∀ e∈es,e.key≠fk x)∨∃ j e,(Instr.findKey k (fk x) es).run P w=.ok (some (j,e.val)) w/\es[j]? = some e/\e.key=fk x
 stays:∀ (w:World) (x:κ),ok x->(Instr.keyThatStays (fk x) (fk x)).run P w=.ok (fk x) w
 inj:∀ x y,ok x->ok y->fk x=fk y->x=y
structure KeyW {κ:Type} (P:Program) (k:TypeId) (fk:κ->Value) (ok:κ->Prop) (w:World):Prop where
 check:∀ (em:Bool) (x:κ),ok x->(Instr.checkKey em 10000 k (fk x)).run P w=.ok () w
 find:∀ (x:κ),ok x->∀ es:List MapEntry,(∀ e∈es,∃ y,ok y/\e.key=fk y) ->
  ((Instr.findKey k (fk x) es).run P w=.ok none w/\∀ e∈es,e.key≠fk x)∨∃ j e,(Instr.findKey k (fk x) es).run P w=.ok (some (j,e.val)) w/\es[j]? = some e/\e.key=fk x
 stays:∀ (x:κ),ok x->(Instr.keyThatStays (fk x) (fk x)).run P w=.ok (fk x) w
 inj:∀ x y,ok x->ok y->fk x=fk y->x=y
theorem KeyF.at {κ:Type} {P:Program} {k:TypeId} {fk:κ->Value} {ok:κ->Prop} (K:KeyF P k fk ok) (w:World):KeyW P k fk ok w:=⟨K.check w,K.find w,K.stays w,K.inj⟩
theorem KeyF.of {κ:Type} {P:Program} {k:TypeId} {fk:κ->Value} {ok:κ->Prop} (K:Keyed P k) (key:∀ x,ok x->∃ l,keyOf P k (fk x)=some l) (inj:∀ x y,ok x->ok y->fk x=fk y->x=y):KeyF P k fk ok where
 check w em x hx:=by obtain ⟨l,hl⟩:=key x hx; exact K.check w em hl
 find w x hx es he:=by
  obtain ⟨l,hl⟩:=key x hx
  refine K.find w hl es fun e he'=>?_
  obtain ⟨y,hy,e'⟩:=he e he'
  obtain ⟨l',hl'⟩:=key y hy
  exact ⟨l',by rw [e']; exact hl'⟩
 stays w x hx:=by obtain ⟨l,hl⟩:=key x hx; exact K.stays w hl
 inj:=inj
def okS (s:List UInt8):Prop:=s.length<=maxLen
theorem keyF_s {P:Program} {k:TypeId} (h:P.underlying k=some .string):KeyF P k vs okS :=
 KeyF.of (Go.Maps.string_keyed h) (fun x hx=>⟨_,Go.WideMaps.keyOf_string_mk h (s:=⟨⟨x⟩⟩) hx⟩) (fun x y _ _ h=>by unfold vs at h; injection h with h; injection h with h; injection h)
def MapB {κ ν:Type} (fk:κ->Value) (ok:κ->Prop) (fv:ν->Value) (w:World) (b:Nat) (m:List (κ × ν)):Prop :=
 ∃ es clock,w.heap[b]? = some (.map es clock)/\Stamped es clock/\es.size<=maxLen/\(∀ p∈m,ok p.1)/\es.toList.map (fun e=>(e.key,e.val))=m.map fun p=>(fk p.1,fv p.2)
section
variable {κ ν:Type} {P:Program} {k e t:TypeId} {fk:κ->Value} {ok:κ->Prop} {fv:ν->Value} {w w':World} {b:Nat} {m:List (κ × ν)} {row:Option Nat}
theorem MapB.lt (h:MapB fk ok fv w b m):b<w.heap.size:=by
 obtain ⟨es,clock,hb,_⟩:=h
 exact (Array.getElem?_eq_some_iff.1 hb).1
theorem MapB.lt' (h:MapB fk ok fv w b m):Lt (some b) w.heap.size:=Lt.box h.lt
theorem MapB.go (h:MapB fk ok fv w b m) (hg:w.grownBy w' row) (hd:Dj (some b) row):MapB fk ok fv w' b m:=by
 have hlt:=h.lt
 obtain ⟨es,clock,hb,r⟩:=h
 exact ⟨es,clock,(hg.block b hlt (fun e=>hd b rfl e.symm)).trans hb,r⟩
theorem MapB.g0 (h:MapB fk ok fv w b m) (hg:w.grownBy w' none):MapB fk ok fv w' b m:=h.go hg Dj.nr
theorem MapB.eqv (hw:Eqv w w') (h:MapB fk ok fv w b m):MapB fk ok fv w' b m:=h.g0 (qQ (qK w none) hw)
theorem MapB.len (h:MapB fk ok fv w b m):m.length<=maxLen:=by
 obtain ⟨es,clock,_,_,hs,_,he⟩:=h
 have:=congrArg List.length he
 simp at this
 omega
theorem MapB.uq (h:MapB fk ok fv w b m):Uq m:=by
 obtain ⟨es,clock,_,hst,_,_,he⟩:=h
 have h1:es.toList.map (·.key)=(m.map (·.1)).map fk:=by
  have:=congrArg (List.map Prod.fst) he
  simpa [Function.comp_def] using this
 have h2:=hst.2.2
 rw [h1] at h2
 unfold Uq
 rw [List.nodup_iff_pairwise_ne,List.pairwise_map] at h2
 rw [List.nodup_iff_pairwise_ne]
 exact h2.imp fun h e=>h (by rw [e])
variable [DecidableEq κ]
theorem MapB.find {es:Array MapEntry} {w:World} (K:KeyW P k fk ok w) (hst:Uq m) (hok:∀ p∈m,ok p.1) (he:es.toList.map (fun e=>(e.key,e.val))=m.map fun p=>(fk p.1,fv p.2)) {q:κ} (hq:ok q) :
  ((Instr.findKey k (fk q) es.toList).run P w=.ok none w/\mget m q=none/\∀ x∈es.toList,x.key≠fk q)∨∃ j v e0,(Instr.findKey k (fk q) es.toList).run P w=.ok (some (j,fv v)) w/\mget m q=some v/\m[j]? = some (q,v)/\es.toList[j]? = some e0/\e0.key=fk q:=by
 have hget:∀ (j:Nat),(es.toList[j]?).map (fun e=>(e.key,e.val))=(m[j]?).map fun p=>(fk p.1,fv p.2):=fun j=>by
  have:=congrArg (fun l=>l[j]?) he
  simpa using this
 rcases K.find q hq es.toList (fun e he'=>by
  obtain ⟨j,hj,rfl⟩:=List.getElem_of_mem he'
  have h1:=hget j
  rw [List.getElem?_eq_getElem hj] at h1
  simp only [Option.map_some] at h1
  obtain ⟨p,hp,hpe⟩:=Option.map_eq_some_iff.1 h1.symm
  exact ⟨p.1,hok p (List.mem_of_getElem? hp),(congrArg Prod.fst hpe).symm⟩) with ⟨h1,h2⟩ | ⟨j,e0,h1,h2,h3⟩
 ·refine .inl ⟨h1,mget_none.2 fun p hp hpq=>?_,h2⟩
  obtain ⟨j,hj,rfl⟩:=List.getElem_of_mem hp
  have h4:=hget j
  rw [List.getElem?_eq_getElem hj] at h4
  simp only [Option.map_some] at h4
  obtain ⟨x,hx,hxe⟩:=Option.map_eq_some_iff.1 h4
  have h5:x.key=fk m[j].1:=congrArg Prod.fst hxe
  exact h2 x (List.mem_of_getElem? hx) (by rw [h5,hpq])
 ·have h4:=hget j
  rw [h2] at h4
  simp only [Option.map_some] at h4
  obtain ⟨p,hp,hpe⟩:=Option.map_eq_some_iff.1 h4.symm
  have hpq:p.1=q:=K.inj _ _ (hok p (List.mem_of_getElem? hp)) hq ((congrArg Prod.fst hpe).trans h3)
  have hpv:fv p.2=e0.val:=congrArg Prod.snd hpe
  refine .inr ⟨j,p.2,e0,by rw [hpv]; exact h1,(mget_mem hst).2 (by rw [<-hpq]; exact List.mem_of_getElem? hp),by rw [hp,<-hpq],h2,h3⟩
theorem MapB.run_look (K:KeyW P k fk ok w) (h:MapB fk ok fv w b m) (ht:P.underlying t=some (.map k e)) {z:ν} (hz:(zeroValue e).run P w=.ok (fv z) w) {q:κ} (hq:ok q) (c:Bool) :
  (Instr.lookup t (.map (some b)) (fk q) c).run P w=.ok (if c then .tuple #[fv ((mget m q).getD z),.bool (mget m q).isSome] else fv ((mget m q).getD z)) w:=by
 have hu:=h.uq
 obtain ⟨es,clock,hb,hst,hs,hok,he⟩:=h
 rcases MapB.find K hu hok he hq with ⟨h1,h2,_⟩ | ⟨j,v,e0,h1,h2,_⟩
 ·cases c <;> simp [Instr.lookup,run_underlying ht,MapKept.run_getObj_map hb,K.check _ q hq,h1,h2,hz,Result.andThen]
 ·cases c <;> simp [Instr.lookup,run_underlying ht,MapKept.run_getObj_map hb,K.check _ q hq,h1,h2,Result.andThen]
theorem MapB.run_put (K:KeyW P k fk ok w) (h:MapB fk ok fv w b m) (ht:P.underlying t=some (.map k e)) (hn:m.length<maxLen) {q:κ} (hq:ok q) (v:ν) :
  ∃ w',(Instr.mapUpdate t (.map (some b)) (fk q) (fv v)).run P w=.ok () w'/\MapB fk ok fv w' b (mput m q v)/\w.grownBy w' (some b):=by
 have hu:=h.uq
 obtain ⟨es,clock,hb,hst,hs,hok,he⟩:=h
 have hlen:es.size=m.length:=by have:=congrArg List.length he; simpa using this
 have hok':∀ p∈mput m q v,ok p.1:=fun p hp=>by
  rcases mput_mem hp with rfl | hp
  ·exact hq
  ·exact hok p hp
 have hgr:∀ o,w.grownBy (setBlock w b o) (some b):=fun o=>⟨rfl,rfl,rfl,by simp [setBlock],fun i _ hi=>heap_setBlock_other hb _ (fun e=>hi (by rw [e]))⟩
 rcases MapB.find K hu hok he hq with ⟨h1,h2,h3⟩ | ⟨j,v0,e0,h1,h2,h3,h4,h5⟩
 ·refine ⟨setBlock w b (.map (es.push ⟨fk q,fv v,clock⟩) (clock+1)),?_,⟨es.push ⟨fk q,fv v,clock⟩,clock+1,heap_setBlock_same hb _,stamped_push hst h3,by simp; omega,hok',?_⟩,hgr _⟩
  ·simp [Instr.mapUpdate,run_underlying ht,MapKept.run_getObj_map hb,K.check false q hq,h1,MapKept.run_setObj_map _ hb,Result.andThen,setBlock]
  ·rw [mput_new h2,Array.toList_push,List.map_append,List.map_append,he]
   rfl
 ·have hj:es[j]? = some e0:=by simpa using h4
  have hkeyf:∀ e',es[j]? = some e'->({ e' with key:=fk q,val:=fv v }:MapEntry).key=e'.key:=fun e' he'=>by rw [hj] at he'; cases he'; exact h5.symm
  have hlist:(es.modify j (fun e'=>{ e' with key:=fk q,val:=fv v })).toList=es.toList.set j { e0 with key:=fk q,val:=fv v }:=by rw [Array.toList_modify,modify_eq_set _ _ _ _ h4]
  refine ⟨setBlock w b (.map (es.modify j (fun e'=>{ e' with key:=fk q,val:=fv v })) clock),?_,⟨es.modify j (fun e'=>{ e' with key:=fk q,val:=fv v }),clock,heap_setBlock_same hb _,stamped_modify hst _ _ (fun _ _=>rfl) (fun e' _ he'=>hkeyf e' he'),by simpa using hs,hok',?_⟩,hgr _⟩
  ·simp [Instr.mapUpdate,run_underlying ht,MapKept.run_getObj_map hb,K.check false q hq,h1,hj,h5,K.stays q hq,MapKept.run_setObj_map _ hb,Result.andThen,setBlock]
  ·rw [hlist,mput_set hu h3,List.map_set,List.map_set,he]
section
end
 omit [DecidableEq κ] in
theorem MapB.made (w:World) (fk:κ->Value) (ok:κ->Prop) (fv:ν->Value):MapB fk ok fv (w.alloc (.map #[] 0)) w.heap.size ([]:List (κ × ν)) :=
  ⟨#[],0,(MapKept.heap_alloc w _).1,stamped_empty 0,by simp,by simp,rfl⟩
variable {N:Nat} {L:qJ} {ty:TypeId} {pos:String} {af:Array Edge} {dd:Option Tmp} {x y u:Operand}
theorem qC (hK:KeyF P k fk ok) (ht:P.underlying t=some (.map k e)) {z:ν} (hz:∀ w,(zeroValue e).run P w=.ok (fv z) w) (hm:MapB fk ok fv w b m) (hx:opv L x=some (.map (some b))) {q:κ} (hy:opv L y=some (fk q)) (hq:ok q) :
  Yld P N w ⟨dd,.lookup t x y true,ty,pos,af,none⟩ L (.tuple #[fv ((mget m q).getD z),.bool (mget m q).isSome]):=fun a w1 hw ha=>by
 unfold execOp
 simp [ha.ev hx,ha.ev hy,(MapB.eqv hw hm).run_look (hK.at w1) ht (hz w1) hq true]
section
end
 omit [DecidableEq κ] in
theorem Eff.makeMap (fk:κ->Value) (ok:κ->Prop) (fv:ν->Value):Eff P N w ⟨dd,.makeMap t none,ty,pos,af,none⟩ L fun v w'=>v=.map (some w.heap.size)/\MapB fk ok fv w' w.heap.size ([]:List (κ × ν))/\w.grownBy w' none:=fun a w1 hw ha=>by
  refine ⟨_,w1.alloc (.map #[] 0),?_,rfl,?_,jz hw (gr_alloc w1 _ none)⟩
  · unfold execOp
    simp [run_makeMap]
    rw [hw.heap]
  · have:=MapB.made w1 fk ok fv
    rwa [hw.heap] at this
theorem Ef0.mapPut (hK:KeyF P k fk ok) (ht:P.underlying t=some (.map k e)) (hm:MapB fk ok fv w b m) (hn:m.length<maxLen) (hx:opv L x=some (.map (some b))) {q:κ} (hy:opv L y=some (fk q)) (hq:ok q) {v:ν} (hu:opv L u=some (fv v)) :
  Ef0 P N w ⟨none,.mapUpdate t x y u,ty,pos,af,none⟩ L fun w'=>MapB fk ok fv w' b (mput m q v)/\w.grownBy w' (some b):=fun a w1 hw ha=>by
 obtain ⟨w',h1,h2,h3⟩:=(MapB.eqv hw hm).run_put (hK.at w1) ht hn hq v
 refine ⟨w',?_,h2,jz hw h3⟩
 unfold execOp
 simp [ha.ev hx,ha.ev hy,ha.ev hu,h1]
theorem WL.ef0 {ops:Array Oper} {Q:Post} {rest:List Oper} {op:Op} {R:World->Prop} (hr:Ef0 P N w ⟨none,op,ty,pos,af,none⟩ L R) (hk:∀ w',R w'->WL P N ops Q rest L w'):WL P N ops Q (⟨none,op,ty,pos,af,none⟩ :: rest) L w:=WL.eff hr hk
end
end
 
section
open Go Go.RowKit
structure GrL (ps:List (Option Nat)) (w w':World):Prop where
 os:w'.os=w.os
 tape:w'.tape=w.tape
 output:w'.output=w.output
 size:w.heap.size<=w'.heap.size
 block:∀ i,i<w.heap.size->(∀ p,List.Mem p ps->p≠some i)->w'.heap[i]? = w.heap[i]?
def AllP (Q:Option Nat->Prop) (ps:List (Option Nat)):Prop:=∀ p,List.Mem p ps->Q p
theorem apN {Q:Option Nat->Prop}:AllP Q []:=fun _ h=>by cases h
theorem apC {Q:Option Nat->Prop} {p:Option Nat} {ps:List (Option Nat)} (h:Q p) (t:AllP Q ps):AllP Q (p :: ps):=fun x hx=>by
 cases hx with
 | head=>exact h
 | tail _ hx=>exact t x hx
def InP (ps:List (Option Nat)) (n:Nat) (p:Option Nat):Prop:=∀ g,p=some g->n<=g∨List.Mem (some g) ps
section
variable {ps qs:List (Option Nat)} {p p' q row:Option Nat} {n m:Nat} {a b c w w':World}
theorem InP.ge (h:Ge p n):InP ps n p:=fun g hg=>.inl (h g hg)
theorem InP.mem (h:List.Mem p ps):InP ps n p:=fun _ hg=>.inr (hg ▸ h)
theorem InP.none:InP ps n none:=fun _ h=>by cases h
theorem InP.app (h:InP ps n p) (k:∀ g,p'=some g->p=some g∨m<=g) (hm:n<=m):InP ps n p':=fun g hg=>by
 rcases k g hg with h1 | h1
 ·exact h g h1
 ·exact .inl (Nat.le_trans hm h1)
theorem InP.trans (h:InP qs m p) (k:AllP (InP ps n) qs) (hm:n<=m):InP ps n p:=fun g hg=>by
 rcases h g hg with h1 | h1
 ·exact .inl (Nat.le_trans hm h1)
 ·exact k _ h1 g rfl
theorem InP.dj (h:InP qs m p) (hq:Lt q m) (k:AllP (Dj q) qs):Dj p q:=fun g hg hqg=>by
 rcases h g hg with h1 | h1
 ·have:=hq g hqg; omega
 ·exact k _ h1 g hqg rfl
theorem InP.dn {α:Type} {xs:List α} (h:InP qs m p) (hq:xs≠[]->Lt q m) (k:AllP (Dn xs q) qs):Dn xs q p:=fun hx g hqg hg=>by
 rcases h g hg with h1 | h1
 ·have:=hq hx g hqg; omega
 ·exact k _ h1 hx g hqg rfl
theorem GrL.refl (w:World):GrL ps w w:=⟨rfl,rfl,rfl,Nat.le_refl _,fun _ _ _=>rfl⟩
theorem GrL.of0 (h:w.grownBy w' none):GrL ps w w':=⟨h.os,h.tape,h.output,h.size,fun i hi _=>h.block i hi (by simp)⟩
theorem GrL.of1 (h:w.grownBy w' row):GrL [row] w w':=⟨h.os,h.tape,h.output,h.size,fun i hi k=>h.block i hi fun e=>k row (List.Mem.head _) e.symm⟩
theorem GrL.toL (h:GrL [] w w'):w.grownBy w' none:=⟨h.os,h.tape,h.output,h.size,fun i hi _=>h.block i hi fun _ hp=>by cases hp⟩
theorem GrL.trans (h:GrL ps a b) (k:GrL ps b c):GrL ps a c :=
 ⟨k.os.trans h.os,k.tape.trans h.tape,k.output.trans h.output,Nat.le_trans h.size k.size,fun i hi hp=>(k.block i (Nat.lt_of_lt_of_le hi h.size) hp).trans (h.block i hi hp)⟩
theorem GrL.modL (h:GrL ps a b) (k:GrL qs b c) (hi:AllP (InP ps a.heap.size) qs):GrL ps a c :=
 ⟨k.os.trans h.os,k.tape.trans h.tape,k.output.trans h.output,Nat.le_trans h.size k.size,fun i hl hp=>(k.block i (Nat.lt_of_lt_of_le hl h.size) fun q hq e=>by
  rcases hi q hq i e with h1 | h1
  ·omega
  ·exact hp _ h1 rfl).trans (h.block i hl hp)⟩
theorem GrL.mod (h:GrL ps a b) (k:b.grownBy c row) (hi:InP ps a.heap.size row):GrL ps a c:=h.modL (GrL.of1 k) (apC hi apN)
theorem GrL.add0 (h:GrL ps a b) (k:b.grownBy c none):GrL ps a c:=h.trans (GrL.of0 k)
theorem gr_modL (h:a.grownBy b none) (k:GrL qs b c) (hi:AllP (fun q=>Ge q a.heap.size) qs):a.grownBy c none :=
 (GrL.modL (ps:=[]) (GrL.of0 h) k fun q hq=>InP.ge (hi q hq)).toL
theorem GrL.eqv (h:GrL ps a b) (k:Eqv b c):GrL ps a c:=h.add0 (qQ (qK b none) k)
theorem GrL.sizeL (h:GrL ps a b):a.heap.size<=b.heap.size:=h.size
theorem GrL.cell (h:GrL ps w w') {ad:Addr} {v:Value} (hc:w.cell? ad=some v) (hp:∀ p,List.Mem p ps->p≠some ad.block):w'.cell? ad=some v:=by
 have hlt:=World.block_lt_of_cell? w _ hc
 have:=h.block ad.block hlt hp
 unfold World.cell? at hc |-
 rw [this]; exact hc
variable {α:Type} {f:α->Value} {A:Option Addr} {B cc g k:Nat} {xs:List α} {e:TypeId} {us:List Value} {fk:α->List Value}
theorem Bl.goL (h:Bl w g e us) (hg:GrL ps w w') (hd:AllP (Dj (some g)) ps):Bl w' g e us:=(hg.block g h.lt fun p hp e=>hd p hp g rfl e).trans h
theorem Rd.goL (h:Rd f w A cc xs) (hg:GrL ps w w') (hd:AllP (Dn xs (blk A)) ps):Rd f w' A cc xs :=
 ⟨h.cap,h.max,fun hx=>by
  obtain ⟨ad,rfl,hc⟩:=h.cells hx
  refine ⟨ad,rfl,fun j x hj=>hg.cell (hc j x hj) fun p hp e=>?_⟩
  rw [addr_block] at e
  exact hd p hp hx ad.block rfl e⟩
theorem RdK.goL (h:RdK k fk w A cc xs) (hg:GrL ps w w') (hd:AllP (Dn xs (blk A)) ps):RdK k fk w' A cc xs :=
 ⟨h.ok,h.cap,h.max,fun hx=>by
  obtain ⟨g',o,rfl,hc⟩:=h.cells hx
  refine ⟨g',o,rfl,fun j x i u hj hi=>hg.cell (hc j x i u hj hi) fun p hp e=>?_⟩
  exact hd p hp hx g' rfl e⟩
theorem Own.goL (h:Own f w B e A cc xs) (hg:GrL ps w w') (hd:AllP (Dj (blk A)) ps):Own f w' B e A cc xs:=by
 have hlt:=h.lt'
 unfold Own at h |-
 refine ⟨h.1,?_⟩
 rcases h.2 with h2 | ⟨g,cap,cur,hv,hb,hg',r⟩
 ·exact .inl h2
 ·refine .inr ⟨g,cap,cur,hv,hb,?_,r⟩
  simp only [Value.slice.injEq] at hv
  obtain ⟨rfl,_⟩:=hv
  exact (hg.block g (hlt g rfl) fun p hp e=>hd p hp g rfl e).trans hg'
theorem OwnK.goL (h:OwnK k fk w B e A cc xs) (hg:GrL ps w w') (hd:AllP (Dj (blk A)) ps):OwnK k fk w' B e A cc xs:=by
 have hlt:=h.lt'
 refine ⟨h.1,h.2.1,?_⟩
 rcases h.2.2 with h2 | ⟨g,cap,cur,hv,hb,hg',r⟩
 ·exact .inl h2
 ·refine .inr ⟨g,cap,cur,hv,hb,?_,r⟩
  simp only [Value.slice.injEq] at hv
  obtain ⟨rfl,_⟩:=hv
  exact (hg.block g (hlt g rfl) fun p hp e=>hd p hp g rfl e).trans hg'
theorem MapB.goL {κ ν:Type} {mk:κ->Value} {ok:κ->Prop} {fv:ν->Value} {mm:List (κ × ν)} (h:MapB mk ok fv w g mm) (hg:GrL ps w w') (hd:AllP (Dj (some g)) ps):MapB mk ok fv w' g mm:=by
 have hlt:=h.lt
 obtain ⟨es,clock,hb,r⟩:=h
 exact ⟨es,clock,(hg.block g hlt (fun p hp e=>hd p hp g rfl e)).trans hb,r⟩
variable {S:List Nat}
def GB (S:List Nat) (B:Nat) (w:World):Prop:=∃ W,GOK S W/\W.heap.size<=B/\Below W.heap.size W w
theorem GB.ok (h:GB S B w):GOK S w:=by
 obtain ⟨W,h1,_,h3⟩:=h
 exact h1.grown (gr_below h3 none)
theorem GB.of (h:GOK S w):GB S w.heap.size w:=⟨w,h,Nat.le_refl _,Below.refl _ _⟩
theorem belowL {W:World} {n:Nat} (h3:Below n W w) (hn:n<=B) (hg:GrL ps w w') (hp:AllP (fun p=>Ge p B) ps) (hW:n<=W.heap.size):Below n W w':=by
 refine ⟨hg.os.trans h3.os,hg.tape.trans h3.tape,hg.output.trans h3.output,Nat.le_trans h3.size hg.size,fun i hi=>?_⟩
 refine (hg.block i (Nat.lt_of_lt_of_le (Nat.lt_of_lt_of_le hi hW) h3.size) fun p hm e=>?_).trans (h3.block i hi)
 have:=hp p hm i e
 omega
theorem GB.goL (h:GB S B w) (hg:GrL ps w w') (hp:AllP (fun p=>Ge p B) ps):GB S B w':=by
 obtain ⟨W,h1,h2,h3⟩:=h
 exact ⟨W,h1,h2,belowL h3 h2 hg hp (Nat.le_refl _)⟩
theorem GB.g0 (h:GB S B w) (hg:w.grownBy w' none):GB S B w':=h.goL (ps:=[]) (GrL.of0 hg) apN
theorem GB.mono {B':Nat} (h:GB S B w) (hB:B<=B'):GB S B' w:=by
 obtain ⟨W,h1,h2,h3⟩:=h
 exact ⟨W,h1,Nat.le_trans h2 hB,h3⟩
theorem GB.grown {W:World} (h:GOK S W) (hg:W.grownBy w none):GB S W.heap.size w:=⟨W,h,Nat.le_refl _,below_gr hg⟩
def NoAt (w:World) (p:Option Nat):Prop:=∀ g us,p=some g->¬ Bl w g 77 us
theorem NoAt.own (h:Own f w B e A cc xs) (ht:Nat.beq e 77=false):NoAt w (blk A):=fun g' us' hg' hB=>by
 rcases h.2 with ⟨hv,_⟩ | ⟨g,cap,cur,hv,_,hb,_⟩
 ·simp only [Value.slice.injEq] at hv
  obtain ⟨rfl,_⟩:=hv
  cases hg'
 ·simp only [Value.slice.injEq] at hv
  obtain ⟨rfl,_⟩:=hv
  cases hg'
  exact Bl.ne (us:=cur.toList) hb hB (Nat.ne_of_beq_eq_false ht) rfl
theorem NoAt.map {κ ν:Type} {mk:κ->Value} {ok:κ->Prop} {fv:ν->Value} {mm:List (κ × ν)} (h:MapB mk ok fv w g mm):NoAt w (some g):=fun g' us' hg' hB=>by
 cases hg'
 obtain ⟨es,clock,hb,_⟩:=h
 unfold Bl at hB
 rw [hb] at hB
 cases hB
end
end
 
section
open Go Go.RowKit
structure Hdr where
 A:Option Addr
 n:Nat
 c:Nat
def hd0:Hdr:=⟨none,0,0⟩
def vh (h:Hdr):Value:=.slice h.A h.n h.c
theorem One.h:One vh:=fun _=>rfl
structure DE (H X:Type) where
 rel:World->H->X->Prop
 dn:H->X->Option Nat->Prop
 goL:∀ {w w':World} {h:H} {x:X} {ps:List (Option Nat)},rel w h x->GrL ps w w'->AllP (dn h x) ps->rel w' h x
 new:∀ {w:World} {h:H} {x:X} {p:Option Nat},rel w h x->Ge p w.heap.size->dn h x p
 app:∀ {w:World} {h:H} {x:X} {ps:List (Option Nat)} {p:Option Nat},rel w h x->AllP (dn h x) ps->InP ps w.heap.size p->dn h x p
def DE.flat (X:Type):DE X X where
 rel _ h x:=h=x
 dn _ _ _:=True
 goL h _ _:=h
 new _ _:=trivial
 app _ _ _:=trivial
def DE.sl {α:Type} (f:α->Value):DE Hdr (List α) where
 rel w h x:=h.n=x.length/\Rd f w h.A h.c x
 dn h x p:=Dn x (blk h.A) p
 goL h k a:=⟨h.1,h.2.goL k a⟩
 new h k:=Dn.new (fun hx=>h.2.lt' hx) k
 app h a k:=InP.dn k (fun hx=>h.2.lt' hx) a
def DE.pr {H X K Y:Type} (d:DE H X) (e:DE K Y):DE (H × K) (X × Y) where
 rel w h x:=d.rel w h.1 x.1/\e.rel w h.2 x.2
 dn h x p:=d.dn h.1 x.1 p/\e.dn h.2 x.2 p
 goL h k a:=⟨d.goL h.1 k fun p hp=>(a p hp).1,e.goL h.2 k fun p hp=>(a p hp).2⟩
 new h k:=⟨d.new h.1 k,e.new h.2 k⟩
 app h a k:=⟨d.app h.1 (fun p hp=>(a p hp).1) k,e.app h.2 (fun p hp=>(a p hp).2) k⟩
def RelD {H X:Type} (d:DE H X) (w:World) (hs:List H) (xs:List X):Prop:=hs.length=xs.length/\∀ (i:Nat) (h:H) (x:X),hs[i]? = some h->xs[i]? = some x->d.rel w h x
def DnD {H X:Type} (d:DE H X) (hs:List H) (xs:List X) (p:Option Nat):Prop:=∀ (i:Nat) (h:H) (x:X),hs[i]? = some h->xs[i]? = some x->d.dn h x p
section
variable {H X:Type} {d:DE H X} {w w':World} {hs hs':List H} {xs xs':List X} {ps:List (Option Nat)} {p:Option Nat} {i:Nat} {h:H} {x:X} {row:Option Nat}
theorem RelD.goL (k:RelD d w hs xs) (hg:GrL ps w w') (a:AllP (DnD d hs xs) ps):RelD d w' hs xs:=⟨k.1,fun i h x hh hx=>d.goL (k.2 i h x hh hx) hg fun p hp=>a p hp i h x hh hx⟩
theorem RelD.go (k:RelD d w hs xs) (hg:w.grownBy w' row) (a:DnD d hs xs row):RelD d w' hs xs:=k.goL (GrL.of1 hg) (apC a apN)
theorem RelD.grown (k:RelD d w hs xs) (hg:w.grownBy w' none):RelD d w' hs xs:=k.goL (ps:=[]) (GrL.of0 hg) apN
theorem RelD.new (k:RelD d w hs xs) (hp:Ge p w.heap.size):DnD d hs xs p:=fun i h x hh hx=>d.new (k.2 i h x hh hx) hp
theorem RelD.inp (k:RelD d w hs xs) (a:AllP (DnD d hs xs) ps) (hp:InP ps w.heap.size p):DnD d hs xs p:=fun i h x hh hx=>d.app (k.2 i h x hh hx) (fun q hq=>a q hq i h x hh hx) hp
theorem RelD.app {p':Option Nat} (k:RelD d w hs xs) (a:DnD d hs xs p) (hk:∀ g,p'=some g->p=some g∨w.heap.size<=g):DnD d hs xs p':=fun i h x hh hx=>d.app (k.2 i h x hh hx) (ps:=[p]) (apC (a i h x hh hx) apN) (InP.app (ps:=[p]) (InP.mem (List.Mem.head _)) hk (Nat.le_refl _))
theorem RelD.nil:RelD d w [] []:=⟨rfl,fun i h x hh=>by simp at hh⟩
theorem DnD.nil:DnD d [] [] p:=fun i h x hh=>by simp at hh
theorem DnD.none (k:RelD d w hs xs):DnD d hs xs none:=k.new Ge.none
theorem RelD.cons (k:d.rel w h x) (t:RelD d w hs xs):RelD d w (h :: hs) (x :: xs):=⟨by simp [t.1],fun i h' x' hh hx=>by
 cases i with
 | zero=>simp only [List.getElem?_cons_zero,Option.some.injEq] at hh hx; subst hh; subst hx; exact k
 | succ i=>exact t.2 i h' x' (by simpa using hh) (by simpa using hx)⟩
theorem DnD.cons (k:d.dn h x p) (t:DnD d hs xs p):DnD d (h :: hs) (x :: xs) p:=fun i h' x' hh hx=>by
 cases i with
 | zero=>simp only [List.getElem?_cons_zero,Option.some.injEq] at hh hx; subst hh; subst hx; exact k
 | succ i=>exact t i h' x' (by simpa using hh) (by simpa using hx)
theorem RelD.append (k:RelD d w hs xs) (t:RelD d w hs' xs'):RelD d w (hs++hs') (xs++xs'):=⟨by simp [k.1,t.1],fun i h x hh hx=>by
 by_cases hi:i<hs.length
 ·rw [List.getElem?_append_left hi] at hh
  rw [List.getElem?_append_left (by rw [<-k.1]; exact hi)] at hx
  exact k.2 i h x hh hx
 ·rw [List.getElem?_append_right (by omega)] at hh
  rw [List.getElem?_append_right (by rw [<-k.1]; omega),<-k.1] at hx
  exact t.2 _ h x hh hx⟩
theorem DnD.append (hl:hs.length=xs.length) (k:DnD d hs xs p) (t:DnD d hs' xs' p):DnD d (hs++hs') (xs++xs') p:=fun i h x hh hx=>by
 by_cases hi:i<hs.length
 ·rw [List.getElem?_append_left hi] at hh
  rw [List.getElem?_append_left (by rw [<-hl]; exact hi)] at hx
  exact k i h x hh hx
 ·rw [List.getElem?_append_right (by omega)] at hh
  rw [List.getElem?_append_right (by rw [<-hl]; omega),<-hl] at hx
  exact t _ h x hh hx
theorem RelD.rep (n:Nat) (k:d.rel w h x):RelD d w (List.replicate n h) (List.replicate n x):=⟨by simp,fun i h' x' hh hx=>by
 rw [List.getElem?_replicate] at hh hx
 split at hh
 ·simp only [Option.some.injEq] at hh
  rw [if_pos (by assumption)] at hx
  simp only [Option.some.injEq] at hx
  subst hh; subst hx; exact k
 ·cases hh⟩
theorem DnD.rep (n:Nat) (k:d.dn h x p):DnD d (List.replicate n h) (List.replicate n x) p:=fun i h' x' hh hx=>by
 rw [List.getElem?_replicate] at hh hx
 split at hh
 ·simp only [Option.some.injEq] at hh
  rw [if_pos (by assumption)] at hx
  simp only [Option.some.injEq] at hx
  subst hh; subst hx; exact k
 ·cases hh
theorem RelD.set (k:RelD d w hs xs) (t:d.rel w h x) (j:Nat):RelD d w (hs.set j h) (xs.set j x):=⟨by simp [k.1],fun i h' x' hh hx=>by
 rw [List.getElem?_set] at hh hx
 by_cases hj:j=i
 ·subst hj
  rw [if_pos rfl] at hh hx
  split at hh
  ·split at hx
   ·simp only [Option.some.injEq] at hh hx
    subst hh; subst hx; exact t
   ·cases hx
  ·cases hh
 ·rw [if_neg hj] at hh hx
  exact k.2 i h' x' hh hx⟩
theorem DnD.set (k:DnD d hs xs p) (t:d.dn h x p) (j:Nat):DnD d (hs.set j h) (xs.set j x) p:=fun i h' x' hh hx=>by
 rw [List.getElem?_set] at hh hx
 by_cases hj:j=i
 ·subst hj
  rw [if_pos rfl] at hh hx
  split at hh
  ·split at hx
   ·simp only [Option.some.injEq] at hh hx
    subst hh; subst hx; exact t
   ·cases hx
  ·cases hh
 ·rw [if_neg hj] at hh hx
  exact k i h' x' hh hx
def NewD (d:DE H X) (hs:List H) (xs:List X) (n:Nat):Prop:=∀ p:Option Nat,(∀ g,p=some g->g<n)->DnD d hs xs p
theorem NewD.nil {n:Nat}:NewD d [] [] n:=fun _ _=>DnD.nil
theorem NewD.append {n:Nat} (hl:hs.length=xs.length) (a:NewD d hs xs n) (b:NewD d hs' xs' n):NewD d (hs++hs') (xs++xs') n:=fun p hp=>DnD.append hl (a p hp) (b p hp)
theorem NewD.cons {n:Nat} (a:∀ p:Option Nat,(∀ g,p=some g->g<n)->d.dn h x p) (b:NewD d hs xs n):NewD d (h :: hs) (x :: xs) n:=fun p hp=>DnD.cons (a p hp) (b p hp)
theorem NewD.le {n m:Nat} (a:NewD d hs xs n) (h:m<=n):NewD d hs xs m:=fun p hp=>a p fun g e=>Nat.lt_of_lt_of_le (hp g e) h
theorem RelD.drop (k:RelD d w hs xs) (n:Nat):RelD d w (hs.drop n) (xs.drop n):=⟨by simp [k.1],fun i h x hh hx=>k.2 (n+i) h x (by simpa [List.getElem?_drop] using hh) (by simpa [List.getElem?_drop] using hx)⟩
theorem DnD.drop (k:DnD d hs xs p) (n:Nat):DnD d (hs.drop n) (xs.drop n) p:=fun i h x hh hx=>k (n+i) h x (by simpa [List.getElem?_drop] using hh) (by simpa [List.getElem?_drop] using hx)
theorem RelD.take (k:RelD d w hs xs) (n:Nat):RelD d w (hs.take n) (xs.take n):=⟨by simp [k.1],fun i h x hh hx=>by
 rw [List.getElem?_take] at hh hx
 split at hh
 ·rw [if_pos (by assumption)] at hx; exact k.2 i h x hh hx
 ·cases hh⟩
theorem DnD.take (k:DnD d hs xs p) (n:Nat):DnD d (hs.take n) (xs.take n) p:=fun i h x hh hx=>by
 rw [List.getElem?_take] at hh hx
 split at hh
 ·rw [if_pos (by assumption)] at hx; exact k i h x hh hx
 ·cases hh
theorem RelD.at (k:RelD d w hs xs) (dh:H) (dx:X) {j:Nat} (hj:j<xs.length):∃ h,hs.getD j dh=h/\d.rel w h (xs.getD j dx):=by
 have hj2:j<hs.length:=by rw [k.1]; exact hj
 refine ⟨_,rfl,k.2 j _ _ ?_ ?_⟩
 ·simp [List.getD,hj2]
 ·simp [List.getD,hj]
theorem DnD.at (k:DnD d hs xs p) (hl:hs.length=xs.length) {dh:H} {dx:X} {j:Nat} (hj:j<xs.length) {h:H} (hh:hs.getD j dh=h):d.dn h (xs.getD j dx) p:=by
 have hj2:j<hs.length:=by rw [hl]; exact hj
 subst hh
 exact k j _ _ (by simp [List.getD,hj2]) (by simp [List.getD,hj])
end
section
variable {P:Program} {N:Nat} {L:qJ} {w:World} {o:Oper} {u v:Value}
theorem qk (h:Yld P N w o L u) (e:u=v):Yld P N w o L v:=e ▸ h
end
section
variable {P:Program} {N:Nat} {L:qJ} {w:World}
theorem qo {T:Tab} {fn:Func} {R:Value->World->Prop} {s s2 g m:Nat} {t e:TypeId} {us:List Value} {v2:Value} (hT:T.Ok P) (hr:fn.results = #[.tmp s2,.cell s t]) (h2:lk L s2=some v2) (hs:nk T.agg t=some m) (hv:lk L s=some (.pointer (some ⟨g,0,none⟩))) (hB:Bl w g e us) (hm:us.length=m)
  (hR:R (.tuple #[v2,.agg ⟨us⟩]) w):WX N (RetPost P fn R) .ret L w:=fun a w1 hw ha=>by
 obtain ⟨⟨de,hu,hrow⟩,j,hj,hj1⟩:=hT.agg hs
 have hrow':de.isRow=true:=by cases de <;> simp_all [isRow]
 have hl:=run_loadVar_mid (P:=P) w1 g 0 t us de (fun p v hv'=>by rw [hw.cell,hB.cell,<-hv',Nat.zero_add]) hu hrow' (by simp [hj,hj1,hm])
 have hp:=ha.get s _ hv
 have hp2:=ha.get s2 _ h2
 refine ⟨ha.defers,.tuple #[v2,.agg ⟨us⟩],?_,_,w,rfl,hw,hR⟩
 have hp':a.tmps[s]?.getD undef=.pointer (some ⟨g,0,none⟩):=by simpa using hp
 have hp2':a.tmps[s2]?.getD undef=v2:=by simpa using hp2
 simp [results,hr,hp',hp2',asAddr,hl]
end
end
 
section
open Go Go.RowKit Go.WideShapes Go.ChangeShapes Go.ChangeAt Go.Joins Go.Deep
instance :Inhabited Hdr:=⟨hd0⟩
section
variable {H:Type} {enc:TypeId × Value->H} {P:Program} {W:World}
theorem open_rds1 {t e:TypeId} {fuel:Nat} {v:Value} {x:DataW H × List MemPlace} (ht:P.underlying t=some (.slice e)) (he:P.underlying e=some .string) (hc:P.cellsOf e=1)
  (h:DataW.trod enc P W 0 (fun _=>true) true fuel t [v]=some x):∃ A c l,v=.slice A l.length c/\Rd vs W A c l/\(∀ x∈l,x.length<=maxLen):=by
 rcases open_strings ht he hc h with ⟨hcs,hx⟩ | ⟨a,len',cap',ss,hcs,_,hl,hm,hz,hx,hcell,hws⟩
 ·simp only [List.cons.injEq,and_true] at hcs
  subst hcs
  exact ⟨none,0,[],rfl,Rd.nil _ _ (by simp [maxLen]),by simp⟩
 ·simp only [List.cons.injEq,and_true] at hcs
  subst hcs
  simp only [if_true] at hz
  have hlen:((ss.take len').map fun s=>s.data.toList).length=len':=by rw [List.length_map,List.length_take]; omega
  refine ⟨some a,cap',(ss.take len').map fun s=>s.data.toList,by rw [hlen],⟨by rw [hlen]; exact hl,hm,fun _=>⟨a,rfl,fun j x hj=>?_⟩⟩,fun x hx=>?_⟩
  ·rw [List.getElem?_map,List.getElem?_take] at hj
   split at hj
   ·rename_i hlt
    have hjs:j<ss.length:=by omega
    have h1:=hcell j hjs
    rw [List.getElem?_eq_getElem hjs] at hj
    simp only [Option.map_some,Option.some.injEq] at hj
    have hg:ss.getD j ByteArray.empty=ss[j]:=by rw [List.getD_eq_getElem?_getD,List.getElem?_eq_getElem hjs]; rfl
    rw [h1,<-hj,hg]
    rfl
   ·cases hj
  ·obtain ⟨s,hs,rfl⟩:=List.mem_map.mp hx
   exact hws s (List.mem_of_mem_take hs)
theorem rel_choose {α β:Type} {d:DE α β} {Q:β->Prop}:∀ {hs:List α},(∀ h∈hs,∃ x,d.rel W h x/\Q x)->∃ xs,RelD d W hs xs/\∀ x∈xs,Q x
 | [],_=>⟨[],RelD.nil,fun x hx=>by cases hx⟩
 | h :: hs,hh=>by
  obtain ⟨x,h1,h2⟩:=hh h (List.mem_cons_self ..)
  obtain ⟨xs,h3,h4⟩:=rel_choose fun h' hm=>hh h' (List.mem_cons_of_mem _ hm)
  refine ⟨x :: xs,RelD.cons h1 h3,fun y hy=>?_⟩
  rcases List.mem_cons.1 hy with rfl | hy
  ·exact h2
  ·exact h4 y hy
theorem open_rdF {α β:Type} [Inhabited α] {k:Nat} {f:α->List Value} {de:DE α β} {Q:β->Prop} {b0:Nat} {t e:TypeId} {v:Value} {d:DataW H} {p:List MemPlace} (hf:OneK k f) (ht:P.underlying t=some (.slice e)) (hc:P.cellsOf e=k)
  (hE:∀ n cs y,DataW.trod enc P W 0 (fun _=>true) true n e cs=some y->cs.length=k->∃ h x,cs=f h/\de.rel W h x/\Q x)
  (hval:Value.okWide P W .any b0 t v) (h:DataW.Trod enc P W 0 (fun _=>true) true t v d p):∃ A c hs xs,v=.slice A xs.length c/\RdK k f W A c hs/\RelD de W hs xs/\∀ x∈xs,Q x:=by
 obtain ⟨A,c,hs,hv,hR,hq⟩:=open_rdK (Q:=fun h=>∃ x,de.rel W h x/\Q x) hf ht hc (fun n cs y h1 h2=>by
  obtain ⟨h,x,e1,e2,e3⟩:=hE n cs y h1 h2
  exact ⟨h,e1,x,e2,e3⟩) hval h
 obtain ⟨xs,h3,h4⟩:=rel_choose hq
 exact ⟨A,c,hs,xs,by rw [hv,h3.1],hR,h3,h4⟩
end
end
 
section
open Go Go.RowKit
def enc67 (x:List UInt8 × List UInt8):List Value:=[vs x.1,vs x.2]
theorem enc67_ok:OneK 2 enc67:=⟨by omega,fun _=>rfl,fun _=>(qG rfl (qG rfl qR))⟩
def enc47 (x:Int × List UInt8 × List UInt8):List Value:=[.int .i64 x.1,vs x.2.1]++a32 x.2.2
theorem enc47_ok:OneK 34 enc47:=⟨by omega,fun _=>rfl,fun _=>(qG rfl (qG rfl (kt _)))⟩
def enc49 (x:Int × List UInt8 × List UInt8):List Value:=[.int .i64 x.1,vs x.2.1]++a32 x.2.2
theorem enc49_ok:OneK 34 enc49:=⟨by omega,fun _=>rfl,fun _=>(qG rfl (qG rfl (kt _)))⟩
theorem ow23:ckOwK Tryz.prog 23 67 2 32=true:=by kernel_rfl
theorem ow38:ckOwK Tryz.prog 38 47 34 56=true:=by kernel_rfl
theorem ow40:ckOwK Tryz.prog 40 49 34 56=true:=by kernel_rfl
theorem ow99:ckOwK Tryz.prog 99 44 32 32=true:=by kernel_rfl
theorem ow119:ckOwK Tryz.prog 119 45 32 32=true:=by kernel_rfl
end
 
section
open Go Go.RowKit
abbrev de64:DE (Int × Hdr × Hdr × List UInt8) (Int × List (List UInt8) × List (List UInt8) × List UInt8):=(DE.pr (DE.flat Int) (DE.pr (DE.sl vs) (DE.pr (DE.sl vs) (DE.flat (List UInt8)))))
def qP (h:Int × Hdr × Hdr × List UInt8):List Value:=[.int .i64 h.1,vh h.2.1,vh h.2.2.1,vs h.2.2.2]
theorem Zl:OneK 4 qP:=⟨by omega,fun _=>rfl,fun _=>(qG rfl (qG rfl (qG rfl (qG rfl qR))))⟩
abbrev de24:DE (Hdr) (List Int):=(DE.sl vi)
theorem ow22:ckOwK Tryz.prog 22 64 4 72=true:=by kernel_rfl
end
 end Go.Proofs.YtjobklaengaamaaGreatDoor

namespace Go.Proofs
open Go.Shelf
def Tryz.sorted158_ren:Go.Shelf.Ren:=⟨fun | 6=>158 | 8=>175 | 9=>176 | 11=>191 | 13=>61 | 12=>192 | 23=>90 | 24=>91 | 14=>200 | 15=>201 | 16=>202 | 17=>203 | 18=>204 | 19=>205 | 20=>206 | 21=>207 | 22=>208 | 25=>211 | 26=>122 | 27=>123 | 28=>212 | 29=>213 | 30=>214 | 31=>215 | n=>n,fun | 26=>9 | 28=>204 | 24=>42 | 0=>0 | 3=>3 | 37=>106 | 48=>126 | 50=>127 | 4=>4 | 40=>137 | 39=>136 | 45=>79 | 5=>5 | 9=>9 | 51=>166 | 55=>170 | 57=>192 | 58=>185 | 33=>86 | n=>n,fun | n=>n⟩
theorem Tryz.sorted158:Go.Proofs.SlLaysZ.n6 Tryz.prog Tryz.sorted158_ren:={
 mixed:=by kernel_rfl
 f6:=⟨Tryz.f158.name,by decide,Tryz.func158.trans (congrArg some (by kernel_rfl))⟩
 f8:=⟨Tryz.f175.name,by decide,Tryz.func175.trans (congrArg some (by kernel_rfl))⟩
 f11:=⟨Tryz.f191.name,by decide,Tryz.func191.trans (congrArg some (by kernel_rfl))⟩
 t0:=Tryz.underlying0
 a0:=Tryz.isAgg0
 z0:=Tryz.sizeOf0
 v0:=Tryz.zeroValue0
 t24:=Tryz.underlying42
 a24:=Tryz.isAgg42
 z24:=Tryz.sizeOf42
 v24:=Tryz.zeroValue42
 t26:=Tryz.underlying9
 a26:=Tryz.isAgg9
 z26:=Tryz.sizeOf9
 v26:=Tryz.zeroValue9
 t28:=Tryz.underlying204
 a28:=Tryz.isAgg204
 z28:=Tryz.sizeOf204
 v28:=Tryz.zeroValue204
 i26:=by kernel_rfl }
def Tryz.lays169_ren:Go.Shelf.Ren:=⟨fun | 169=>137 | n=>n,fun | 70=>179 | 9=>9 | 0=>0 | 72=>181 | 37=>105 | 127=>207 | 3=>3 | 5=>5 | n=>n,fun | n=>n⟩
theorem Tryz.lays169:Go.Proofs.Lays.n169 Tryz.prog Tryz.lays169_ren:={
 mixed:=by kernel_rfl
 f169:=Tryz.func137.trans (congrArg some (by kernel_rfl))
 t0:=Tryz.underlying0
 a0:=Tryz.isAgg0
 z0:=Tryz.sizeOf0
 v0:=Tryz.zeroValue0
 t3:=Tryz.underlying3
 a3:=Tryz.isAgg3
 z3:=Tryz.sizeOf3
 v3:=Tryz.zeroValue3
 t9:=Tryz.underlying9
 a9:=Tryz.isAgg9
 z9:=Tryz.sizeOf9
 v9:=Tryz.zeroValue9
 t37:=Tryz.underlying105
 a37:=Tryz.isAgg105
 z37:=Tryz.sizeOf105
 v37:=Tryz.zeroValue105
 t70:=Tryz.underlying179
 a70:=Tryz.isAgg179
 z70:=Tryz.sizeOf179
 v70:=Tryz.zeroValue179
 t72:=Tryz.underlying181
 a72:=Tryz.isAgg181
 z72:=Tryz.sizeOf181
 v72:=Tryz.zeroValue181
 t127:=Tryz.underlying207
 a127:=Tryz.isAgg207
 z127:=Tryz.sizeOf207
 v127:=Tryz.zeroValue207 }
theorem Tryz.Builder_Extra_169:Builder.Extra Tryz.prog Tryz.lays169_ren:={
 sizeBuilder:=by kernel_rfl
 liesBuilder:=by kernel_rfl
 t5:=Tryz.underlying5
 a5:=Tryz.isAgg5
 z5:=Tryz.sizeOf5
 v5:=Tryz.zeroValue5
 infoByte:=by kernel_rfl
 cellsByte:=by kernel_rfl
 sizeByte:=by kernel_rfl
 neB5:=by decide }
open Go.RowKit in
theorem Tryz.Builder_String_any (B b:Nat) (l:List UInt8) (w:World) (h:Lib.IsBuilder 181 5 B b (Lib.byteCells l) w) (hBw:B<=w.heap.size) :
  Calls Tryz.prog 137 #[.pointer (some ⟨b,0,none⟩)] w fun e w'=>e=.returned (.string ⟨l.toArray⟩)/\Below B w w':=Any.Builder_String_any Tryz.lays169 Tryz.Builder_Extra_169 B b l w h hBw
def Tryz.lays106_ren:Go.Shelf.Ren:=⟨fun | 106=>53 | 213=>77 | 265=>117 | n=>n,fun | 9=>9 | 3=>3 | n=>n,fun | n=>n⟩
theorem Tryz.lays106:Go.Proofs.Lays.n106 Tryz.prog Tryz.lays106_ren:={
 mixed:=by kernel_rfl
 f106:=Tryz.func53.trans (congrArg some (by kernel_rfl))
 f213:=Tryz.func77.trans (congrArg some (by kernel_rfl))
 f265:=Tryz.func117.trans (congrArg some (by kernel_rfl))
 t3:=Tryz.underlying3
 a3:=Tryz.isAgg3
 z3:=Tryz.sizeOf3
 v3:=Tryz.zeroValue3
 t9:=Tryz.underlying9
 a9:=Tryz.isAgg9
 z9:=Tryz.sizeOf9
 v9:=Tryz.zeroValue9 }
open Go.RowKit in
theorem Tryz.strings_Compare (a b:ByteArray) (w:World) :
  Calls Tryz.prog 53 #[.string a,.string b] w fun e w'=>e=.returned (.int .i64 (Lib.compareBytes a.data.toList b.data.toList))/\w'=w:=Any.strings_Compare Tryz.lays106 a b w
def Tryz.lays137_ren:Go.Shelf.Ren:=⟨fun | 137=>147 | 217=>168 | 266=>187 | n=>n,fun | 9=>9 | 5=>5 | 3=>3 | n=>n,fun | n=>n⟩
theorem Tryz.lays137:Go.Proofs.Lays.n137 Tryz.prog Tryz.lays137_ren:={
 mixed:=by kernel_rfl
 f137:=Tryz.func147.trans (congrArg some (by kernel_rfl))
 f217:=Tryz.func168.trans (congrArg some (by kernel_rfl))
 f266:=Tryz.func187.trans (congrArg some (by kernel_rfl))
 t3:=Tryz.underlying3
 a3:=Tryz.isAgg3
 z3:=Tryz.sizeOf3
 v3:=Tryz.zeroValue3
 t5:=Tryz.underlying5
 a5:=Tryz.isAgg5
 z5:=Tryz.sizeOf5
 v5:=Tryz.zeroValue5
 t9:=Tryz.underlying9
 a9:=Tryz.isAgg9
 z9:=Tryz.sizeOf9
 v9:=Tryz.zeroValue9 }
open Go.RowKit in
theorem Tryz.strings_IndexByte (s:ByteArray) (c:Int) (w:World) :
  Calls Tryz.prog 147 #[.string s,.int .u8 c] w fun e w'=>e=.returned (.int .i64 (Lib.indexByte s.data.toList c.toNat.toUInt8))/\w'=w:=Any.strings_IndexByte Tryz.lays137 s c w
def Tryz.laysM171_ren:Go.Shelf.Ren:=⟨fun | 171=>102 | 243=>138 | 246=>163 | 283=>179 | 284=>180 | 285=>181 | 286=>182 | 129=>91 | 317=>193 | 318=>194 | 319=>195 | 320=>196 | 337=>209 | 338=>210 | n=>n,fun | 3=>3 | 9=>9 | 2=>2 | 4=>4 | 171=>222 | 0=>0 | 53=>127 | 37=>105 | 5=>5 | 173=>224 | 212=>230 | 51=>126 | 20=>20 | 213=>231 | 46=>106 | 232=>44 | 233=>245 | n=>n,fun | 17=>7 | 18=>10 | 19=>11 | n=>n⟩
theorem Tryz.laysM171:Go.Proofs.LaysM.n171 Tryz.prog Tryz.laysM171_ren:={
 mixed:=by kernel_rfl
 f129:=Tryz.func91.trans (congrArg some (by kernel_rfl))
 f171:=Tryz.func102.trans (congrArg some (by kernel_rfl))
 f243:=Tryz.func138.trans (congrArg some (by kernel_rfl))
 f246:=Tryz.func163.trans (congrArg some (by kernel_rfl))
 f283:=Tryz.func179.trans (congrArg some (by kernel_rfl))
 f284:=Tryz.func180.trans (congrArg some (by kernel_rfl))
 f285:=Tryz.func181.trans (congrArg some (by kernel_rfl))
 f286:=Tryz.func182.trans (congrArg some (by kernel_rfl))
 f317:=Tryz.func193.trans (congrArg some (by kernel_rfl))
 f318:=Tryz.func194.trans (congrArg some (by kernel_rfl))
 f319:=Tryz.func195.trans (congrArg some (by kernel_rfl))
 f320:=Tryz.func196.trans (congrArg some (by kernel_rfl))
 f337:=Tryz.func209.trans (congrArg some (by kernel_rfl))
 f338:=Tryz.func210.trans (congrArg some (by kernel_rfl))
 t0:=Tryz.underlying0
 a0:=Tryz.isAgg0
 z0:=Tryz.sizeOf0
 v0:=Tryz.zeroValue0
 t2:=Tryz.underlying2
 a2:=Tryz.isAgg2
 z2:=Tryz.sizeOf2
 v2:=Tryz.zeroValue2
 t3:=Tryz.underlying3
 a3:=Tryz.isAgg3
 z3:=Tryz.sizeOf3
 v3:=Tryz.zeroValue3
 t4:=Tryz.underlying4
 a4:=Tryz.isAgg4
 z4:=Tryz.sizeOf4
 v4:=Tryz.zeroValue4
 t5:=Tryz.underlying5
 a5:=Tryz.isAgg5
 z5:=Tryz.sizeOf5
 v5:=Tryz.zeroValue5
 t9:=Tryz.underlying9
 a9:=Tryz.isAgg9
 z9:=Tryz.sizeOf9
 v9:=Tryz.zeroValue9
 t20:=Tryz.underlying20
 a20:=Tryz.isAgg20
 z20:=Tryz.sizeOf20
 v20:=Tryz.zeroValue20
 t37:=Tryz.underlying105
 a37:=Tryz.isAgg105
 z37:=Tryz.sizeOf105
 v37:=Tryz.zeroValue105
 t46:=Tryz.underlying106
 a46:=Tryz.isAgg106
 z46:=Tryz.sizeOf106
 v46:=Tryz.zeroValue106
 t51:=Tryz.underlying126
 a51:=Tryz.isAgg126
 z51:=Tryz.sizeOf126
 v51:=Tryz.zeroValue126
 t53:=Tryz.underlying127
 a53:=Tryz.isAgg127
 z53:=Tryz.sizeOf127
 v53:=Tryz.zeroValue127
 t171:=Tryz.underlying222
 a171:=Tryz.isAgg222
 z171:=Tryz.sizeOf222
 v171:=Tryz.zeroValue222
 t173:=Tryz.underlying224
 a173:=Tryz.isAgg224
 z173:=Tryz.sizeOf224
 v173:=Tryz.zeroValue224
 t212:=Tryz.underlying230
 a212:=Tryz.isAgg230
 z212:=Tryz.sizeOf230
 v212:=Tryz.zeroValue230
 t213:=Tryz.underlying231
 a213:=Tryz.isAgg231
 z213:=Tryz.sizeOf231
 t232:=Tryz.underlying44
 a232:=Tryz.isAgg44
 z232:=Tryz.sizeOf44
 v232:=Tryz.zeroValue44
 t233:=Tryz.underlying245
 a233:=Tryz.isAgg245
 z233:=Tryz.sizeOf245
 v233:=Tryz.zeroValue245
 g17:=by kernel_rfl
 g18:=by kernel_rfl
 g19:=by kernel_rfl
 i0:=by kernel_rfl
 i2:=by kernel_rfl
 i3:=by kernel_rfl
 i4:=by kernel_rfl
 i5:=by kernel_rfl
 i9:=by kernel_rfl
 i20:=by kernel_rfl
 i37:=by kernel_rfl
 i46:=by kernel_rfl
 i51:=by kernel_rfl
 i53:=by kernel_rfl
 i171:=by kernel_rfl
 i173:=by kernel_rfl
 i212:=by kernel_rfl
 i232:=by kernel_rfl
 i233:=by kernel_rfl
 m17:=by kernel_rfl
 m18:=by kernel_rfl
 m19:=by kernel_rfl }
open Go.RowKit Go.Sort Go.Lib in
theorem Tryz.strconv_Itoa (n:Int) (h0 : -9223372036854775808<=n) (h1:n<=9223372036854775807) (w:World) (htab:Lib.TabIs Tryz.prog w "internal/strconv.uint64pow10" .u64 Lib.pow10Tab) :
  Calls Tryz.prog 102 #[.int .i64 n] w fun e w'=>e=.returned (.string ⟨(Lib.itoa n).toArray⟩)/\∃ k os,w'=grow (w.drewN k) os:=Any.strconv_Itoa Tryz.laysM171 n h0 h1 w htab
def Tryz.lays144_ren:Go.Shelf.Ren:=⟨fun | 144=>155 | 143=>146 | 219=>167 | 217=>168 | 225=>184 | 224=>185 | 267=>186 | 266=>187 | 314=>197 | n=>n,fun | 9=>9 | 4=>4 | 3=>3 | 5=>5 | 46=>106 | 146=>236 | 51=>126 | n=>n,fun | 1=>6 | n=>n⟩
theorem Tryz.lays144:Go.Proofs.Lays.n144 Tryz.prog Tryz.lays144_ren:={
 mixed:=by kernel_rfl
 f143:=Tryz.func146.trans (congrArg some (by kernel_rfl))
 f144:=Tryz.func155.trans (congrArg some (by kernel_rfl))
 f217:=Tryz.func168.trans (congrArg some (by kernel_rfl))
 f219:=Tryz.func167.trans (congrArg some (by kernel_rfl))
 f224:=Tryz.func185.trans (congrArg some (by kernel_rfl))
 f225:=Tryz.func184.trans (congrArg some (by kernel_rfl))
 f266:=Tryz.func187.trans (congrArg some (by kernel_rfl))
 f267:=Tryz.func186.trans (congrArg some (by kernel_rfl))
 f314:=Tryz.func197.trans (congrArg some (by kernel_rfl))
 t3:=Tryz.underlying3
 a3:=Tryz.isAgg3
 z3:=Tryz.sizeOf3
 v3:=Tryz.zeroValue3
 t4:=Tryz.underlying4
 a4:=Tryz.isAgg4
 z4:=Tryz.sizeOf4
 v4:=Tryz.zeroValue4
 t5:=Tryz.underlying5
 a5:=Tryz.isAgg5
 z5:=Tryz.sizeOf5
 v5:=Tryz.zeroValue5
 t9:=Tryz.underlying9
 a9:=Tryz.isAgg9
 z9:=Tryz.sizeOf9
 v9:=Tryz.zeroValue9
 t46:=Tryz.underlying106
 a46:=Tryz.isAgg106
 z46:=Tryz.sizeOf106
 v46:=Tryz.zeroValue106
 t51:=Tryz.underlying126
 a51:=Tryz.isAgg126
 z51:=Tryz.sizeOf126
 v51:=Tryz.zeroValue126
 t146:=Tryz.underlying236
 a146:=Tryz.isAgg236
 z146:=Tryz.sizeOf236
 v146:=Tryz.zeroValue236
 g1:=by kernel_rfl }
open Go.RowKit Go.Lib in
theorem Tryz.strings_Contains (s sub:ByteArray) (m:Int) (w:World) (hs:s.size<4294967281) (hm:w.cell? ⟨6,0,none⟩=some (.int .i64 m)) :
  Calls Tryz.prog 155 #[.string s,.string sub] w fun e w'=>e=.returned (.bool (Lib.contains s.data.toList sub.data.toList))/\w'=w:=Any.strings_Contains Tryz.lays144 s sub m w hs hm
def Tryz.lays138_ren:Go.Shelf.Ren:=⟨fun | 138=>131 | 195=>152 | 218=>153 | 143=>146 | 219=>167 | 217=>168 | 225=>184 | 224=>185 | 267=>186 | 266=>187 | 314=>197 | n=>n,fun | 9=>9 | 3=>3 | 4=>4 | 5=>5 | 0=>0 | 46=>106 | 146=>236 | 51=>126 | n=>n,fun | 1=>6 | n=>n⟩
theorem Tryz.lays138:Go.Proofs.Lays.n138 Tryz.prog Tryz.lays138_ren:={
 mixed:=by kernel_rfl
 f138:=Tryz.func131.trans (congrArg some (by kernel_rfl))
 f143:=Tryz.func146.trans (congrArg some (by kernel_rfl))
 f195:=Tryz.func152.trans (congrArg some (by kernel_rfl))
 f217:=Tryz.func168.trans (congrArg some (by kernel_rfl))
 f218:=Tryz.func153.trans (congrArg some (by kernel_rfl))
 f219:=Tryz.func167.trans (congrArg some (by kernel_rfl))
 f224:=Tryz.func185.trans (congrArg some (by kernel_rfl))
 f225:=Tryz.func184.trans (congrArg some (by kernel_rfl))
 f266:=Tryz.func187.trans (congrArg some (by kernel_rfl))
 f267:=Tryz.func186.trans (congrArg some (by kernel_rfl))
 f314:=Tryz.func197.trans (congrArg some (by kernel_rfl))
 t0:=Tryz.underlying0
 a0:=Tryz.isAgg0
 z0:=Tryz.sizeOf0
 v0:=Tryz.zeroValue0
 t3:=Tryz.underlying3
 a3:=Tryz.isAgg3
 z3:=Tryz.sizeOf3
 v3:=Tryz.zeroValue3
 t4:=Tryz.underlying4
 a4:=Tryz.isAgg4
 z4:=Tryz.sizeOf4
 v4:=Tryz.zeroValue4
 t5:=Tryz.underlying5
 a5:=Tryz.isAgg5
 z5:=Tryz.sizeOf5
 v5:=Tryz.zeroValue5
 t9:=Tryz.underlying9
 a9:=Tryz.isAgg9
 z9:=Tryz.sizeOf9
 v9:=Tryz.zeroValue9
 t46:=Tryz.underlying106
 a46:=Tryz.isAgg106
 z46:=Tryz.sizeOf106
 v46:=Tryz.zeroValue106
 t51:=Tryz.underlying126
 a51:=Tryz.isAgg126
 z51:=Tryz.sizeOf126
 v51:=Tryz.zeroValue126
 t146:=Tryz.underlying236
 a146:=Tryz.isAgg236
 z146:=Tryz.sizeOf236
 v146:=Tryz.zeroValue236
 g1:=by kernel_rfl }
def Tryz.lays189_ren:Go.Shelf.Ren:=⟨fun | 189=>29 | 125=>61 | 257=>60 | 128=>90 | 129=>91 | 294=>81 | 295=>82 | 296=>83 | 297=>84 | 298=>85 | 299=>86 | 216=>87 | 300=>88 | 301=>89 | 328=>121 | 329=>122 | 330=>123 | 331=>124 | 332=>125 | 215=>126 | 343=>148 | n=>n,fun | 28=>24 | 3=>3 | 46=>106 | 0=>0 | 51=>126 | 53=>127 | 4=>4 | 183=>137 | 182=>136 | 131=>79 | 5=>5 | 9=>9 | 218=>166 | 222=>170 | 228=>192 | 229=>185 | n=>n,fun | n=>n⟩
theorem Tryz.lays189:Go.Proofs.Lays.n189 Tryz.prog Tryz.lays189_ren:={
 mixed:=by kernel_rfl
 f125:=Tryz.func61.trans (congrArg some (by kernel_rfl))
 f128:=Tryz.func90.trans (congrArg some (by kernel_rfl))
 f129:=Tryz.func91.trans (congrArg some (by kernel_rfl))
 f189:=Tryz.func29.trans (congrArg some (by kernel_rfl))
 f215:=Tryz.func126.trans (congrArg some (by kernel_rfl))
 f216:=Tryz.func87.trans (congrArg some (by kernel_rfl))
 f257:=Tryz.func60.trans (congrArg some (by kernel_rfl))
 f294:=Tryz.func81.trans (congrArg some (by kernel_rfl))
 f295:=Tryz.func82.trans (congrArg some (by kernel_rfl))
 f296:=Tryz.func83.trans (congrArg some (by kernel_rfl))
 f297:=Tryz.func84.trans (congrArg some (by kernel_rfl))
 f298:=Tryz.func85.trans (congrArg some (by kernel_rfl))
 f299:=Tryz.func86.trans (congrArg some (by kernel_rfl))
 f300:=Tryz.func88.trans (congrArg some (by kernel_rfl))
 f301:=Tryz.func89.trans (congrArg some (by kernel_rfl))
 f328:=Tryz.func121.trans (congrArg some (by kernel_rfl))
 f329:=Tryz.func122.trans (congrArg some (by kernel_rfl))
 f330:=Tryz.func123.trans (congrArg some (by kernel_rfl))
 f331:=Tryz.func124.trans (congrArg some (by kernel_rfl))
 f332:=Tryz.func125.trans (congrArg some (by kernel_rfl))
 f343:=Tryz.func148.trans (congrArg some (by kernel_rfl))
 t0:=Tryz.underlying0
 a0:=Tryz.isAgg0
 z0:=Tryz.sizeOf0
 v0:=Tryz.zeroValue0
 t3:=Tryz.underlying3
 a3:=Tryz.isAgg3
 z3:=Tryz.sizeOf3
 v3:=Tryz.zeroValue3
 t4:=Tryz.underlying4
 a4:=Tryz.isAgg4
 z4:=Tryz.sizeOf4
 v4:=Tryz.zeroValue4
 t5:=Tryz.underlying5
 a5:=Tryz.isAgg5
 z5:=Tryz.sizeOf5
 v5:=Tryz.zeroValue5
 t9:=Tryz.underlying9
 a9:=Tryz.isAgg9
 z9:=Tryz.sizeOf9
 v9:=Tryz.zeroValue9
 t28:=Tryz.underlying24
 a28:=Tryz.isAgg24
 z28:=Tryz.sizeOf24
 v28:=Tryz.zeroValue24
 t46:=Tryz.underlying106
 a46:=Tryz.isAgg106
 z46:=Tryz.sizeOf106
 v46:=Tryz.zeroValue106
 t51:=Tryz.underlying126
 a51:=Tryz.isAgg126
 z51:=Tryz.sizeOf126
 v51:=Tryz.zeroValue126
 t53:=Tryz.underlying127
 a53:=Tryz.isAgg127
 z53:=Tryz.sizeOf127
 v53:=Tryz.zeroValue127
 t131:=Tryz.underlying79
 a131:=Tryz.isAgg79
 z131:=Tryz.sizeOf79
 v131:=Tryz.zeroValue79
 t182:=Tryz.underlying136
 a182:=Tryz.isAgg136
 z182:=Tryz.sizeOf136
 v182:=Tryz.zeroValue136
 t183:=Tryz.underlying137
 a183:=Tryz.isAgg137
 z183:=Tryz.sizeOf137
 v183:=Tryz.zeroValue137
 t218:=Tryz.underlying166
 a218:=Tryz.isAgg166
 z218:=Tryz.sizeOf166
 v218:=Tryz.zeroValue166
 t222:=Tryz.underlying170
 a222:=Tryz.isAgg170
 z222:=Tryz.sizeOf170
 v222:=Tryz.zeroValue170
 t228:=Tryz.underlying192
 a228:=Tryz.isAgg192
 z228:=Tryz.sizeOf192
 v228:=Tryz.zeroValue192
 t229:=Tryz.underlying185
 a229:=Tryz.isAgg185
 z229:=Tryz.sizeOf185
 v229:=Tryz.zeroValue185 }
open Go.Sort Go.RowKit in
theorem Tryz.slices_Sort_int (blk off cap:Nat) (zs:List Int) (w:World) (hH:Holds (Value.int .i64) w blk off zs.toArray) (hblk:blk<w.heap.size) (hsz:zs.length<4611686018427387904) :
  Calls Tryz.prog 29 #[.slice (some ⟨blk,off,none⟩) zs.length cap] w fun e w' =>
   e=.returned (.tuple #[])/\∃ n os,w'=grow (putRow (Value.int .i64) (Sort.ahead w n) blk off (zs.mergeSort fun x y=>decide (x<=y)).toArray) os:=Any.slices_Sort_int Tryz.lays189 blk off cap zs w hH hblk hsz
def Tryz.lays190_ren:Go.Shelf.Ren:=⟨fun | 190=>176 | 125=>61 | 258=>192 | 128=>90 | 129=>91 | 302=>200 | 303=>201 | 304=>202 | 305=>203 | 306=>204 | 307=>205 | 308=>206 | 309=>207 | 310=>208 | 333=>211 | 329=>122 | 330=>123 | 334=>212 | 335=>213 | 336=>214 | 344=>215 | n=>n,fun | 31=>42 | 9=>9 | 3=>3 | 46=>106 | 0=>0 | 51=>126 | 53=>127 | 4=>4 | 183=>137 | 182=>136 | 131=>79 | 5=>5 | 218=>166 | 222=>170 | 228=>192 | 229=>185 | n=>n,fun | n=>n⟩
theorem Tryz.lays190:Go.Proofs.Lays.n190 Tryz.prog Tryz.lays190_ren:={
 mixed:=by kernel_rfl
 f125:=Tryz.func61.trans (congrArg some (by kernel_rfl))
 f128:=Tryz.func90.trans (congrArg some (by kernel_rfl))
 f129:=Tryz.func91.trans (congrArg some (by kernel_rfl))
 f190:=Tryz.func176.trans (congrArg some (by kernel_rfl))
 f258:=Tryz.func192.trans (congrArg some (by kernel_rfl))
 f302:=Tryz.func200.trans (congrArg some (by kernel_rfl))
 f303:=Tryz.func201.trans (congrArg some (by kernel_rfl))
 f304:=Tryz.func202.trans (congrArg some (by kernel_rfl))
 f305:=Tryz.func203.trans (congrArg some (by kernel_rfl))
 f306:=Tryz.func204.trans (congrArg some (by kernel_rfl))
 f307:=Tryz.func205.trans (congrArg some (by kernel_rfl))
 f308:=Tryz.func206.trans (congrArg some (by kernel_rfl))
 f309:=Tryz.func207.trans (congrArg some (by kernel_rfl))
 f310:=Tryz.func208.trans (congrArg some (by kernel_rfl))
 f329:=Tryz.func122.trans (congrArg some (by kernel_rfl))
 f330:=Tryz.func123.trans (congrArg some (by kernel_rfl))
 f333:=Tryz.func211.trans (congrArg some (by kernel_rfl))
 f334:=Tryz.func212.trans (congrArg some (by kernel_rfl))
 f335:=Tryz.func213.trans (congrArg some (by kernel_rfl))
 f336:=Tryz.func214.trans (congrArg some (by kernel_rfl))
 f344:=Tryz.func215.trans (congrArg some (by kernel_rfl))
 t0:=Tryz.underlying0
 a0:=Tryz.isAgg0
 z0:=Tryz.sizeOf0
 v0:=Tryz.zeroValue0
 t3:=Tryz.underlying3
 a3:=Tryz.isAgg3
 z3:=Tryz.sizeOf3
 v3:=Tryz.zeroValue3
 t4:=Tryz.underlying4
 a4:=Tryz.isAgg4
 z4:=Tryz.sizeOf4
 v4:=Tryz.zeroValue4
 t5:=Tryz.underlying5
 a5:=Tryz.isAgg5
 z5:=Tryz.sizeOf5
 v5:=Tryz.zeroValue5
 t9:=Tryz.underlying9
 a9:=Tryz.isAgg9
 z9:=Tryz.sizeOf9
 v9:=Tryz.zeroValue9
 t31:=Tryz.underlying42
 a31:=Tryz.isAgg42
 z31:=Tryz.sizeOf42
 v31:=Tryz.zeroValue42
 t46:=Tryz.underlying106
 a46:=Tryz.isAgg106
 z46:=Tryz.sizeOf106
 v46:=Tryz.zeroValue106
 t51:=Tryz.underlying126
 a51:=Tryz.isAgg126
 z51:=Tryz.sizeOf126
 v51:=Tryz.zeroValue126
 t53:=Tryz.underlying127
 a53:=Tryz.isAgg127
 z53:=Tryz.sizeOf127
 v53:=Tryz.zeroValue127
 t131:=Tryz.underlying79
 a131:=Tryz.isAgg79
 z131:=Tryz.sizeOf79
 v131:=Tryz.zeroValue79
 t182:=Tryz.underlying136
 a182:=Tryz.isAgg136
 z182:=Tryz.sizeOf136
 v182:=Tryz.zeroValue136
 t183:=Tryz.underlying137
 a183:=Tryz.isAgg137
 z183:=Tryz.sizeOf137
 v183:=Tryz.zeroValue137
 t218:=Tryz.underlying166
 a218:=Tryz.isAgg166
 z218:=Tryz.sizeOf166
 v218:=Tryz.zeroValue166
 t222:=Tryz.underlying170
 a222:=Tryz.isAgg170
 z222:=Tryz.sizeOf170
 v222:=Tryz.zeroValue170
 t228:=Tryz.underlying192
 a228:=Tryz.isAgg192
 z228:=Tryz.sizeOf192
 v228:=Tryz.zeroValue192
 t229:=Tryz.underlying185
 a229:=Tryz.isAgg185
 z229:=Tryz.sizeOf185
 v229:=Tryz.zeroValue185 }
open Go.Sort Go.RowKit in
theorem Tryz.slices_Sort_string (blk off cap:Nat) (ss:List (List UInt8)) (w:World) (hH:Holds encStr w blk off ss.toArray) (hblk:blk<w.heap.size) (hsz:ss.length<4611686018427387904) :
  Calls Tryz.prog 176 #[.slice (some ⟨blk,off,none⟩) ss.length cap] w fun e w' =>
   e=.returned (.tuple #[])/\∃ n os,w'=grow (putRow encStr (Sort.ahead w n) blk off (ss.mergeSort fun x y=>decide (x<=y)).toArray) os:=Any.slices_Sort_string Tryz.lays190 blk off cap ss w hH hblk hsz
open Go.RowKit Go.Lib in
theorem Tryz.strings_Count_any (s sep:ByteArray) (m:Int) (w:World) (hs:s.size<4294967281) (hm:w.cell? ⟨6,0,none⟩=some (.int .i64 m)) (h1:1<=sep.size) :
  Calls Tryz.prog 131 #[.string s,.string sep] w fun e w'=>e=.returned (.int .i64 (Lib.countB s sep))/\w'=w:=Any.strings_Count_any Tryz.lays138 s sep m w hs hm h1
def Tryz.lays146_ren:Go.Shelf.Ren:=⟨fun | 146=>78 | 221=>118 | 268=>145 | 138=>131 | 143=>146 | 195=>152 | 197=>166 | 218=>153 | 219=>167 | 260=>183 | 217=>168 | 225=>184 | 224=>185 | 267=>186 | 266=>187 | 314=>197 | n=>n,fun | 9=>9 | 31=>42 | 3=>3 | 4=>4 | 0=>0 | 105=>211 | 21=>21 | 5=>5 | 46=>106 | 119=>232 | 139=>235 | 138=>234 | 146=>236 | 51=>126 | n=>n,fun | 1=>6 | 3=>8 | 4=>9 | n=>n⟩
theorem Tryz.lays146:Go.Proofs.Lays.n146 Tryz.prog Tryz.lays146_ren:={
 mixed:=by kernel_rfl
 f138:=Tryz.func131.trans (congrArg some (by kernel_rfl))
 f143:=Tryz.func146.trans (congrArg some (by kernel_rfl))
 f146:=Tryz.func78.trans (congrArg some (by kernel_rfl))
 f195:=Tryz.func152.trans (congrArg some (by kernel_rfl))
 f197:=Tryz.func166.trans (congrArg some (by kernel_rfl))
 f217:=Tryz.func168.trans (congrArg some (by kernel_rfl))
 f218:=Tryz.func153.trans (congrArg some (by kernel_rfl))
 f219:=Tryz.func167.trans (congrArg some (by kernel_rfl))
 f221:=Tryz.func118.trans (congrArg some (by kernel_rfl))
 f224:=Tryz.func185.trans (congrArg some (by kernel_rfl))
 f225:=Tryz.func184.trans (congrArg some (by kernel_rfl))
 f260:=Tryz.func183.trans (congrArg some (by kernel_rfl))
 f266:=Tryz.func187.trans (congrArg some (by kernel_rfl))
 f267:=Tryz.func186.trans (congrArg some (by kernel_rfl))
 f268:=Tryz.func145.trans (congrArg some (by kernel_rfl))
 f314:=Tryz.func197.trans (congrArg some (by kernel_rfl))
 t0:=Tryz.underlying0
 a0:=Tryz.isAgg0
 z0:=Tryz.sizeOf0
 v0:=Tryz.zeroValue0
 t3:=Tryz.underlying3
 a3:=Tryz.isAgg3
 z3:=Tryz.sizeOf3
 v3:=Tryz.zeroValue3
 t4:=Tryz.underlying4
 a4:=Tryz.isAgg4
 z4:=Tryz.sizeOf4
 v4:=Tryz.zeroValue4
 t5:=Tryz.underlying5
 a5:=Tryz.isAgg5
 z5:=Tryz.sizeOf5
 v5:=Tryz.zeroValue5
 t9:=Tryz.underlying9
 a9:=Tryz.isAgg9
 z9:=Tryz.sizeOf9
 v9:=Tryz.zeroValue9
 t21:=Tryz.underlying21
 a21:=Tryz.isAgg21
 z21:=Tryz.sizeOf21
 v21:=Tryz.zeroValue21
 t31:=Tryz.underlying42
 a31:=Tryz.isAgg42
 z31:=Tryz.sizeOf42
 v31:=Tryz.zeroValue42
 t46:=Tryz.underlying106
 a46:=Tryz.isAgg106
 z46:=Tryz.sizeOf106
 v46:=Tryz.zeroValue106
 t51:=Tryz.underlying126
 a51:=Tryz.isAgg126
 z51:=Tryz.sizeOf126
 v51:=Tryz.zeroValue126
 t105:=Tryz.underlying211
 a105:=Tryz.isAgg211
 z105:=Tryz.sizeOf211
 v105:=Tryz.zeroValue211
 t119:=Tryz.underlying232
 a119:=Tryz.isAgg232
 z119:=Tryz.sizeOf232
 t138:=Tryz.underlying234
 a138:=Tryz.isAgg234
 z138:=Tryz.sizeOf234
 v138:=Tryz.zeroValue234
 t139:=Tryz.underlying235
 a139:=Tryz.isAgg235
 z139:=Tryz.sizeOf235
 v139:=Tryz.zeroValue235
 t146:=Tryz.underlying236
 a146:=Tryz.isAgg236
 z146:=Tryz.sizeOf236
 v146:=Tryz.zeroValue236
 g1:=by kernel_rfl
 g3:=by kernel_rfl
 g4:=by kernel_rfl }
open Go.RowKit Go.Lib in
theorem Tryz.strings_Split (s sep:ByteArray) (m:Int) (w:World) (hs:s.size<4294967281) (hm:w.cell? ⟨6,0,none⟩=some (.int .i64 m)) (h1:1<=sep.size) :
  Calls Tryz.prog 78 #[.string s,.string sep] w fun e w' =>
   e=.returned (.slice (some ⟨w.heap.size,0,none⟩) (Lib.countB s sep+1) (Lib.countB s sep+1))/\w'=w.alloc (.cells ((Lib.splitB sep 0 (Lib.countB s sep) s).map Value.string).toArray 9):=Any.strings_Split Tryz.lays146 (by kernel_rfl) s sep m w hs hm h1
def Tryz.lays155_ren:Go.Shelf.Ren:=⟨fun | 155=>132 | 154=>154 | 138=>131 | 165=>172 | 143=>146 | 166=>136 | 197=>166 | 169=>137 | 195=>152 | 218=>153 | 240=>162 | 241=>189 | 219=>167 | 260=>183 | 276=>178 | 277=>198 | 217=>168 | 225=>184 | 224=>185 | 267=>186 | 266=>187 | 314=>197 | n=>n,fun | 9=>9 | 3=>3 | 4=>4 | 72=>181 | 0=>0 | 76=>182 | 105=>211 | 21=>21 | 5=>5 | 70=>179 | 20=>20 | 37=>105 | 75=>30 | 127=>207 | 164=>220 | 46=>106 | 119=>232 | 139=>235 | 138=>234 | 146=>236 | 51=>126 | 80=>184 | n=>n,fun | 1=>6 | 3=>8 | 4=>9 | n=>n⟩
theorem Tryz.lays155:Go.Proofs.Lays.n155 Tryz.prog Tryz.lays155_ren:={
 mixed:=by kernel_rfl
 f138:=Tryz.func131.trans (congrArg some (by kernel_rfl))
 f143:=Tryz.func146.trans (congrArg some (by kernel_rfl))
 f154:=Tryz.func154.trans (congrArg some (by kernel_rfl))
 f155:=Tryz.func132.trans (congrArg some (by kernel_rfl))
 f165:=Tryz.func172.trans (congrArg some (by kernel_rfl))
 f166:=Tryz.func136.trans (congrArg some (by kernel_rfl))
 f169:=Tryz.func137.trans (congrArg some (by kernel_rfl))
 f195:=Tryz.func152.trans (congrArg some (by kernel_rfl))
 f197:=Tryz.func166.trans (congrArg some (by kernel_rfl))
 f217:=Tryz.func168.trans (congrArg some (by kernel_rfl))
 f218:=Tryz.func153.trans (congrArg some (by kernel_rfl))
 f219:=Tryz.func167.trans (congrArg some (by kernel_rfl))
 f224:=Tryz.func185.trans (congrArg some (by kernel_rfl))
 f225:=Tryz.func184.trans (congrArg some (by kernel_rfl))
 f240:=Tryz.func162.trans (congrArg some (by kernel_rfl))
 f241:=Tryz.func189.trans (congrArg some (by kernel_rfl))
 f260:=Tryz.func183.trans (congrArg some (by kernel_rfl))
 f266:=Tryz.func187.trans (congrArg some (by kernel_rfl))
 f267:=Tryz.func186.trans (congrArg some (by kernel_rfl))
 f276:=Tryz.func178.trans (congrArg some (by kernel_rfl))
 f277:=Tryz.func198.trans (congrArg some (by kernel_rfl))
 f314:=Tryz.func197.trans (congrArg some (by kernel_rfl))
 t0:=Tryz.underlying0
 a0:=Tryz.isAgg0
 z0:=Tryz.sizeOf0
 v0:=Tryz.zeroValue0
 t3:=Tryz.underlying3
 a3:=Tryz.isAgg3
 z3:=Tryz.sizeOf3
 v3:=Tryz.zeroValue3
 t4:=Tryz.underlying4
 a4:=Tryz.isAgg4
 z4:=Tryz.sizeOf4
 v4:=Tryz.zeroValue4
 t5:=Tryz.underlying5
 a5:=Tryz.isAgg5
 z5:=Tryz.sizeOf5
 v5:=Tryz.zeroValue5
 t9:=Tryz.underlying9
 a9:=Tryz.isAgg9
 z9:=Tryz.sizeOf9
 v9:=Tryz.zeroValue9
 t20:=Tryz.underlying20
 a20:=Tryz.isAgg20
 z20:=Tryz.sizeOf20
 v20:=Tryz.zeroValue20
 t21:=Tryz.underlying21
 a21:=Tryz.isAgg21
 z21:=Tryz.sizeOf21
 v21:=Tryz.zeroValue21
 t37:=Tryz.underlying105
 a37:=Tryz.isAgg105
 z37:=Tryz.sizeOf105
 v37:=Tryz.zeroValue105
 t46:=Tryz.underlying106
 a46:=Tryz.isAgg106
 z46:=Tryz.sizeOf106
 v46:=Tryz.zeroValue106
 t51:=Tryz.underlying126
 a51:=Tryz.isAgg126
 z51:=Tryz.sizeOf126
 v51:=Tryz.zeroValue126
 t70:=Tryz.underlying179
 a70:=Tryz.isAgg179
 z70:=Tryz.sizeOf179
 v70:=Tryz.zeroValue179
 t72:=Tryz.underlying181
 a72:=Tryz.isAgg181
 z72:=Tryz.sizeOf181
 v72:=Tryz.zeroValue181
 t75:=Tryz.underlying30
 a75:=Tryz.isAgg30
 z75:=Tryz.sizeOf30
 v75:=Tryz.zeroValue30
 t76:=Tryz.underlying182
 a76:=Tryz.isAgg182
 z76:=Tryz.sizeOf182
 v76:=Tryz.zeroValue182
 t105:=Tryz.underlying211
 a105:=Tryz.isAgg211
 z105:=Tryz.sizeOf211
 v105:=Tryz.zeroValue211
 t119:=Tryz.underlying232
 a119:=Tryz.isAgg232
 z119:=Tryz.sizeOf232
 t127:=Tryz.underlying207
 a127:=Tryz.isAgg207
 z127:=Tryz.sizeOf207
 v127:=Tryz.zeroValue207
 t138:=Tryz.underlying234
 a138:=Tryz.isAgg234
 z138:=Tryz.sizeOf234
 v138:=Tryz.zeroValue234
 t139:=Tryz.underlying235
 a139:=Tryz.isAgg235
 z139:=Tryz.sizeOf235
 v139:=Tryz.zeroValue235
 t146:=Tryz.underlying236
 a146:=Tryz.isAgg236
 z146:=Tryz.sizeOf236
 v146:=Tryz.zeroValue236
 t164:=Tryz.underlying220
 a164:=Tryz.isAgg220
 z164:=Tryz.sizeOf220
 v164:=Tryz.zeroValue220
 g1:=by kernel_rfl
 g3:=by kernel_rfl
 g4:=by kernel_rfl }
theorem Tryz.Builder_Extra_155:Builder.Extra Tryz.prog Tryz.lays155_ren:={
 sizeBuilder:=by kernel_rfl
 liesBuilder:=by kernel_rfl
 t5:=Tryz.underlying5
 a5:=Tryz.isAgg5
 z5:=Tryz.sizeOf5
 v5:=Tryz.zeroValue5
 infoByte:=by kernel_rfl
 cellsByte:=by kernel_rfl
 sizeByte:=by kernel_rfl
 neB5:=by decide }
open Go.RowKit Go.Lib in
theorem Tryz.strings_ReplaceAll (s old new:ByteArray) (m:Int) (w:World) (hs:s.size<4294967281) (hm:w.cell? ⟨6,0,none⟩=some (.int .i64 m)) (h1:1<=old.size) (hlen:s.size+Lib.countB s old*new.size<=140737488355328) :
  Calls Tryz.prog 132 #[.string s,.string old,.string new] w fun e w' =>
   e=.returned (.string ⟨(Lib.replaceAll s.data.toList old.data.toList new.data.toList).toArray⟩)/\Below w.heap.size w w':=Any.strings_ReplaceAll Tryz.lays155 Tryz.Builder_Extra_155 s old new m w hs hm h1 hlen
def Tryz.laysNm217_ren:Go.Shelf.Ren:=⟨fun | 17=>161 | n=>n,fun | 24=>42 | 9=>9 | 3=>3 | 4=>4 | 0=>0 | n=>n,fun | n=>n⟩
theorem Tryz.laysNm217:Go.Proofs.Lays2.n17 Tryz.prog Tryz.laysNm217_ren:={
 mixed:=by kernel_rfl
 f17:=Tryz.func161.trans (congrArg some (by kernel_rfl))
 t0:=Tryz.underlying0
 a0:=Tryz.isAgg0
 z0:=Tryz.sizeOf0
 v0:=Tryz.zeroValue0
 t3:=Tryz.underlying3
 a3:=Tryz.isAgg3
 z3:=Tryz.sizeOf3
 v3:=Tryz.zeroValue3
 t4:=Tryz.underlying4
 a4:=Tryz.isAgg4
 z4:=Tryz.sizeOf4
 v4:=Tryz.zeroValue4
 t9:=Tryz.underlying9
 a9:=Tryz.isAgg9
 z9:=Tryz.sizeOf9
 v9:=Tryz.zeroValue9
 t24:=Tryz.underlying42
 a24:=Tryz.isAgg42
 z24:=Tryz.sizeOf42
 v24:=Tryz.zeroValue42 }
open Go.RowKit Go.Lib Go.Sort in
theorem Tryz.slices_Reverse_string (blk off cap:Nat) (zs:List (List UInt8)) (w:World) (hH:Holds encStr w blk off zs.toArray) (hsz:zs.length<=9223372036854775807) :
  Calls Tryz.prog 161 #[.slice (some ⟨blk,off,none⟩) zs.length cap] w fun e w'=>e=.returned (.tuple #[])/\∃ n,w'=putRow encStr (Sort.ahead w n) blk off zs.reverse.toArray:=Any.slices_Reverse_string Tryz.laysNm217 blk off cap zs w hH hsz
open Go.RowKit Go.Lib Go.Sort in
theorem Tryz.slices_Reverse_string_empty (a:Option Addr) (cap:Nat) (w:World) :
  Calls Tryz.prog 161 #[.slice a 0 cap] w fun e w'=>e=.returned (.tuple #[])/\w'=w:=Any.slices_Reverse_string_empty Tryz.laysNm217 a cap w
def Tryz.laysNm220_ren:Go.Shelf.Ren:=⟨fun | 20=>30 | n=>n,fun | 22=>24 | 3=>3 | 4=>4 | 0=>0 | n=>n,fun | n=>n⟩
theorem Tryz.laysNm220:Go.Proofs.Lays2.n20 Tryz.prog Tryz.laysNm220_ren:={
 mixed:=by kernel_rfl
 f20:=Tryz.func30.trans (congrArg some (by kernel_rfl))
 t0:=Tryz.underlying0
 a0:=Tryz.isAgg0
 z0:=Tryz.sizeOf0
 v0:=Tryz.zeroValue0
 t3:=Tryz.underlying3
 a3:=Tryz.isAgg3
 z3:=Tryz.sizeOf3
 v3:=Tryz.zeroValue3
 t4:=Tryz.underlying4
 a4:=Tryz.isAgg4
 z4:=Tryz.sizeOf4
 v4:=Tryz.zeroValue4
 t22:=Tryz.underlying24
 a22:=Tryz.isAgg24
 z22:=Tryz.sizeOf24
 v22:=Tryz.zeroValue24
 i3:=by kernel_rfl }
open Go.RowKit Go.Lib Go.Sort in
theorem Tryz.slices_Compact_int (blk off cap:Nat) (zs:List Int) (w:World) (hH:Holds (Value.int .i64) w blk off zs.toArray) (hsz:zs.length<=9223372036854775807) (hcap:zs.length<=cap) :
  Calls Tryz.prog 30 #[.slice (some ⟨blk,off,none⟩) zs.length cap] w fun e w'=>e=.returned (.slice (some ⟨blk,off,none⟩) (Lib.compact zs).length cap)/\∃ q,w'=putRow (Value.int .i64) (Sort.ahead w q) blk off (Lib.compact zs++List.replicate (zs.length - (Lib.compact zs).length) 0).toArray:=Any.slices_Compact_int Tryz.laysNm220 blk off cap zs w hH hsz hcap
open Go.RowKit Go.Lib Go.Sort in
theorem Tryz.slices_Compact_int_empty (a:Option Addr) (cap:Nat) (w:World) :
  Calls Tryz.prog 30 #[.slice a 0 cap] w fun e w'=>e=.returned (.slice a 0 cap)/\w'=w:=Any.slices_Compact_int_empty Tryz.laysNm220 a cap w
def Tryz.lays194_ren:Go.Shelf.Ren:=⟨fun | 194=>160 | n=>n,fun | 31=>42 | 9=>9 | 3=>3 | 4=>4 | 0=>0 | n=>n,fun | n=>n⟩
theorem Tryz.lays194:Go.Proofs.Lays.n194 Tryz.prog Tryz.lays194_ren:={
 mixed:=by kernel_rfl
 f194:=Tryz.func160.trans (congrArg some (by kernel_rfl))
 t0:=Tryz.underlying0
 a0:=Tryz.isAgg0
 z0:=Tryz.sizeOf0
 v0:=Tryz.zeroValue0
 t3:=Tryz.underlying3
 a3:=Tryz.isAgg3
 z3:=Tryz.sizeOf3
 v3:=Tryz.zeroValue3
 t4:=Tryz.underlying4
 a4:=Tryz.isAgg4
 z4:=Tryz.sizeOf4
 v4:=Tryz.zeroValue4
 t9:=Tryz.underlying9
 a9:=Tryz.isAgg9
 z9:=Tryz.sizeOf9
 v9:=Tryz.zeroValue9
 t31:=Tryz.underlying42
 a31:=Tryz.isAgg42
 z31:=Tryz.sizeOf42
 v31:=Tryz.zeroValue42 }
open Go.RowKit Go.Lib Go.Sort in
theorem Tryz.slices_Compact_string (blk off cap:Nat) (zs:List (List UInt8)) (w:World) (hH:Holds encStr w blk off zs.toArray) (hsz:zs.length<=9223372036854775807) (hcap:zs.length<=cap) :
  Calls Tryz.prog 160 #[.slice (some ⟨blk,off,none⟩) zs.length cap] w fun e w'=>e=.returned (.slice (some ⟨blk,off,none⟩) (Lib.compact zs).length cap)/\∃ q,w'=putRow encStr (Sort.ahead w q) blk off (Lib.compact zs++List.replicate (zs.length - (Lib.compact zs).length) []).toArray:=Any.slices_Compact_string Tryz.lays194 blk off cap zs w hH hsz hcap
open Go.RowKit Go.Lib Go.Sort in
theorem Tryz.slices_Compact_string_empty (a:Option Addr) (cap:Nat) (w:World) :
  Calls Tryz.prog 160 #[.slice a 0 cap] w fun e w'=>e=.returned (.slice a 0 cap)/\w'=w:=Any.slices_Compact_string_empty Tryz.lays194 a cap w
open Go.RowKit Go.Sort in
theorem Tryz.slices_Sort_string_none (p:Option Addr) (cap:Nat) (w:World) :
  Calls Tryz.prog 176 #[.slice p 0 cap] w fun e w'=>e=.returned (.tuple #[])/\w'=w:=Any.slices_Sort_string_none Tryz.lays190 p cap w
open Go.RowKit Go.Sort in
theorem Tryz.slices_Sort_int_none (p:Option Addr) (cap:Nat) (w:World) :
  Calls Tryz.prog 29 #[.slice p 0 cap] w fun e w'=>e=.returned (.tuple #[])/\w'=w:=Any.slices_Sort_int_none Tryz.lays189 p cap w
end Go.Proofs
 
namespace Go.Proofs.YtjobklaengaamaaGreatDoor

section
open Go Go.RowKit
theorem Fn.ofCalls {P:Program} {f:FuncId} {args:Array Value} {w:World} {v:Value} (hgo:goesIn P f=true) (h:∀ w1,Calls P f args w1 fun e w'=>e=.returned v/\w'=w1):Fn P f args w (fun r w'=>w=w'/\r=v) :=
 ⟨hgo,fun w1 e=>(h w1).mono fun _ _ ⟨he,hw⟩=>⟨v,w,he,by rw [hw]; exact e,rfl,rfl⟩⟩
theorem bs (l:List UInt8):(Value.string ⟨⟨l⟩⟩)=vs l:=rfl
def Zn (s:List UInt8) (c:Int) (K:Int->Prop):Prop:=K (Lib.indexByte s c.toNat.toUInt8)
theorem W_strings_IndexByte {w:World} {s:List UInt8} {c:Int} {K:Int->Prop} (H:Zn s c K):Fn Tryz.prog 147 ⟨[vs s,.int .u8 c]⟩ w (fun v w'=>w=w'/\∃ r:Int,v=.int .i64 r/\K r) :=
 (Fn.ofCalls (by kernel_rfl) (fun w1=>Tryz.strings_IndexByte ⟨⟨s⟩⟩ c w1)).mono fun _ _ ⟨h1,h2⟩=>⟨h1,_,h2,H⟩
def M_strings_Contains (s sub:List UInt8) (K:Bool->Prop):Prop:=s.length<4294967281/\K (Lib.contains s sub)
theorem W_strings_Contains {S:List Nat} {w:World} {s sub:List UInt8} {K:Bool->Prop} (hG:GOK S w) (h100:100∈S) (H:M_strings_Contains s sub K):Fn Tryz.prog 155 ⟨[vs s,vs sub]⟩ w (fun v w'=>w=w'/\∃ r:Bool,v=.bool r/\K r):=by
 obtain ⟨m,hm⟩:=hG.ml h100
 refine ⟨by kernel_rfl,fun w1 e=>(Tryz.strings_Contains ⟨⟨s⟩⟩ ⟨⟨sub⟩⟩ m w1 H.1 (by rw [e.cell]; exact hm)).mono fun _ _ ⟨he,hw⟩=>⟨_,w,he,by rw [hw]; exact e,rfl,_,rfl,H.2⟩⟩
def splitL (sep s:List UInt8):List (List UInt8):=Lib.splitK sep 0 (Lib.countB ⟨⟨s⟩⟩ ⟨⟨sep⟩⟩) s
theorem splitL_map (sep s:List UInt8):(Lib.splitB ⟨⟨sep⟩⟩ 0 (Lib.countB ⟨⟨s⟩⟩ ⟨⟨sep⟩⟩) ⟨⟨s⟩⟩).map Value.string=(splitL sep s).map vs:=by
 have h:=Lib.splitB_data ⟨⟨sep⟩⟩ 0 (Lib.countB ⟨⟨s⟩⟩ ⟨⟨sep⟩⟩) ⟨⟨s⟩⟩
 unfold splitL
 rw [show Lib.splitK sep 0 (Lib.countB ⟨⟨s⟩⟩ ⟨⟨sep⟩⟩) s=_ from h.symm,List.map_map]
 rfl
def Zs (s sep:List UInt8) (K:List (List UInt8)->Prop):Prop:=s.length<4294967281/\1<=sep.length/\K (splitL sep s)
theorem splitL_length {sep:List UInt8} (h:1<=sep.length) (s:List UInt8):(splitL sep s).length=Lib.countB ⟨⟨s⟩⟩ ⟨⟨sep⟩⟩+1:=by
 have h1:=Lib.splitB_all ⟨⟨sep⟩⟩ h 0 _ ⟨⟨s⟩⟩ rfl
 have h2:=congrArg List.length (splitL_map sep s)
 simp only [List.length_map] at h2
 omega
theorem W_strings_Split {S:List Nat} {w:World} {s sep:List UInt8} {K:List (List UInt8)->Prop} (hG:GOK S w) (h100:100∈S) (H:Zs s sep K):Fn Tryz.prog 78 ⟨[vs s,vs sep]⟩ w (fun v w'=>w.grownBy w' none/\∃ (r:List (List UInt8)) (A:Option Addr) (c:Nat),v=.slice A r.length c/\Own vs w' w.heap.size 9 A c r/\K r):=by
 obtain ⟨m,hm⟩:=hG.ml h100
 refine ⟨by kernel_rfl,fun w1 e=>(Tryz.strings_Split ⟨⟨s⟩⟩ ⟨⟨sep⟩⟩ m w1 H.1 (by rw [e.cell]; exact hm) H.2.1).mono fun _ w' ⟨he,hw⟩=>?_⟩
 have hlen:=splitL_length H.2.1 s
 obtain ⟨hB,hg⟩:=newBlock w1 e ((splitL sep s).map vs) 9
 have hw':w'=w1.alloc (.cells ⟨(splitL sep s).map vs⟩ 9):=by rw [hw,splitL_map]
 rw [<-hw'] at hB hg
 have hml:(splitL sep s).length<=maxLen:=by
  have h3:=Lib.countB_le ⟨⟨sep⟩⟩ H.2.1 s.length ⟨⟨s⟩⟩ (Nat.le_refl _)
  have h3':Lib.countB ⟨⟨s⟩⟩ ⟨⟨sep⟩⟩<=s.length:=h3
  have h4:=H.1
  simp only [maxLen]
  omega
 exact ⟨_,w',he,Eqv.refl _,hg,splitL sep s,some ⟨w.heap.size,0,none⟩,Lib.countB ⟨⟨s⟩⟩ ⟨⟨sep⟩⟩+1,by rw [e.heap,hlen],Own.ofBl hB (Nat.le_refl _) hml hlen.symm,H.2.2⟩
def M_strings_ReplaceAll (s old new:List UInt8) (K:List UInt8->Prop):Prop:=s.length<4294967281/\1<=old.length/\s.length+Lib.countB ⟨⟨s⟩⟩ ⟨⟨old⟩⟩*new.length<=140737488355328/\K (Lib.replaceAll s old new)
theorem W_strings_ReplaceAll {S:List Nat} {w:World} {s old new:List UInt8} {K:List UInt8->Prop} (hG:GOK S w) (h100:100∈S) (H:M_strings_ReplaceAll s old new K):Fn Tryz.prog 132 ⟨[vs s,vs old,vs new]⟩ w (fun v w'=>w.grownBy w' none/\∃ r:List UInt8,v=vs r/\K r):=by
 obtain ⟨m,hm⟩:=hG.ml h100
 refine ⟨by kernel_rfl,fun w1 e=>(Tryz.strings_ReplaceAll ⟨⟨s⟩⟩ ⟨⟨old⟩⟩ ⟨⟨new⟩⟩ m w1 H.1 (by rw [e.cell]; exact hm) H.2.1 H.2.2.1).mono fun _ w' ⟨he,hb⟩=>⟨_,w',he,Eqv.refl _,jz e (gr_below hb none),_,rfl,H.2.2.2⟩⟩
def M_strings_Count (s sub:List UInt8) (K:Int->Prop):Prop:=s.length<4294967281/\1<=sub.length/\K ((Lib.countB ⟨⟨s⟩⟩ ⟨⟨sub⟩⟩:Nat):Int)
theorem W_strings_Count {S:List Nat} {w:World} {s sub:List UInt8} {K:Int->Prop} (hG:GOK S w) (h100:100∈S) (H:M_strings_Count s sub K):Fn Tryz.prog 131 ⟨[vs s,vs sub]⟩ w (fun v w'=>w=w'/\∃ r:Int,v=.int .i64 r/\K r):=by
 obtain ⟨m,hm⟩:=hG.ml h100
 refine ⟨by kernel_rfl,fun w1 e=>(Tryz.strings_Count_any ⟨⟨s⟩⟩ ⟨⟨sub⟩⟩ m w1 H.1 (by rw [e.cell]; exact hm) H.2.1).mono fun _ _ ⟨he,hw⟩=>⟨_,w,he,by rw [hw]; exact e,rfl,_,rfl,H.2.2⟩⟩
end
 
section
open Go Go.RowKit
theorem enc_vs:encStr=vs:=by funext l; rfl
def kC (xs:List (List UInt8)) (K:List (List UInt8)->Prop):Prop:=K (Lib.compact xs)
theorem compact_le (xs:List (List UInt8)):(Lib.compact xs).length<=xs.length:=by
 unfold Lib.compact Lib.compactUpTo
 rw [List.length_map]
 exact Nat.le_trans (List.length_filter_le _ _) (by simp)
theorem W_slices_Compact_string_string {w:World} {xs:List (List UInt8)} {A:Option Addr} {c n B:Nat} {e:TypeId} {K:List (List UInt8)->Prop} (hO:Own vs w B e A c xs) (hn:n=xs.length) (H:kC xs K) :
  Fn Tryz.prog 160 ⟨[.slice A n c]⟩ w (fun v w'=>∃ ys:List (List UInt8),v=.slice A ys.length c/\Own vs w' B e A c ys/\w.grownBy w' (blk A)/\K ys):=by
 subst hn
 refine ⟨by kernel_rfl,fun w1 e1=>?_⟩
 have hO1:=own_eqv e1 hO
 rcases hO1.2 with ⟨hv,hn⟩ | ⟨g,cap,cur,hv,hb,hg,hnc,hcm,hcs,htake⟩
 ·simp only [Value.slice.injEq] at hv
  obtain ⟨rfl,_,rfl⟩:=hv
  have:xs=[]:=List.eq_nil_of_length_eq_zero hn
  subst this
  exact (Tryz.slices_Compact_string_empty none 0 w1).mono fun _ w' ⟨he,hw⟩=>⟨_,w,he,by rw [hw]; exact e1,[],rfl,hO,qK _ _,H⟩
 ·simp only [Value.slice.injEq] at hv
  obtain ⟨rfl,_,rfl⟩:=hv
  have hmx:xs.length<=9223372036854775807:=by simp only [maxLen] at hcm; omega
  refine (Tryz.slices_Compact_string g 0 c xs w1 (holds_of_block hg (by rw [enc_vs]; simpa using htake)) hmx hnc).mono fun _ w' ⟨he,q,hw⟩=>?_
  have hle:=compact_le xs
  have hl:(Lib.compact xs++List.replicate (xs.length - (Lib.compact xs).length) []).length=xs.length:=by simp; omega
  have h1:=ownsRow_sorted (n:=q) (os := #[]) hl hb hg hnc hcm hcs
  have h2:=grownBy_sorted (w:=w1) (g:=g) (n:=q) (os := #[]) (Lib.compact xs++List.replicate (xs.length - (Lib.compact xs).length) []).toArray
  rw [Sort.grow_empty,<-hw] at h1 h2
  have hO2:Own vs w' B e (some ⟨g,0,none⟩) c (Lib.compact xs++List.replicate (xs.length - (Lib.compact xs).length) []):=by
   unfold Own
   rw [hl,<-enc_vs]
   exact h1
  have hO3:=hO2.take (Lib.compact xs).length (by rw [hl]; exact hle) (fun _ h=>by cases h)
  rw [List.take_left' rfl] at hO3
  exact ⟨_,w',he,Eqv.refl _,_,rfl,hO3,jz e1 h2,H⟩
def kD (xs:List (List UInt8)) (K:List (List UInt8)->Prop):Prop:=K xs.reverse
theorem W_slices_Reverse_string_string {w:World} {xs:List (List UInt8)} {A:Option Addr} {c n B:Nat} {e:TypeId} {K:List (List UInt8)->Prop} (hO:Own vs w B e A c xs) (hn:n=xs.length) (H:kD xs K) :
  Fn Tryz.prog 161 ⟨[.slice A n c]⟩ w (fun v w'=>∃ ys:List (List UInt8),v=.tuple #[]/\Own vs w' B e A c ys/\w.grownBy w' (blk A)/\ys.length=xs.length/\K ys):=by
 subst hn
 refine ⟨by kernel_rfl,fun w1 e1=>?_⟩
 have hO1:=own_eqv e1 hO
 rcases hO1.2 with ⟨hv,hn⟩ | ⟨g,cap,cur,hv,hb,hg,hnc,hcm,hcs,htake⟩
 ·simp only [Value.slice.injEq] at hv
  obtain ⟨rfl,_,rfl⟩:=hv
  have:xs=[]:=List.eq_nil_of_length_eq_zero hn
  subst this
  exact (Tryz.slices_Reverse_string_empty none 0 w1).mono fun _ w' ⟨he,hw⟩=>⟨_,w,he,by rw [hw]; exact e1,[],rfl,hO,qK _ _,rfl,H⟩
 ·simp only [Value.slice.injEq] at hv
  obtain ⟨rfl,_,rfl⟩:=hv
  have hmx:xs.length<=9223372036854775807:=by simp only [maxLen] at hcm; omega
  refine (Tryz.slices_Reverse_string g 0 c xs w1 (holds_of_block hg (by rw [enc_vs]; simpa using htake)) hmx).mono fun _ w' ⟨he,q,hw⟩=>?_
  have hl:xs.reverse.length=xs.length:=List.length_reverse
  have h1:=ownsRow_sorted (n:=q) (os := #[]) hl hb hg hnc hcm hcs
  have h2:=grownBy_sorted (w:=w1) (g:=g) (n:=q) (os := #[]) xs.reverse.toArray
  rw [Sort.grow_empty,<-hw] at h1 h2
  refine ⟨_,w',he,Eqv.refl _,_,rfl,?_,jz e1 h2,hl,H⟩
  unfold Own
  rw [hl,<-enc_vs]
  exact h1
end
 
section
open Go Go.RowKit
attribute [local irreducible] WL WC WX WQ WK WJ Yld Eff Ef0 Fn
def Zp (c:Int) (K:Bool->Prop):Prop :=
 ((((((decide ((48:Int)<=c)) && (decide (c<=(57:Int)))) || ((decide ((65:Int)<=c)) && (decide (c<=(90:Int))))) || ((decide ((97:Int)<=c)) && (decide (c<=(122:Int)))))=true->K true) /\
 (((((decide ((48:Int)<=c)) && (decide (c<=(57:Int)))) || ((decide ((65:Int)<=c)) && (decide (c<=(90:Int))))) || ((decide ((97:Int)<=c)) && (decide (c<=(122:Int)))))=false->Zn ([33,35,37,43,44,45,46,61,64,95,126]:List UInt8) c (fun (t26:Int) =>
 K (decide ((0:Int)<=t26)))))
def M_path_dots (s:List UInt8) (K:Bool->Prop):Prop :=
 K (((decide (s=([]:List UInt8))) || (decide (s=([46]:List UInt8)))) || (decide (s=([46,46]:List UInt8))))
def M_path_fair (s:List UInt8) (K:Bool->Prop):Prop :=
 Lp1 (fun (t6:Int) kont1=>((t6<(s.length:Int)->(0<=t6/\t6<s.length) /\
 Zp ((s.getD t6.toNat 0).toNat:Int) (fun (t12:Bool) =>
 (((!t12)=true->K false) /\
 ((!t12)=false->(In .i64 (t6+(1:Int))) /\
 kont1 (t6+(1:Int)))))) /\
 (¬ (t6<(s.length:Int))->M_path_dots s (fun (t16:Bool) =>
 K (!t16))))) (0:Int)
def Zh (p:List UInt8) (K:Bool->Prop):Prop :=
 (((200:Int)<(p.length:Int)->K false) /\
 (¬ ((200:Int)<(p.length:Int))->Zs p ([47]:List UInt8) (fun (t9:List (List UInt8)) =>
 Lp1 (fun (t11:Int) kont1=>((t11<(t9.length:Int)->(0<=t11/\t11<(t9.length:Nat)) /\
 M_path_fair (t9.getD t11.toNat []) (fun (t16:Bool) =>
 (((!t16)=true->K false) /\
 ((!t16)=false->(In .i64 (t11+(1:Int))) /\
 kont1 (t11+(1:Int)))))) /\
 (¬ (t11<(t9.length:Int))->K true))) (0:Int))))
def jk (l:List (List UInt8)) (s:List UInt8) (K:Int->Prop):Prop :=
 (l.length<=maxLen ->
 Lp1 (fun (i:Int) kont1=>((i<(l.length:Int)->(0<=i/\i<(l.length:Nat)) /\
 (((l.getD i.toNat [])=s->K i) /\
 (¬ ((l.getD i.toNat [])=s)->(In .i64 (i+(1:Int))) /\
 kont1 (i+(1:Int))))) /\
 (¬ (i<(l.length:Int))->K (-1:Int)))) (0:Int))
def jH (l:List (List UInt8)) (K:(List (List UInt8))->Prop):Prop :=
 (l.length<=maxLen ->
 Lp2 (fun (out:List (List UInt8)) (i:Int) kont1=>((i<(l.length:Int)->∃ J1:(List (List UInt8))->Prop,(Lp1 (fun (k:Int) kont2=>((decide (k<(out.length:Int)))=true->(0<=k/\k<(out.length:Nat))) /\
 ((decide (k<(out.length:Int)))=true->(0<=i/\i<(l.length:Nat))) /\
 ((((decide (k<(out.length:Int))) && (Op.bytesLess (out.getD k.toNat []) (l.getD i.toNat [])))=true->(In .i64 (k+(1:Int))) /\
 kont2 (k+(1:Int))) /\
 (((decide (k<(out.length:Int))) && (Op.bytesLess (out.getD k.toNat []) (l.getD i.toNat [])))=false->((decide (k<(out.length:Int)))=true->(0<=k/\k<(out.length:Nat))) /\
 ((decide (k<(out.length:Int)))=true->(0<=i/\i<(l.length:Nat))) /\
 ((((decide (k<(out.length:Int))) && (decide ((out.getD k.toNat [])=(l.getD i.toNat []))))=true->J1 out) /\
 (((decide (k<(out.length:Int))) && (decide ((out.getD k.toNat [])=(l.getD i.toNat []))))=false->(In .i64 ((out.length:Int)+(1:Int))) /\
 (0<=(out.length:Int)+(1:Int)/\((out.length:Int)+(1:Int))*16<=140737488355328/\(out.length:Int)+(1:Int)<=140737488355328) /\
 (0<=k/\k<=(out.length:Nat)) /\
 (((([]:List (List UInt8))).length+(out.take k.toNat).length)*16<=140737488355328) /\
 (0<=i/\i<(l.length:Nat)) /\
 (((([]:List (List UInt8))++(out.take k.toNat)).length+(([l.getD i.toNat []]:List (List UInt8))).length)*16<=140737488355328) /\
 (0<=k/\k<=(out.length:Int)/\(out.length:Int)<=(out.length:Nat)) /\
 ((((([]:List (List UInt8))++(out.take k.toNat))++([l.getD i.toNat []]:List (List UInt8))).length+(out.drop k.toNat).length)*16<=140737488355328) /\
 J1 (((([]:List (List UInt8))++(out.take k.toNat))++([l.getD i.toNat []]:List (List UInt8)))++(out.drop k.toNat))))))) (0:Int)) /\
 (∀ out2:List (List UInt8),J1 out2->(In .i64 (i+(1:Int))) /\
 kont1 out2 (i+(1:Int)))) /\
 (¬ (i<(l.length:Int))->K out))) [] (0:Int))
def jO (l:List (List UInt8)) (most:Int) (long:Int) (K:Bool->Prop):Prop :=
 (l.length<=maxLen ->
 ((most<(l.length:Int)->K false) /\
 (¬ (most<(l.length:Int))->Lp1 (fun (i:Int) kont1=>((i<(l.length:Int)->(0<=i/\i<(l.length:Nat)) /\
 ((long<((l.getD i.toNat []).length:Int)->K false) /\
 (¬ (long<((l.getD i.toNat []).length:Int))->(In .i64 (i+(1:Int))) /\
 kont1 (i+(1:Int))))) /\
 (¬ (i<(l.length:Int))->K true))) (0:Int))))
set_option maxHeartbeats 8000000 in
theorem W_path_letter {w:World} {c:Int} {K:Bool->Prop} (H:Zp c K):Fn Tryz.prog 119 ⟨[.int .u8 c]⟩ w (fun v w'=>w=w'/\∃ (r:Bool),v=.bool r/\K r):=by
 unfold Zp at H
 refine Fn.enter (by kernel_rfl) Tryz.func119 rfl Tryz.ntmps119 rfl ?_
 refine zc (zb (yp (h:=(zd (za (zc (zc (zb (yp (h:=(yp (h:=(yp (h:=(zD 3 (fun L' w'=>∃ q1:Bool,L'=[(8,.bool q1),(0,.int .u8 c)]/\((decide ((48:Int)<=c)) && (decide (c<=(57:Int))))=q1/\w=w') ?_ (fun hQ=>?_))))))))))))))))
 ·rintro _ _ ⟨q1,rfl,rfl,rfl⟩
  refine yp (h:=(zD 7 (fun L' w'=>∃ q2:Bool,L'=[(16,.bool q2),(0,.int .u8 c)]/\(((decide ((48:Int)<=c)) && (decide (c<=(57:Int)))) || ((decide ((65:Int)<=c)) && (decide (c<=(90:Int)))))=q2/\w=w') ?_ (fun hQ=>?_)))
  ·rintro _ _ ⟨q2,rfl,rfl,rfl⟩
   refine yp (h:=(zD 7 (fun L' w'=>∃ q3:Bool,L'=[(24,.bool q3),(0,.int .u8 c)]/\((((decide ((48:Int)<=c)) && (decide (c<=(57:Int)))) || ((decide ((65:Int)<=c)) && (decide (c<=(90:Int))))) || ((decide ((97:Int)<=c)) && (decide (c<=(122:Int)))))=q3/\w=w') ?_ (fun hQ=>?_)))
   ·rintro _ _ ⟨q3,rfl,rfl,rfl⟩
    refine zd (za (zk rfl (fun b1=>?_) (fun b1=>?_)))
    ·replace H:=H.1 (b1)
     exact zc (zb (yp (h:=(zd (za (zq (zh (zx rfl rfl ⟨rfl,true,rfl,H⟩))))))))
    ·replace H:=H.2 (b1)
     refine zm (za (zc (zb (yp (h:=(zr rfl rfl (W_strings_IndexByte H) ?_))))))
     rintro _ _ ⟨rfl,t26,rfl,H⟩
     exact yp (h:=(yp (h:=(zd (za (zq (zx rfl rfl ⟨rfl,decide ((0:Int)<=t26),rfl,H⟩)))))))
   ·clear H
    rcases Bool.eq_false_or_eq_true (((decide ((48:Int)<=c)) && (decide (c<=(57:Int)))) || ((decide ((65:Int)<=c)) && (decide (c<=(90:Int))))) with b2 | b2
    ·exact gn b2 (h:=(gn b2 (h:=(gn b2 (h:=(z8 rfl rfl rfl rfl (z8 rfl rfl rfl rfl (gn b2 (h:=(zi rfl (zy (okb b2) rfl) (wk (hQ _ _ ⟨true,rfl,by rw [b2] <;> rfl,rfl⟩))))))))))))
    ·refine gp b2 (h:=(gp b2 (h:=(gp b2 (h:=?_)))))
     rcases Bool.eq_false_or_eq_true (decide ((97:Int)<=c)) with b3 | b3
     ·exact gp b3 (h:=(gp b3 (h:=(zC rfl rfl (okb b2) rfl (zy (okb b3) rfl) (zi rfl (zv (okb b2) rfl) (wk (hQ _ _ ⟨decide (c<=(122:Int)),rfl,by rw [b2,b3] <;> rfl,rfl⟩)))))))
     ·exact gn b3 (h:=(gn b3 (h:=(zC rfl rfl (okb b2) rfl (zv (okb b3) rfl) (zi rfl (zv (okb b2) rfl) (wk (hQ _ _ ⟨false,rfl,by rw [b2,b3] <;> rfl,rfl⟩)))))))
  ·clear H
   rcases Bool.eq_false_or_eq_true ((decide ((48:Int)<=c)) && (decide (c<=(57:Int)))) with b4 | b4
   ·exact gn b4 (h:=(gn b4 (h:=(gn b4 (h:=(z8 rfl rfl rfl rfl (z8 rfl rfl rfl rfl (gn b4 (h:=(zi rfl (zy (okb b4) rfl) (wk (hQ _ _ ⟨true,rfl,by rw [b4] <;> rfl,rfl⟩))))))))))))
   ·refine gp b4 (h:=(gp b4 (h:=(gp b4 (h:=?_)))))
    rcases Bool.eq_false_or_eq_true (decide ((65:Int)<=c)) with b5 | b5
    ·exact gp b5 (h:=(gp b5 (h:=(zC rfl rfl (okb b4) rfl (zy (okb b5) rfl) (zi rfl (zv (okb b4) rfl) (wk (hQ _ _ ⟨decide (c<=(90:Int)),rfl,by rw [b4,b5] <;> rfl,rfl⟩)))))))
    ·exact gn b5 (h:=(gn b5 (h:=(zC rfl rfl (okb b4) rfl (zv (okb b5) rfl) (zi rfl (zv (okb b4) rfl) (wk (hQ _ _ ⟨false,rfl,by rw [b4,b5] <;> rfl,rfl⟩)))))))
 ·clear H
  rcases Bool.eq_false_or_eq_true (decide ((48:Int)<=c)) with b6 | b6
  ·exact gp b6 (h:=(gp b6 (h:=(zi rfl (zy (okb b6) rfl) (wk (hQ _ _ ⟨decide (c<=(57:Int)),rfl,by rw [b6] <;> rfl,rfl⟩))))))
  ·exact gn b6 (h:=(gn b6 (h:=(zi rfl (zv (okb b6) rfl) (wk (hQ _ _ ⟨false,rfl,by rw [b6] <;> rfl,rfl⟩))))))
set_option maxHeartbeats 8000000 in
theorem W_path_dots {w:World} {s:List UInt8} {K:Bool->Prop} (H:M_path_dots s K):Fn Tryz.prog 120 ⟨[vs s]⟩ w (fun v w'=>w=w'/\∃ (r:Bool),v=.bool r/\K r):=by
 unfold M_path_dots at H
 refine Fn.enter (by kernel_rfl) Tryz.func120 rfl Tryz.ntmps120 rfl ?_
 refine zc (zb (yp (h:=(zd (za (zc (zb (yp (h:=(yp (h:=(yp (h:=(zD 3 (fun L' w'=>∃ q1:Bool,L'=[(8,.bool q1),(0,vs s)]/\((decide (s=([]:List UInt8))) || (decide (s=([46]:List UInt8))))=q1/\w=w') ?_ (fun hQ=>?_)))))))))))))))
 ·rintro _ _ ⟨q1,rfl,rfl,rfl⟩
  refine yp (h:=(zD 3 (fun L' w'=>∃ q2:Bool,L'=[(12,.bool q2)]/\(((decide (s=([]:List UInt8))) || (decide (s=([46]:List UInt8)))) || (decide (s=([46,46]:List UInt8))))=q2/\w=w') ?_ (fun hQ=>?_)))
  ·rintro _ _ ⟨q2,rfl,rfl,rfl⟩
   exact yp (h:=(zd (za (zq (zx rfl rfl ⟨rfl,((decide (s=([]:List UInt8))) || (decide (s=([46]:List UInt8)))) || (decide (s=([46,46]:List UInt8))),rfl,H⟩)))))
  ·clear H
   rcases Bool.eq_false_or_eq_true ((decide (s=([]:List UInt8))) || (decide (s=([46]:List UInt8)))) with b1 | b1
   ·exact gn b1 (h:=(gn b1 (h:=(zi rfl (zy (okb b1) rfl) (wk (hQ _ _ ⟨true,rfl,by rw [b1] <;> rfl,rfl⟩))))))
   ·exact gp b1 (h:=(gp b1 (h:=(zi rfl (zv (okb b1) rfl) (wk (hQ _ _ ⟨decide (s=([46,46]:List UInt8)),rfl,by rw [b1] <;> rfl,rfl⟩))))))
 ·clear H
  rcases Bool.eq_false_or_eq_true (decide (s=([]:List UInt8))) with b2 | b2
  ·exact gn b2 (h:=(gn b2 (h:=(zi rfl (zy (okb b2) rfl) (wk (hQ _ _ ⟨true,rfl,by rw [b2] <;> rfl,rfl⟩))))))
  ·exact gp b2 (h:=(gp b2 (h:=(zi rfl (zv (okb b2) rfl) (wk (hQ _ _ ⟨decide (s=([46]:List UInt8)),rfl,by rw [b2] <;> rfl,rfl⟩))))))
set_option maxHeartbeats 8000000 in
theorem W_path_fair {w:World} {s:List UInt8} {K:Bool->Prop} (H:M_path_fair s K):Fn Tryz.prog 79 ⟨[vs s]⟩ w (fun v w'=>w=w'/\∃ (r:Bool),v=.bool r/\K r):=by
 unfold M_path_fair at H
 refine Fn.enter (by kernel_rfl) Tryz.func79 rfl Tryz.ntmps79 rfl ?_
 refine zc (zb (yp (h:=(zd (za (zc (zc (zb (yp (h:=(yp (h:=(yp (h:=(zd (za (WC.block ?_)))))))))))))))))
 obtain ⟨I1,mu1,a0,HR1⟩:=H
 refine zA (fun n' L' w'=>∃ (t6:Int),n'=mu1 t6/\L'=[(0,vs s),(5,.int .i64 (s.length:Int)),(6,.int .i64 t6)]/\I1 t6/\w=w') _ _ ⟨(0:Int),rfl,rfl,a0,rfl⟩ sb ?_
 clear a0
 rintro _ _ _ ⟨t6,rfl,rfl,hI1,rfl⟩
 have H:=HR1 t6 hI1
 refine zc (zb (yp (h:=(zd (za (zc (zk rfl (fun b1=>?_) (fun b1=>?_))))))))
 ·replace H:=H.1 (of_decide_eq_true b1)
  refine zm (za (zc (WC.block (zc (zb (yp (h:=(yp (h:=(zd (za (zc (zb (yp (h:=(yp (h:=?_)))))))))))))))))
  obtain ⟨h1,H⟩:=H
  refine zi rfl (qi qD rfl rfl rfl h1.1 h1.2) (zr rfl rfl (W_path_letter H) ?_)
  rintro _ _ ⟨rfl,t12,rfl,H⟩
  refine yp (h:=(zd (za (zk rfl (fun b2=>?_) (fun b2=>?_)))))
  ·replace H:=H.1 (b2)
   exact zc (zb (yp (h:=(zd (za (zq (zp (zh (zh (zp (zh (zx rfl rfl ⟨rfl,false,rfl,H⟩))))))))))))
  ·replace H:=H.2 (b2)
   refine zm (zg (za (zb ?_)))
   obtain ⟨h2,H⟩:=H
   exact zi rfl (Yld.add rfl rfl h2) (yp (h:=(zd (zw _ ⟨t6+(1:Int),rfl,rfl,H.1,rfl⟩ sb H.2))))
 ·replace H:=H.2 (of_decide_eq_false b1)
  refine zz (zf (zf (zj (za (zc (zb (yp (h:=(zr rfl rfl (W_path_dots H) ?_)))))))))
  rintro _ _ ⟨rfl,t16,rfl,H⟩
  exact yp (h:=(yp (h:=(zd (za (zq (zx rfl rfl ⟨rfl,!t16,rfl,H⟩)))))))
set_option maxHeartbeats 8000000 in
theorem W_path_Valid {S:List Nat} {w:World} {p:List UInt8} {K:Bool->Prop} (hG:GOK S w) (hS100:100∈S) (H:Zh p K):Fn Tryz.prog 56 ⟨[vs p]⟩ w (fun v w'=>w.grownBy w' none/\∃ (r:Bool),v=.bool r/\K r):=by
 unfold Zh at H
 refine Fn.enter (by kernel_rfl) Tryz.func56 rfl Tryz.ntmps56 rfl ?_
 refine zc (zb (yp (h:=(zd (za (zc (zc (zb (yp (h:=(yp (h:=(yp (h:=(zd (za (zk rfl (fun b1=>?_) (fun b1=>?_))))))))))))))))))
 ·replace H:=H.1 (of_decide_eq_true b1)
  exact zc (zb (yp (h:=(zd (za (zq (zh (zx rfl rfl ⟨(qK _ _),false,rfl,H⟩))))))))
 ·replace H:=H.2 (of_decide_eq_false b1)
  refine zm (za (zc (zc (zb (yp (h:=(zr rfl rfl (W_strings_Split hG hS100 H) ?_)))))))
  rintro _ w1 ⟨hg1,t9,c1,c3,rfl,ht9,H⟩
  have hb1:=ht9.ge'
  have k1:=ht9.base (fun g hg=>Nat.le_trans (Nat.le_refl _) (hb1 g hg))
  have gr1:=hg1
  refine yp (h:=(yp (h:=(zd (za (WC.block ?_))))))
  obtain ⟨I1,mu1,a0,HR1⟩:=H
  refine zA (fun n' L' w'=>∃ (t11:Int),n'=mu1 t11/\L'=[(9,.slice c1 t9.length c3),(10,.int .i64 (t9.length:Int)),(11,.int .i64 t11)]/\I1 t11/\w1=w') _ _ ⟨(0:Int),rfl,rfl,a0,rfl⟩ sb ?_
  clear a0
  rintro _ _ _ ⟨t11,rfl,rfl,hI1,rfl⟩
  have H:=HR1 t11 hI1
  refine zc (zb (yp (h:=(zd (za (zc (zk rfl (fun b2=>?_) (fun b2=>?_))))))))
  ·replace H:=H.1 (of_decide_eq_true b2)
   refine zm (za (zc (WC.block (zc (zb ?_)))))
   obtain ⟨h1,H⟩:=H
   refine zi rfl (zn qD k1.rd rfl rfl rfl rfl h1.1 h1.2) (zi rfl (zo [] qD k1.rd rfl rfl (iltN h1 rfl)) (yp (h:=(zd (za (zc (zb (yp (h:=(zr rfl rfl (W_path_fair H) ?_))))))))))
   rintro _ _ ⟨rfl,t16,rfl,H⟩
   refine yp (h:=(zd (za (zk rfl (fun b3=>?_) (fun b3=>?_)))))
   ·replace H:=H.1 (b3)
    exact zc (zb (yp (h:=(zd (za (zq (zp (zh (zh (zp (zh (zx rfl rfl ⟨gr1,false,rfl,H⟩))))))))))))
   ·replace H:=H.2 (b3)
    refine zm (zg (za (zb ?_)))
    obtain ⟨h2,H⟩:=H
    exact zi rfl (Yld.add rfl rfl h2) (yp (h:=(zd (zw _ ⟨t11+(1:Int),rfl,rfl,H.1,rfl⟩ sb H.2))))
  ·replace H:=H.2 (of_decide_eq_false b2)
   exact zz (zf (zf (zj (za (zc (zb (yp (h:=(zd (za (zq (zx rfl rfl ⟨gr1,true,rfl,H⟩))))))))))))
set_option maxHeartbeats 8000000 in
theorem W_smithyref_AmongTexts {w:World} {l:List (List UInt8)} {A_l:Option Addr} {c_l:Nat} {s:List UInt8} {n_l:Nat} {K:Int->Prop} (hl:Rd vs w A_l c_l l) (a6:n_l=l.length) (H:jk l s K):Fn Tryz.prog 14 ⟨[.slice A_l n_l c_l,vs s]⟩ w (fun v w'=>w=w'/\∃ (r:Int),v=.int .i64 r/\K r):=by
 subst a6
 unfold jk at H
 refine Fn.enter (by kernel_rfl) Tryz.func14 rfl Tryz.ntmps14 rfl ?_
 replace H:=H (Nat.le_trans hl.cap hl.max)
 refine zc (zb (yp (h:=(zd (za (zc (zc (zb (yp (h:=(zd (za (WC.block ?_)))))))))))))
 obtain ⟨I1,mu1,a0,HR1⟩:=H
 refine zA (fun n' L' w'=>∃ (i:Int),n'=mu1 i/\L'=[(0,.slice A_l l.length c_l),(1,vs s),(5,.int .i64 i)]/\I1 i/\w=w') _ _ ⟨(0:Int),rfl,rfl,a0,rfl⟩ sb ?_
 clear a0
 rintro _ _ _ ⟨i,rfl,rfl,hI1,rfl⟩
 have H:=HR1 i hI1
 refine zc (zc (zb (yp (h:=(yp (h:=(yp (h:=(yp (h:=(zd (za (zk rfl (fun b1=>?_) (fun b1=>?_))))))))))))))
 ·replace H:=H.1 (of_decide_eq_true b1)
  refine zm (za (zc (WC.block (zc (zb (yp (h:=(yp (h:=?_)))))))))
  obtain ⟨h1,H⟩:=H
  refine zi rfl (zn qD hl rfl rfl rfl rfl h1.1 h1.2) (zi rfl (zo [] qD hl rfl rfl (iltN h1 rfl)) (yp (h:=(yp (h:=(zd (za (zk rfl (fun b2=>?_) (fun b2=>?_)))))))))
  ·replace H:=H.1 (of_decide_eq_true b2)
   exact zc (zb (yp (h:=(yp (h:=(zd (za (zq (zp (zh (zh (zp (zh (zx rfl rfl ⟨rfl,i,rfl,H⟩))))))))))))))
  ·replace H:=H.2 (of_decide_eq_false b2)
   refine zm (zg (za (zb (yp (h:=?_)))))
   obtain ⟨h2,H⟩:=H
   exact zi rfl (Yld.add rfl rfl h2) (yp (h:=(zd (zw _ ⟨i+(1:Int),rfl,rfl,H.1,rfl⟩ sb H.2))))
 ·replace H:=H.2 (of_decide_eq_false b1)
  exact zz (zf (zf (zj (za (zc (zb (yp (h:=(zd (za (zq (zx rfl rfl ⟨rfl,(-1:Int),rfl,H⟩))))))))))))
set_option maxHeartbeats 8000000 in
theorem W_smithyref_SortedTexts {w:World} {l:List (List UInt8)} {A_l:Option Addr} {c_l:Nat} {n_l:Nat} {K:(List (List UInt8))->Prop} (hl:Rd vs w A_l c_l l) (a6:n_l=l.length) (H:jH l K):Fn Tryz.prog 54 ⟨[.slice A_l n_l c_l]⟩ w (fun v w'=>w.grownBy w' none/\∃ (r:List (List UInt8)),∃ (A_r:Option Addr),∃ (c_r:Nat),v=.slice A_r r.length c_r/\Own vs w' w.heap.size 9 A_r c_r r/\K r):=by
 subst a6
 unfold jH at H
 refine Fn.enter (by kernel_rfl) Tryz.func54 rfl Tryz.ntmps54 rfl ?_
 replace H:=H (Nat.le_trans hl.cap hl.max)
 refine zc (zb (yp (h:=(zd (za (zc (zb (yp (h:=(zd (za (zc (zc (zb (yp (h:=(zd (za (WC.block ?_)))))))))))))))))))
 obtain ⟨I1,mu1,a0,HR1⟩:=H
 refine zA (fun n' L' w'=>∃ (out:List (List UInt8)),∃ (a1:Option Addr),∃ (a2:Nat),∃ (a7:Nat),∃ (i:Int),n'=mu1 out i/\L'=[(0,.slice A_l l.length c_l),(3,.slice a1 a7 a2),(4,.int .i64 i)]/\I1 out i/\a7=out.length/\w.grownBy w' none/\Own vs w' w.heap.size 9 a1 a2 out) _ _ ⟨[],none,0,0,(0:Int),rfl,rfl,a0,rfl,(qK _ _),(Own.nil vs w w.heap.size 9)⟩ sb ?_
 clear a0
 rintro _ _ w1 ⟨out,a1,a2,a7,i,rfl,rfl,hI1,rfl,gr1,k1⟩
 have H:=HR1 out i hI1
 refine zc (zc (zb (yp (h:=(yp (h:=(yp (h:=(yp (h:=(zd (za (zk rfl (fun b1=>?_) (fun b1=>?_))))))))))))))
 ·replace H:=H.1 (of_decide_eq_true b1)
  refine zm (za (zc ?_))
  obtain ⟨J1,H,hJ1⟩:=H
  refine zL (fun L' w'=>∃ (out2:List (List UInt8)),∃ (a3:Option Addr),∃ (a4:Nat),∃ (a5:Nat),L'=[(0,.slice A_l l.length c_l),(3,.slice a3 a5 a4),(4,.int .i64 i)]/\J1 out2/\a5=out2.length/\w.grownBy w' none/\Own vs w' w.heap.size 9 a3 a4 out2) ?_ (fun hQ=>?_)
  ·clear H
   rintro _ w2 ⟨out2,a3,a4,a5,rfl,H,rfl,gr2,k2⟩
   replace H:=hJ1 out2 H
   refine za (zb (yp (h:=?_)))
   obtain ⟨h1,H⟩:=H
   exact zi rfl (Yld.add rfl rfl h1) (yp (h:=(zd (zw _ ⟨out2,a3,a4,out2.length,i+(1:Int),rfl,rfl,H.1,rfl,gr2,k2⟩ sb H.2))))
  ·clear hJ1
   refine WC.block (zc (zb (yp (h:=(zd (za (zc (WC.block ?_))))))))
   obtain ⟨I2,mu2,b7,HR2⟩:=H
   refine zA (fun n' L' w'=>∃ (k:Int),n'=mu2 k/\L'=[(0,.slice A_l l.length c_l),(3,.slice a1 out.length a2),(4,.int .i64 i),(5,.int .i64 k)]/\I2 k/\w1=w') _ _ ⟨(0:Int),rfl,rfl,b7,rfl⟩ sb ?_
   clear b7
   rintro _ _ _ ⟨k,rfl,rfl,hI2,rfl⟩
   have H:=HR2 k hI2
   refine zc (zc (zQ mixed (by kernel_rfl) (zB rfl (ze qD rfl) (zB rfl (ze qD rfl) (zB rfl (ze qD rfl) (zB rfl (ze qD rfl) (zB rfl (ze qD rfl) ?_)))))))
   obtain ⟨h2,H⟩:=H
   obtain ⟨h3,H⟩:=H
   refine qp 10 (fun L' w'=>∃ q1:Bool,L'=[(27,.bool q1),(0,.slice A_l l.length c_l),(3,.slice a1 out.length a2),(4,.int .i64 i),(5,.int .i64 k)]/\((decide (k<(out.length:Int))) && (Op.bytesLess (out.getD k.toNat []) (l.getD i.toNat [])))=q1/\w1=w') ?_ (fun hQ=>?_)
   ·rintro _ _ ⟨q1,rfl,rfl,rfl⟩
    refine zW (za (zk rfl (fun b2=>?_) (fun b2=>?_)))
    ·replace H:=H.1 (b2)
     refine zm (za (WC.block (zb (yp (h:=?_)))))
     obtain ⟨h4,H⟩:=H
     exact zi rfl (Yld.add rfl rfl h4) (yp (h:=(zd (zg (zw _ ⟨k+(1:Int),rfl,rfl,H.1,rfl⟩ sb H.2)))))
    ·replace H:=H.2 (b2)
     refine zz (zf (zf (zj (za (zc (zc (zQ mixed (by kernel_rfl) (zB rfl (ze qD rfl) (zB rfl (ze qD rfl) (zB rfl (ze qD rfl) (zB rfl (ze qD rfl) (zB rfl (ze qD rfl) ?_))))))))))))
     obtain ⟨h5,H⟩:=H
     obtain ⟨h6,H⟩:=H
     refine qp 10 (fun L' w'=>∃ q2:Bool,L'=[(44,.bool q2),(0,.slice A_l l.length c_l),(3,.slice a1 out.length a2),(4,.int .i64 i),(5,.int .i64 k)]/\((decide (k<(out.length:Int))) && (decide ((out.getD k.toNat [])=(l.getD i.toNat []))))=q2/\w1=w') ?_ (fun hQ=>?_)
     ·rintro _ _ ⟨q2,rfl,rfl,rfl⟩
      refine zW (za (zk rfl (fun b3=>?_) (fun b3=>?_)))
      ·replace H:=H.1 (b3)
       exact zz (zf (zj (WX.weaken sb (hQ _ _ ⟨out,a1,a2,out.length,rfl,H,rfl,gr1,k1⟩))))
      ·replace H:=H.2 (b3)
       refine zm (za (zc (zO (fun k => !(Nat.beq k 3 || Nat.beq k 7)) (LD [] (fun w'=>True)) mixed (by kernel_rfl) (fun k w' h _=>trivial) (zu rfl rfl (fun w' hw'=>ze qD rfl) (zu rfl rfl (fun w' hw'=>ze qD rfl) ?_)))))
       obtain ⟨h7,H⟩:=H
       refine zu rfl rfl (fun w' hw'=>Yld.add rfl rfl h7) ?_
       obtain ⟨h8,H⟩:=H
       refine z6 rfl (qI) rfl (Eff.makeCI (f:=vs) (B:=w.heap.size) qD rfl rfl rfl h8.1 h8.2.1 h8.2.2 (qF gr1)) (fun v w' ⟨_,_,h⟩=>DD.keep trivial) ?_
       rintro _ w3 ⟨rfl,hB1,hg1⟩
       obtain ⟨b0,hl1⟩:∃ g,g=w1.heap.size:=⟨_,rfl⟩
       rw [<-hl1] at hB1
       rw [<-hl1]
       have hO1:Own vs w3 w.heap.size 9 (some ⟨b0,0,none⟩) (((out.length:Int)+(1:Int)).toNat) ([]:List (List UInt8)):=hB1.base (fun g hg=>by cases hg; exact Nat.le_trans (qF gr1) (Nat.le_of_eq hl1.symm))
       have gr3:=qE gr1 hg1
       have k3:=k1.grown hg1
       refine zu rfl rfl (fun w' hw'=>ze qD rfl) (zu rfl rfl (fun w' hw'=>ze qD rfl) ?_)
       obtain ⟨h9,H⟩:=H
       refine zu rfl rfl (fun w' hw'=>Yld.ocutY qD k3.rd rfl rfl rfl rfl rfl h9.1 h9.2) ?_
       obtain ⟨h10,H⟩:=H
       refine z6 rfl (qI) rfl (Eff.append qD rfl One.s hO1 rfl rfl (k3.rd.take k.toNat) rfl rfl h10 (qN h10) (qF gr3)) (fun v w' ⟨_,_,_,_,h,_⟩=>DD.keep trivial) ?_
       rintro _ w4 ⟨c0,c2,rfl,hO2,hg2,hk1⟩
       have gr4:=qH gr3 hg2 hO1.ge'
       refine zu rfl rfl (fun w' hw'=>ze qD rfl) (zX (za (zc (zb (yp (h:=(yp (h:=(yp (h:=?_))))))))))
       obtain ⟨h11,H⟩:=H
       refine zi rfl (zn qD (hl.grown gr4) rfl rfl rfl rfl h11.1 h11.2) (zi rfl (zo [] qD (hl.grown gr4) rfl rfl (iltN h11 rfl)) (zP qD rfl rfl rfl (qG rfl qR) rfl (by omega) (fun g1 w5 hB2 hg3 hl2=>?_)))
       have hO3:Own vs w5 w.heap.size 9 (some ⟨g1,0,none⟩) 1 ([l.getD i.toNat []]:List (List UInt8)):=Own.ofBl hB2 (Nat.le_trans (qF gr4) hl2) (by simp [maxLen]) rfl
       have gr5:=qE gr4 hg3
       have k6:=hO2.grown hg3
       obtain ⟨h12,H⟩:=H
       refine zG qD rfl rfl One.s k6 rfl rfl hO3.rd rfl rfl h12 (qN h12) (qF gr5) (fun b8 b9 w6 hO4 hg4 hk2=>?_)
       have gr6:=qH gr5 hg4 k6.ge'
       refine yp (h:=(zd (za (zb (yp (h:=(yp (h:=(yp (h:=?_))))))))))
       obtain ⟨h13,H⟩:=H
       refine WL.cutF qD (((k3.go hg2 (Dj.new k1.lt' (Ge.box (Nat.le_of_eq hl1.symm)))).grown hg3).go hg4 ((Dj.app (Dj.new k1.lt' (Ge.box (Nat.le_of_eq hl1.symm))).symm k3.lt' hk1).symm)).rd rfl rfl rfl rfl rfl h13.1 h13.2.1 (fun c4 c5 hR1 hb1=>?_)
       obtain ⟨h14,H⟩:=H
       exact zG qD rfl rfl One.s hO4 rfl rfl hR1 rfl rfl h14 (qN h14) (qF gr6) (fun a8 a9 w7 hO5 hg5 hk3=>yp (h:=(zd (zg (WX.weaken sb (hQ _ _ ⟨((([]:List (List UInt8))++(out.take k.toNat))++([l.getD i.toNat []]:List (List UInt8)))++(out.drop k.toNat),a8,a9,(((([]:List (List UInt8))++(out.take k.toNat))++([l.getD i.toNat []]:List (List UInt8)))++(out.drop k.toNat)).length,rfl,H,rfl,(qH gr6 hg5 hO4.ge'),hO5⟩))))))
     ·clear H
      rcases Bool.eq_false_or_eq_true (decide (k<(out.length:Int))) with b4 | b4
      ·exact zF rfl rfl (okb b4) rfl (ze qD rfl) (zF rfl rfl (okb b4) rfl (ze qD rfl) (zF rfl rfl (okb b4) rfl (zn qD k1.rd rfl rfl rfl rfl (h5 b4).1 (h5 b4).2) (zF rfl rfl (okb b4) rfl (zo [] qD k1.rd rfl rfl (iltN (h5 b4) rfl)) (zF rfl rfl (okb b4) rfl (ze qD rfl) (zF rfl rfl (okb b4) rfl (ze qD rfl) (zF rfl rfl (okb b4) rfl (zn qD (hl.grown gr1) rfl rfl rfl rfl (h6 b4).1 (h6 b4).2) (zF rfl rfl (okb b4) rfl (zo [] qD (hl.grown gr1) rfl rfl (iltN (h6 b4) rfl)) (zF rfl rfl (okb b4) rfl (ze qD rfl) (zB rfl (zy (okb b4) rfl) (WQ.weaken sb (hQ _ _ ⟨decide ((out.getD k.toNat [])=(l.getD i.toNat [])),rfl,by rw [b4] <;> rfl,rfl⟩)))))))))))
      ·exact zI rfl rfl (okb b4) rfl (zI rfl rfl (okb b4) rfl (zI rfl rfl (okb b4) rfl (zI rfl rfl (okb b4) rfl (zI rfl rfl (okb b4) rfl (zI rfl rfl (okb b4) rfl (zI rfl rfl (okb b4) rfl (zI rfl rfl (okb b4) rfl (zI rfl rfl (okb b4) rfl (zB rfl (zv (okb b4) rfl) (WQ.weaken sb (hQ _ _ ⟨false,rfl,by rw [b4] <;> rfl,rfl⟩)))))))))))
   ·clear H
    rcases Bool.eq_false_or_eq_true (decide (k<(out.length:Int))) with b5 | b5
    ·exact zF rfl rfl (okb b5) rfl (ze qD rfl) (zF rfl rfl (okb b5) rfl (ze qD rfl) (zF rfl rfl (okb b5) rfl (zn qD k1.rd rfl rfl rfl rfl (h2 b5).1 (h2 b5).2) (zF rfl rfl (okb b5) rfl (zo [] qD k1.rd rfl rfl (iltN (h2 b5) rfl)) (zF rfl rfl (okb b5) rfl (ze qD rfl) (zF rfl rfl (okb b5) rfl (ze qD rfl) (zF rfl rfl (okb b5) rfl (zn qD (hl.grown gr1) rfl rfl rfl rfl (h3 b5).1 (h3 b5).2) (zF rfl rfl (okb b5) rfl (zo [] qD (hl.grown gr1) rfl rfl (iltN (h3 b5) rfl)) (zF rfl rfl (okb b5) rfl (ze qD rfl) (zB rfl (zy (okb b5) rfl) (WQ.weaken sb (hQ _ _ ⟨Op.bytesLess (out.getD k.toNat []) (l.getD i.toNat []),rfl,by rw [b5] <;> rfl,rfl⟩)))))))))))
    ·exact zI rfl rfl (okb b5) rfl (zI rfl rfl (okb b5) rfl (zI rfl rfl (okb b5) rfl (zI rfl rfl (okb b5) rfl (zI rfl rfl (okb b5) rfl (zI rfl rfl (okb b5) rfl (zI rfl rfl (okb b5) rfl (zI rfl rfl (okb b5) rfl (zI rfl rfl (okb b5) rfl (zB rfl (zv (okb b5) rfl) (WQ.weaken sb (hQ _ _ ⟨false,rfl,by rw [b5] <;> rfl,rfl⟩)))))))))))
 ·replace H:=H.2 (of_decide_eq_false b1)
  exact zz (zf (zf (zj (za (zc (zb (yp (h:=(yp (h:=(zd (za (zq (zx rfl rfl ⟨gr1,out,a1,a2,rfl,k1,H⟩))))))))))))))
set_option maxHeartbeats 8000000 in
theorem W_smithyworld_Texts {w:World} {l:List (List UInt8)} {A_l:Option Addr} {c_l:Nat} {most:Int} {long:Int} {n_l:Nat} {K:Bool->Prop} (hl:Rd vs w A_l c_l l) (a6:n_l=l.length) (H:jO l most long K):Fn Tryz.prog 24 ⟨[.slice A_l n_l c_l,.int .i64 most,.int .i64 long]⟩ w (fun v w'=>w=w'/\∃ (r:Bool),v=.bool r/\K r):=by
 subst a6
 unfold jO at H
 refine Fn.enter (by kernel_rfl) Tryz.func24 rfl Tryz.ntmps24 rfl ?_
 replace H:=H (Nat.le_trans hl.cap hl.max)
 refine zc (zb (yp (h:=(zd (za (zc (zc (zb (yp (h:=(yp (h:=(yp (h:=(yp (h:=(zd (za (zk rfl (fun b1=>?_) (fun b1=>?_))))))))))))))))))))
 ·replace H:=H.1 (of_decide_eq_true b1)
  exact zc (zb (yp (h:=(zd (za (zq (zh (zx rfl rfl ⟨rfl,false,rfl,H⟩))))))))
 ·replace H:=H.2 (of_decide_eq_false b1)
  refine zm (za (zc (zc (zb (yp (h:=(zd (za (WC.block ?_)))))))))
  obtain ⟨I1,mu1,a0,HR1⟩:=H
  refine zA (fun n' L' w'=>∃ (i:Int),n'=mu1 i/\L'=[(0,.slice A_l l.length c_l),(2,.int .i64 long),(7,.int .i64 i)]/\I1 i/\w=w') _ _ ⟨(0:Int),rfl,rfl,a0,rfl⟩ sb ?_
  clear a0
  rintro _ _ _ ⟨i,rfl,rfl,hI1,rfl⟩
  have H:=HR1 i hI1
  refine zc (zc (zb (yp (h:=(yp (h:=(yp (h:=(yp (h:=(zd (za (zk rfl (fun b2=>?_) (fun b2=>?_))))))))))))))
  ·replace H:=H.1 (of_decide_eq_true b2)
   refine zm (za (zc (WC.block (zc (zb (yp (h:=(yp (h:=?_)))))))))
   obtain ⟨h1,H⟩:=H
   refine zi rfl (zn qD hl rfl rfl rfl rfl h1.1 h1.2) (zi rfl (zo [] qD hl rfl rfl (iltN h1 rfl)) (yp (h:=(yp (h:=(yp (h:=(zd (za (zk rfl (fun b3=>?_) (fun b3=>?_)))))))))))
   ·replace H:=H.1 (of_decide_eq_true b3)
    exact zc (zb (yp (h:=(zd (za (zq (zp (zh (zh (zp (zh (zx rfl rfl ⟨rfl,false,rfl,H⟩))))))))))))
   ·replace H:=H.2 (of_decide_eq_false b3)
    refine zm (zg (za (zb (yp (h:=?_)))))
    obtain ⟨h2,H⟩:=H
    exact zi rfl (Yld.add rfl rfl h2) (yp (h:=(zd (zw _ ⟨i+(1:Int),rfl,rfl,H.1,rfl⟩ sb H.2))))
  ·replace H:=H.2 (of_decide_eq_false b2)
   exact zz (zf (zf (zj (za (zc (zb (yp (h:=(zd (za (zq (zx rfl rfl ⟨rfl,true,rfl,H⟩))))))))))))
end
 
section
open Go Go.RowKit
attribute [local irreducible] WL WC WX WQ WK WJ Yld Eff Ef0 Fn
def Zk (K:Int->Bool->Int->Bool->(List UInt8)->Prop):Prop :=
 K (0:Int) false (0:Int) false ([]:List UInt8)
def Zj (code:Int) (K:Int->Bool->Int->Bool->(List UInt8)->Prop):Prop :=
 K code false (0:Int) false ([]:List UInt8)
def jm (code:Int) (pos:Int) (K:Int->Bool->Int->Bool->(List UInt8)->Prop):Prop :=
 ((code=(0:Int)->Zk (fun (a2:Int) (a0:Bool) (a4:Int) (a1:Bool) (a3:List UInt8) =>
 K a2 a0 a4 a1 a3)) /\
 (¬ (code=(0:Int))->K code true pos false ([]:List UInt8)))
set_option maxHeartbeats 8000000 in
theorem W_smithyref_None {w:World} {K:Int->Bool->Int->Bool->(List UInt8)->Prop} (H:Zk  K):Fn Tryz.prog 38 ⟨[]⟩ w (fun v w'=>w.grownBy w' none/\∃ (r_Code:Int),∃ (r_Placed:Bool),∃ (r_Pos:Int),∃ (r_Filed:Bool),∃ (r_File:List UInt8),v=.agg ⟨[.int .i64 r_Code,.bool r_Placed,.int .i64 r_Pos,.bool r_Filed,vs r_File]⟩/\K r_Code r_Placed r_Pos r_Filed r_File):=by
 unfold Zk at H
 refine Fn.enter (by kernel_rfl) Tryz.func38 rfl Tryz.ntmps38 rfl ?_
 exact zc (zb (WL.alloc rfl zero35 (fun g1 w1 hB1 hg1 hl1=>zd (za (zc (zb (zi rfl (zS (us:=[.int .i64 (0:Int),.bool false,.int .i64 (0:Int),.bool false,vs ([]:List UInt8)]) zero35 places35 rfl rfl) (zH (vs:=[.int .i64 (0:Int),.bool false,.int .i64 (0:Int),.bool false,vs ([]:List UInt8)]) qD rfl rfl rfl (qG rfl (qG rfl (qG rfl (qG rfl (qG rfl qR))))) hB1 rfl rfl (fun w2 hB2 hg2=>zd (za (zq (z7 qD rfl rfl rfl hB2 rfl ⟨(qH hg1 hg2 (Ge.le (Ge.box hl1) (Nat.le_refl _))),(0:Int),false,(0:Int),false,([]:List UInt8),rfl,H⟩))))))))))))
set_option maxHeartbeats 8000000 in
theorem W_smithyref_Bare {w:World} {code:Int} {K:Int->Bool->Int->Bool->(List UInt8)->Prop} (H:Zj code K):Fn Tryz.prog 32 ⟨[.int .i64 code]⟩ w (fun v w'=>w.grownBy w' none/\∃ (r_Code:Int),∃ (r_Placed:Bool),∃ (r_Pos:Int),∃ (r_Filed:Bool),∃ (r_File:List UInt8),v=.agg ⟨[.int .i64 r_Code,.bool r_Placed,.int .i64 r_Pos,.bool r_Filed,vs r_File]⟩/\K r_Code r_Placed r_Pos r_Filed r_File):=by
 unfold Zj at H
 refine Fn.enter (by kernel_rfl) Tryz.func32 rfl Tryz.ntmps32 rfl ?_
 exact zc (zb (WL.alloc rfl zero35 (fun g1 w1 hB1 hg1 hl1=>zd (za (zc (zb (yp (h:=(zi rfl (zS (us:=[.int .i64 code,.bool false,.int .i64 (0:Int),.bool false,vs ([]:List UInt8)]) zero35 places35 rfl rfl) (zH (vs:=[.int .i64 code,.bool false,.int .i64 (0:Int),.bool false,vs ([]:List UInt8)]) qD rfl rfl rfl (qG rfl (qG rfl (qG rfl (qG rfl (qG rfl qR))))) hB1 rfl rfl (fun w2 hB2 hg2=>zd (za (zq (z7 qD rfl rfl rfl hB2 rfl ⟨(qH hg1 hg2 (Ge.le (Ge.box hl1) (Nat.le_refl _))),code,false,(0:Int),false,([]:List UInt8),rfl,H⟩))))))))))))))
set_option maxHeartbeats 8000000 in
theorem kL {w:World} {code:Int} {pos:Int} {K:Int->Bool->Int->Bool->(List UInt8)->Prop} (H:jm code pos K):Fn Tryz.prog 33 ⟨[.int .i64 code,.int .i64 pos]⟩ w (fun v w'=>w.grownBy w' none/\∃ (r_Code:Int),∃ (r_Placed:Bool),∃ (r_Pos:Int),∃ (r_Filed:Bool),∃ (r_File:List UInt8),v=.agg ⟨[.int .i64 r_Code,.bool r_Placed,.int .i64 r_Pos,.bool r_Filed,vs r_File]⟩/\K r_Code r_Placed r_Pos r_Filed r_File):=by
 unfold jm at H
 refine Fn.enter (by kernel_rfl) Tryz.func33 rfl Tryz.ntmps33 rfl ?_
 refine zc (zb (WL.alloc rfl zero35 (fun g1 w1 hB1 hg1 hl1=>?_)))
 have gr1:=hg1
 refine zd (za (zc (zc (zb (yp (h:=(yp (h:=(zd (za (zk rfl (fun b1=>?_) (fun b1=>?_))))))))))))
 ·replace H:=H.1 (of_decide_eq_true b1)
  refine zc (zb (zr rfl rfl (W_smithyref_None H) ?_))
  rintro _ w2 ⟨hg2,a2,a0,a4,a1,a3,rfl,H⟩
  exact zH (vs:=[.int .i64 a2,.bool a0,.int .i64 a4,.bool a1,vs a3]) qD rfl rfl rfl (qG rfl (qG rfl (qG rfl (qG rfl (qG rfl qR))))) (hB1.g0 hg2) rfl rfl (fun w3 hB2 hg3=>zd (za (zq (zh (z7 qD rfl rfl rfl hB2 rfl ⟨(qH (qE gr1 hg2) hg3 (Ge.le (Ge.box hl1) (Nat.le_refl _))),a2,a0,a4,a1,a3,rfl,H⟩)))))
 ·replace H:=H.2 (of_decide_eq_false b1)
  exact zm (za (zc (zb (yp (h:=(yp (h:=(zi rfl (zS (us:=[.int .i64 code,.bool true,.int .i64 pos,.bool false,vs ([]:List UInt8)]) zero35 places35 rfl rfl) (zH (vs:=[.int .i64 code,.bool true,.int .i64 pos,.bool false,vs ([]:List UInt8)]) qD rfl rfl rfl (qG rfl (qG rfl (qG rfl (qG rfl (qG rfl qR))))) hB1 rfl rfl (fun w4 hB3 hg4=>zd (za (zq (z7 qD rfl rfl rfl hB3 rfl ⟨(qH gr1 hg4 (Ge.le (Ge.box hl1) (Nat.le_refl _))),code,true,pos,false,([]:List UInt8),rfl,H⟩)))))))))))))
end
 
section
open Go Go.RowKit
section
variable {κ ν μ:Type} [DecidableEq κ]
def mmap (g:ν->μ) (m:List (κ × ν)):List (κ × μ):=m.map fun p=>(p.1,g p.2)
theorem mput_mmap (g:ν->μ) (k:κ) (v:ν):∀ m:List (κ × ν),mput (mmap g m) k (g v)=mmap g (mput m k v)
 | []=>rfl
 | p :: m=>by
  show (if p.1=k then (k,g v) :: mmap g m else (p.1,g p.2) :: mput (mmap g m) k (g v))=mmap g (if p.1=k then (k,v) :: m else p :: mput m k v)
  split
  ·rfl
  ·rw [mput_mmap g k v m]; rfl
theorem mget_keys:∀ {a:List (κ × ν)} {b:List (κ × μ)},a.map (·.1)=b.map (·.1)->∀ k,(mget a k).isSome=(mget b k).isSome
 | [],[],_,_=>rfl
 | [],_ :: _,h,_=>by simp at h
 | _ :: _,[],h,_=>by simp at h
 | p :: a,r :: b,h,k=>by
  simp only [List.map_cons,List.cons.injEq] at h
  unfold mget
  rw [h.1]
  split
  ·rfl
  ·exact mget_keys h.2 k
end
abbrev PH:=Nat × Option Nat
def vP (o:Option PH):Value:=.pointer (o.map fun h=>⟨h.1,0,none⟩)
theorem getD_some {α:Type} {o:Option α} {z:α} (h:o.isSome=true):o=some (o.getD z):=by
 cases o with
 | none=>cases h
 | some x=>rfl
section
variable {ps:List (Option Nat)} {Q:Option Nat->Prop} {n m:Nat} {F qs:List (Option Nat)} {q row:Option Nat} {w:World}
theorem apH {p:Option Nat} (h:AllP Q (p :: ps)):Q p:=h _ (List.Mem.head _)
theorem apNl:AllP (Dj none) ps:=fun _ _=>Dj.nl
theorem InA.mem (h:∀ p,List.Mem p F->List.Mem p ps):AllP (InP ps n) F:=fun p hp=>InP.mem (h p hp)
theorem InA.ge (h:AllP (fun p=>Ge p n) F):AllP (InP ps n) F:=fun p hp=>InP.ge (h p hp)
theorem InA.trans (h:AllP (InP qs m) F) (k:AllP (InP ps n) qs) (hm:n<=m):AllP (InP ps n) F:=fun p hp=>(h p hp).trans k hm
theorem InA.dj (h:AllP (InP qs m) F) (hq:Lt q m) (k:AllP (Dj q) qs):AllP (Dj q) F:=fun p hp=>((h p hp).dj hq k).symm
theorem InA.dn {α:Type} {xs:List α} (h:AllP (InP qs m) F) (hq:xs≠[]->Lt q m) (k:AllP (Dn xs q) qs):AllP (Dn xs q) F:=fun p hp=>(h p hp).dn hq k
end
def FP (m:Nat) (hs:List (List UInt8 × PH)) (q0:Option (List UInt8)):List (Option Nat):=some m :: (hs.filter fun h=>decide (some h.1≠q0)).flatMap fun h=>[some h.2.1,h.2.2]
structure PE (X:Type) where
 rel:World->PH->X->Prop
 goL:∀ {w w':World} {h:PH} {x:X} {ps:List (Option Nat)},rel w h x->GrL ps w w'->AllP (Dj (some h.1)) ps->AllP (Dj h.2) ps->rel w' h x
 lt:∀ {w:World} {h:PH} {x:X},rel w h x->Lt (some h.1) w.heap.size/\Lt h.2 w.heap.size
 isc:Nat->Bool
 sc:X->Nat->Value
 hsc:∀ {w:World} {h:PH} {x:X} {o:Nat},isc o=true->rel w h x->w.cell? ⟨h.1,o,none⟩=some (sc x o)
 noat:∀ {w:World} {h:PH} {x:X},rel w h x->NoAt w (some h.1)/\NoAt w h.2
structure jo {X:Type} (d:PE X) (w:World) (m:Nat) (hs:List (List UInt8 × PH)) (fs:List (List UInt8 × X)) (q0:Option (List UInt8)):Prop where
 map:MapB vs okS vP w m (mmap some hs)
 keys:hs.map (·.1)=fs.map (·.1)
 rel:∀ q h x,mget hs q=some h->mget fs q=some x->some q≠q0->d.rel w h x
 dm:∀ q h,mget hs q=some h->some q≠q0->Dj (some m) (some h.1)/\Dj (some m) h.2
 dd:∀ q q' h h',q≠q'->mget hs q=some h->mget hs q'=some h'->some q≠q0->some q'≠q0->Dj (some h.1) (some h'.1)/\Dj (some h.1) h'.2/\Dj h.2 (some h'.1)/\Dj h.2 h'.2
section
variable {X:Type} {d:PE X} {w w':World} {m:Nat} {hs:List (List UInt8 × PH)} {fs:List (List UInt8 × X)} {q0:Option (List UInt8)} {Q:Option Nat->Prop} {ps:List (Option Nat)} {row p:Option Nat} {q:List UInt8} {x x':X} {b:Nat} {r r':Option Nat}
theorem jo.uq (h:jo d w m hs fs q0):Uq hs:=by
 have:=h.map.uq
 unfold Uq mmap at *
 rw [List.map_map] at this
 exact this
theorem jo.some_iff (h:jo d w m hs fs q0) (q:List UInt8):(mget hs q).isSome=(mget fs q).isSome:=mget_keys h.keys q
theorem allFP (hu:Uq hs):AllP Q (FP m hs q0)↔Q (some m)/\∀ q h,mget hs q=some h->some q≠q0->Q (some h.1)/\Q h.2:=by
 constructor
 ·intro h
  refine ⟨h _ (List.Mem.head _),fun q k hk hq=>?_⟩
  have hm:=(mget_mem hu).1 hk
  have hf:(q,k)∈hs.filter fun h=>decide (some h.1≠q0):=List.mem_filter.2 ⟨hm,by simpa using hq⟩
  exact ⟨h _ (List.Mem.tail _ (List.mem_flatMap.2 ⟨_,hf,by simp⟩)),h _ (List.Mem.tail _ (List.mem_flatMap.2 ⟨_,hf,by simp⟩))⟩
 ·rintro ⟨h1,h2⟩ p hp
  cases hp with
  | head=>exact h1
  | tail _ hp =>
   obtain ⟨k,hk,hp⟩:=List.mem_flatMap.1 hp
   obtain ⟨hm,hq⟩:=List.mem_filter.1 hk
   have h3:=h2 k.1 k.2 ((mget_mem hu).2 hm) (by simpa using hq)
   simp only [List.mem_cons,List.not_mem_nil,or_false] at hp
   rcases hp with rfl | rfl
   ·exact h3.1
   ·exact h3.2
theorem jo.goL (h:jo d w m hs fs q0) (hg:GrL ps w w') (hd:AllP (fun r=>AllP (Dj r) (FP m hs q0)) ps):jo d w' m hs fs q0 :=
 ⟨h.map.goL hg fun p hp=>(((allFP h.uq).1 (hd p hp)).1).symm,h.keys,fun q k x hk hx hq=>d.goL (h.rel q k x hk hx hq) hg (fun p hp=>((((allFP h.uq).1 (hd p hp)).2 q k hk hq).1).symm) (fun p hp=>((((allFP h.uq).1 (hd p hp)).2 q k hk hq).2).symm),h.dm,h.dd⟩
theorem jo.go (h:jo d w m hs fs q0) (hg:w.grownBy w' row) (hd:AllP (Dj row) (FP m hs q0)):jo d w' m hs fs q0:=h.goL (GrL.of1 hg) (apC hd apN)
theorem jo.g0 (h:jo d w m hs fs q0) (hg:w.grownBy w' none):jo d w' m hs fs q0:=h.goL (ps:=[]) (GrL.of0 hg) apN
theorem jo.eqv (hw:Eqv w w') (h:jo d w m hs fs q0):jo d w' m hs fs q0:=h.g0 (qQ (qK w none) hw)
theorem jo.lts (h:jo d w m hs fs q0) (hf:(∀ q,(mget hs q).isSome=(mget fs q).isSome)):AllP (fun p=>Lt p w.heap.size) (FP m hs q0):=(allFP h.uq).2 ⟨h.map.lt',fun q k hk hq=>by
 have h1:=hf q
 rw [hk,Option.isSome_some] at h1
 obtain ⟨x,hx⟩:=Option.isSome_iff_exists.1 h1.symm
 exact d.lt (h.rel q k x hk hx hq)⟩
theorem jo.lt' (h:jo d w m hs fs q0):AllP (fun p=>Lt p w.heap.size) (FP m hs q0):=h.lts h.some_iff
theorem jo.new (h:jo d w m hs fs q0) (hp:Ge p w.heap.size):AllP (Dj p) (FP m hs q0):=fun r hr=>(Dj.new (h.lt' r hr) hp).symm
theorem jo.inp (h:jo d w m hs fs q0) (hp:InP ps w.heap.size p) (hd:AllP (fun r=>AllP (Dj r) (FP m hs q0)) ps):AllP (Dj p) (FP m hs q0):=fun r hr=>InP.dj hp (h.lt' r hr) (fun s hs'=>(hd s hs' r hr).symm)
theorem jo.app {p':Option Nat} (h:jo d w m hs fs q0) (k:AllP (Dj p) (FP m hs q0)) (hk:∀ g,p'=some g->p=some g∨w.heap.size<=g):AllP (Dj p') (FP m hs q0):=fun r hr=>Dj.app (k r hr) (h.lt' r hr) hk
theorem jo.open (h:jo d w m hs fs none) (hx:mget fs q=some x):∃ b r,mget hs q=some (b,r)/\d.rel w (b,r) x/\jo d w m hs fs (some q)/\AllP (Dj (some b)) (FP m hs (some q))/\AllP (Dj r) (FP m hs (some q)):=by
 have h1:=h.some_iff q
 rw [hx,Option.isSome_some] at h1
 obtain ⟨⟨b,r⟩,hk⟩:=Option.isSome_iff_exists.1 h1
 have hm:=h.dm q _ hk (by simp)
 refine ⟨b,r,hk,h.rel q _ x hk hx (by simp),⟨h.map,h.keys,fun q' k y hk' hy _=>h.rel q' k y hk' hy (by simp),fun q' k hk' _=>h.dm q' k hk' (by simp),fun q' q2 k k2 hne hk' hk2 _ _=>h.dd q' q2 k k2 hne hk' hk2 (by simp) (by simp)⟩,?_,?_⟩
 ·refine (allFP h.uq).2 ⟨hm.1.symm,fun q' k hk' hq'=>?_⟩
  have:=h.dd q q' _ k (fun e=>hq' (by rw [e])) hk hk' (by simp) (by simp)
  exact ⟨this.1,this.2.1⟩
 ·refine (allFP h.uq).2 ⟨hm.2.symm,fun q' k hk' hq'=>?_⟩
  have:=h.dd q q' _ k (fun e=>hq' (by rw [e])) hk hk' (by simp) (by simp)
  exact ⟨this.2.2.1,this.2.2.2⟩
theorem jo.sub (h:jo d w m hs fs q0) (k:AllP Q (FP m hs none)):AllP Q (FP m hs (some q)):=(allFP h.uq).2 ⟨((allFP h.uq).1 k).1,fun q' k' hk' _=>((allFP h.uq).1 k).2 q' k' hk' (by simp)⟩
theorem jo.back (h:jo d w m hs fs (some q)) (hk:mget hs q=some (b,r)) (hx:mget fs q=some x) (hr:d.rel w (b,r) x) (h1:AllP (Dj (some b)) (FP m hs (some q))) (h2:AllP (Dj r) (FP m hs (some q))):jo d w m hs fs none:=by
 have hu:=h.uq
 have h1':=(allFP hu).1 h1
 have h2':=(allFP hu).1 h2
 refine ⟨h.map,h.keys,fun q' k y hk' hy _=>?_,fun q' k hk' _=>?_,fun q1 q2 k1 k2 hne hk1 hk2 _ _=>?_⟩
 ·by_cases e:q'=q
  ·subst e; rw [hk] at hk'; rw [hx] at hy; cases hk'; cases hy; exact hr
  ·exact h.rel q' k y hk' hy (fun e2=>e (Option.some.inj e2))
 ·by_cases e:q'=q
  ·subst e; rw [hk] at hk'; cases hk'; exact ⟨h1'.1.symm,h2'.1.symm⟩
  ·exact h.dm q' k hk' (fun e2=>e (Option.some.inj e2))
 ·by_cases e1:q1=q
  ·subst e1
   rw [hk] at hk1; cases hk1
   have e2:some q2≠some q1:=fun e=>hne (Option.some.inj e).symm
   have a:=h1'.2 q2 k2 hk2 e2
   have c:=h2'.2 q2 k2 hk2 e2
   exact ⟨a.1,a.2,c.1,c.2⟩
  ·by_cases e2:q2=q
   ·subst e2
    rw [hk] at hk2; cases hk2
    have e3:some q1≠some q2:=fun e=>hne (Option.some.inj e)
    have a:=h1'.2 q1 k1 hk1 e3
    have c:=h2'.2 q1 k1 hk1 e3
    exact ⟨a.1.symm,c.1.symm,a.2.symm,c.2.symm⟩
   ·exact h.dd q1 q2 k1 k2 hne hk1 hk2 (fun e=>e1 (Option.some.inj e)) (fun e=>e2 (Option.some.inj e))
theorem jo.closeA (h:jo d w m hs fs q0) (k:AllP Q (FP m hs (some q))) (k1:Q (some b)) (k2:Q r'):AllP Q (FP m (mput hs q (b,r')) none):=by
 have hu:=h.uq
 refine (allFP (hu.put q _)).2 ⟨((allFP hu).1 k).1,fun q' k' hk' _=>?_⟩
 rw [jX] at hk'
 split at hk'
 ·cases hk'; exact ⟨k1,k2⟩
 ·rename_i e
  exact ((allFP hu).1 k).2 q' k' hk' (fun e2=>e (Option.some.inj e2).symm)
theorem jo.put (h:jo d w m hs fs none) (hM:MapB vs okS vP w' m (mput (mmap some hs) q (some (b,r)))) (hg:w.grownBy w' (some m)) (hr:d.rel w (b,r) x) (h1:AllP (Dj (some b)) (FP m hs none)) (h2:AllP (Dj r) (FP m hs none)):jo d w' m (mput hs q (b,r)) (mput fs q x) none:=by
 have hu:=h.uq
 have h1':=(allFP hu).1 h1
 have h2':=(allFP hu).1 h2
 have old:∀ {q' k},mget (mput hs q (b,r)) q'=some k->(q'=q/\k=(b,r))∨(q'≠q/\mget hs q'=some k):=fun {q' k} e=>by
  rw [jX] at e
  split at e
  ·rename_i e2; simp only [Option.some.injEq] at e; exact .inl ⟨e2.symm,e.symm⟩
  ·rename_i e2; exact .inr ⟨fun e3=>e2 e3.symm,e⟩
 have hkeys:(mput hs q (b,r)).map (·.1)=(mput fs q x).map (·.1):=by
  rw [mput_keys,mput_keys,h.some_iff q,h.keys]
 rw [mput_mmap] at hM
 refine ⟨hM,hkeys,?_,?_,?_⟩
 ·intro q' k x0 hk' hx _
  rw [jX] at hx
  rcases old hk' with ⟨rfl,rfl⟩ | ⟨hq',hk'⟩
  ·rw [if_pos rfl] at hx
   cases hx
   exact d.goL hr (GrL.of1 hg) (apC h1'.1 apN) (apC h2'.1 apN)
  ·rw [if_neg (fun e=>hq' e.symm)] at hx
   have hm:=h.dm q' k hk' (by simp)
   exact d.goL (h.rel q' k x0 hk' hx (by simp)) (GrL.of1 hg) (apC hm.1.symm apN) (apC hm.2.symm apN)
 ·intro q' k hk' _
  rcases old hk' with ⟨rfl,rfl⟩ | ⟨hq',hk'⟩
  ·exact ⟨h1'.1.symm,h2'.1.symm⟩
  ·exact h.dm q' k hk' (by simp)
 ·intro q1 q2 k1 k2 hne hk1 hk2 _ _
  rcases old hk1 with ⟨rfl,rfl⟩ | ⟨hq1,hj1⟩ <;> rcases old hk2 with ⟨rfl,rfl⟩ | ⟨hq2,hj2⟩
  ·exact absurd rfl hne
  ·have a:=h1'.2 q2 k2 hj2 (by simp)
   have c:=h2'.2 q2 k2 hj2 (by simp)
   exact ⟨a.1,a.2,c.1,c.2⟩
  ·have a:=h1'.2 q1 k1 hj1 (by simp)
   have c:=h2'.2 q1 k1 hj1 (by simp)
   exact ⟨a.1.symm,c.1.symm,a.2.symm,c.2.symm⟩
  ·exact h.dd q1 q2 k1 k2 hne hj1 hj2 (by simp) (by simp)
theorem jo.empty (d:PE X) (h:MapB vs okS vP w m ([]:List (List UInt8 × Option PH))):jo d w m [] [] none:=⟨h,rfl,fun q k x hk=>by simp [mget] at hk,fun q k hk=>by simp [mget] at hk,fun q q' k k' _ hk=>by simp [mget] at hk⟩
theorem FP.nil (h:Q (some m)):AllP Q (FP m [] q0):=by
 unfold FP
 exact apC h apN
variable {P:Program} {N:Nat} {L:qJ} {ty t t' k e:TypeId} {pos:String} {af:Array Edge} {dd:Option Tmp} {y z u:Operand}
end
end
 
section
open Go Go.RowKit
abbrev Hd:=Option Addr × Nat
def hz:Hd:=(none,0)
def hA (hs:List Hd) (j:Nat):Option Addr:=(hs.getD j hz).1
def hC (hs:List Hd) (j:Nat):Nat:=(hs.getD j hz).2
def hv {α:Type} (y:List α × Hd):Value:=.slice y.2.1 y.1.length y.2.2
def FPd (A:Option Addr) (hs:List Hd) (q0:Option Nat):List (Option Nat):=blk A :: ((List.range hs.length).filter fun j=>decide (some j≠q0)).map fun j=>blk (hA hs j)
structure qO {α:Type} (f:α->Value) (w:World) (B:Nat) (e e':TypeId) (A:Option Addr) (c:Nat) (hs:List Hd) (xs:List (List α)) (q0:Option Nat):Prop where
 out:Own hv w B e A c (xs.zip hs)
 len:hs.length=xs.length
 inn:∀ j,j<xs.length->some j≠q0->Own f w B e' (hA hs j) (hC hs j) (xs.getD j [])
 dm:∀ j,j<xs.length->some j≠q0->Dj (blk A) (blk (hA hs j))
 dd:∀ i j,i≠j->i<xs.length->j<xs.length->some i≠q0->some j≠q0->Dj (blk (hA hs i)) (blk (hA hs j))
section
variable {α:Type} {f:α->Value} {w w':World} {B n:Nat} {e e':TypeId} {A A':Option Addr} {c c':Nat} {hs:List Hd} {xs:List (List α)} {ys:List α} {q0:Option Nat} {Q:Option Nat->Prop} {ps:List (Option Nat)} {row p:Option Nat} {j:Nat}
theorem allFPd:AllP Q (FPd A hs q0)↔Q (blk A)/\∀ j,j<hs.length->some j≠q0->Q (blk (hA hs j)):=by
 constructor
 ·intro h
  exact ⟨h _ (List.Mem.head _),fun j hj hq=>h _ (List.Mem.tail _ (List.mem_map.2 ⟨j,List.mem_filter.2 ⟨List.mem_range.2 hj,by simpa using hq⟩,rfl⟩))⟩
 ·rintro ⟨h1,h2⟩ p hp
  cases hp with
  | head=>exact h1
  | tail _ hp =>
   obtain ⟨j,hj,rfl⟩:=List.mem_map.1 hp
   obtain ⟨hm,hq⟩:=List.mem_filter.1 hj
   exact h2 j (List.mem_range.1 hm) (by simpa using hq)
theorem qO.goL (h:qO f w B e e' A c hs xs q0) (hg:GrL ps w w') (hd:AllP (fun r=>AllP (Dj r) (FPd A hs q0)) ps):qO f w' B e e' A c hs xs q0 :=
 ⟨h.out.goL hg fun p hp=>((allFPd.1 (hd p hp)).1).symm,h.len,fun j hj hq=>(h.inn j hj hq).goL hg fun p hp=>((allFPd.1 (hd p hp)).2 j (by rw [h.len]; exact hj) hq).symm,h.dm,h.dd⟩
theorem qO.go (h:qO f w B e e' A c hs xs q0) (hg:w.grownBy w' row) (hd:AllP (Dj row) (FPd A hs q0)):qO f w' B e e' A c hs xs q0:=h.goL (GrL.of1 hg) (apC hd apN)
theorem qO.g0 (h:qO f w B e e' A c hs xs q0) (hg:w.grownBy w' none):qO f w' B e e' A c hs xs q0:=h.goL (ps:=[]) (GrL.of0 hg) apN
theorem qO.eqv (hw:Eqv w w') (h:qO f w B e e' A c hs xs q0):qO f w' B e e' A c hs xs q0:=h.g0 (qQ (qK w none) hw)
theorem qO.lt' (h:qO f w B e e' A c hs xs q0):AllP (fun p=>Lt p w.heap.size) (FPd A hs q0):=allFPd.2 ⟨h.out.lt',fun j hj hq=>(h.inn j (by rw [<-h.len]; exact hj) hq).lt'⟩
theorem qO.ge' (h:qO f w B e e' A c hs xs q0):AllP (fun p=>Ge p B) (FPd A hs q0):=allFPd.2 ⟨h.out.ge',fun j hj hq=>(h.inn j (by rw [<-h.len]; exact hj) hq).ge'⟩
theorem qO.new (h:qO f w B e e' A c hs xs q0) (hp:Ge p w.heap.size):AllP (Dj p) (FPd A hs q0):=fun r hr=>(Dj.new (h.lt' r hr) hp).symm
theorem qO.inp (h:qO f w B e e' A c hs xs q0) (hp:InP ps w.heap.size p) (hd:AllP (fun r=>AllP (Dj r) (FPd A hs q0)) ps):AllP (Dj p) (FPd A hs q0):=fun r hr=>InP.dj hp (h.lt' r hr) (fun s hs'=>(hd s hs' r hr).symm)
theorem qO.app {p':Option Nat} (h:qO f w B e e' A c hs xs q0) (k:AllP (Dj p) (FPd A hs q0)) (hk:∀ g,p'=some g->p=some g∨w.heap.size<=g):AllP (Dj p') (FPd A hs q0):=fun r hr=>Dj.app (k r hr) (h.lt' r hr) hk
theorem zip_getDd {j:Nat} (hl:hs.length=xs.length) (hj:j<xs.length):(xs.zip hs).getD j ([],hz)=(xs.getD j [],(hA hs j,hC hs j)):=by
 have h1:j<hs.length:=by omega
 have h2:j<(xs.zip hs).length:=by rw [List.length_zip]; omega
 have e1:(xs.zip hs)[j]? = some (xs[j],hs[j]):=by rw [List.getElem?_eq_getElem h2,List.getElem_zip]
 have e2:(xs.zip hs).getD j ([],hz)=(xs[j],hs[j]):=by rw [List.getD,e1]; rfl
 rw [e2]
 unfold hA hC
 simp [List.getD,hj,h1]
theorem zip_setd (hl:hs.length=xs.length) (j:Nat) (y:List α) (h:Hd):(xs.zip hs).set j (y,h)=(xs.set j y).zip (hs.set j h):=by
 refine List.ext_getElem (by simp) fun i h1 h2=>?_
 simp only [List.getElem_set,List.getElem_zip]
 split <;> rfl
theorem qO.zl (h:qO f w B e e' A c hs xs q0):(xs.zip hs).length=xs.length:=by rw [List.length_zip,h.len,Nat.min_self]
theorem qO.rd (h:qO f w B e e' A c hs xs none) (hj:j<xs.length):Rd f w (hA hs j) (hC hs j) (xs.getD j []):=(h.inn j hj (by simp)).rd
theorem qO.open (h:qO f w B e e' A c hs xs none) (hj:j<xs.length):Own f w B e' (hA hs j) (hC hs j) (xs.getD j [])/\qO f w B e e' A c hs xs (some j)/\AllP (Dj (blk (hA hs j))) (FPd A hs (some j)):=by
 refine ⟨h.inn j hj (by simp),⟨h.out,h.len,fun i hi _=>h.inn i hi (by simp),fun i hi _=>h.dm i hi (by simp),fun i k hik hi hk _ _=>h.dd i k hik hi hk (by simp) (by simp)⟩,allFPd.2 ⟨(h.dm j hj (by simp)).symm,fun i hi hq=>?_⟩⟩
 exact h.dd j i (fun e=>hq (by rw [e])) hj (by rw [<-h.len]; exact hi) (by simp) (by simp)
theorem FPd.sub (k:AllP Q (FPd A hs none)):AllP Q (FPd A hs (some j)):=allFPd.2 ⟨(allFPd.1 k).1,fun i hi _=>(allFPd.1 k).2 i hi (by simp)⟩
theorem FPd.at (hl:j<hs.length) (k:AllP Q (FPd A hs none)):Q (blk (hA hs j)):=(allFPd.1 k).2 j hl (by simp)
theorem qO.at (h:qO f w B e e' A c hs xs q0) (hj:j<xs.length) (k:AllP Q (FPd A hs none)):Q (blk (hA hs j)):=FPd.at (by rw [h.len]; exact hj) k
theorem FPd.made {l:List (List α × Hd)} (k:Q (blk A)) (kl:AllP Q (l.map fun y=>blk y.2.1)):AllP Q (FPd A (l.map (·.2)) none):=by
 refine allFPd.2 ⟨k,fun j hj _=>?_⟩
 rw [List.length_map] at hj
 refine kl _ ?_
 have:blk (hA (l.map (·.2)) j)=blk l[j].2.1:=by simp [hA,List.getD,hj]
 rw [this]
 exact List.mem_map.2 ⟨_,List.getElem_mem hj,rfl⟩
theorem FPd.closeA (k:AllP Q (FPd A hs (some j))) (k1:Q (blk A')):AllP Q (FPd A (hs.set j (A',c')) none):=by
 refine allFPd.2 ⟨(allFPd.1 k).1,fun i hi _=>?_⟩
 rw [List.length_set] at hi
 unfold hA
 by_cases e:j=i
 ·subst e
  have:(hs.set j (A',c')).getD j hz=(A',c'):=by simp [List.getD,hi]
  rw [this]; exact k1
 ·have:(hs.set j (A',c')).getD i hz=hs.getD i hz:=by simp [List.getD,List.getElem?_set,e]
  rw [this]
  exact (allFPd.1 k).2 i hi (fun e2=>e (Option.some.inj e2).symm)
theorem qO.sub (h:qO f w B e e' A c hs xs none) (j:Nat):qO f w B e e' A c hs xs (some j):=⟨h.out,h.len,fun i hi _=>h.inn i hi (by simp),fun i hi _=>h.dm i hi (by simp),fun i k hik hi hk _ _=>h.dd i k hik hi hk (by simp) (by simp)⟩
theorem qO.lay (h:qO f w B e e' A c hs xs (some j)) (hO:Own hv w' B e A c ((xs.zip hs).set j (ys,(A',c')))) (hg:w.grownBy w' (blk A)) (hj:j<xs.length) (hE:Own f w B e' A' c' ys) (hd:AllP (Dj (blk A')) (FPd A hs (some j))):qO f w' B e e' A c (hs.set j (A',c')) (xs.set j ys) none:=by
 have hd':=allFPd.1 hd
 have hjh:j<hs.length:=by rw [h.len]; exact hj
 rw [zip_setd h.len] at hO
 have hA1:hA (hs.set j (A',c')) j=A':=by unfold hA; simp [List.getD,hjh]
 have hC1:hC (hs.set j (A',c')) j=c':=by unfold hC; simp [List.getD,hjh]
 have hA2:∀ {i},j≠i->hA (hs.set j (A',c')) i=hA hs i:=fun hi=>by unfold hA; simp [List.getD,List.getElem?_set,hi]
 have hC2:∀ {i},j≠i->hC (hs.set j (A',c')) i=hC hs i:=fun hi=>by unfold hC; simp [List.getD,List.getElem?_set,hi]
 have hX1:(xs.set j ys).getD j []=ys:=by simp [List.getD,hj]
 have hX2:∀ {i},j≠i->(xs.set j ys).getD i []=xs.getD i []:=fun hi=>by simp [List.getD,List.getElem?_set,hi]
 have hne:∀ {i},j≠i->some i≠some j:=fun hi e2=>hi (Option.some.inj e2).symm
 refine ⟨hO,by rw [List.length_set,List.length_set]; exact h.len,fun i hi _=>?_,fun i hi _=>?_,fun i k hik hi hk _ _=>?_⟩
 ·rw [List.length_set] at hi
  by_cases e:j=i
  ·subst e
   rw [hA1,hC1,hX1]
   exact hE.go hg hd'.1
  ·rw [hA2 e,hC2 e,hX2 e]
   exact (h.inn i hi (hne e)).go hg (h.dm i hi (hne e)).symm
 ·rw [List.length_set] at hi
  by_cases e:j=i
  ·subst e
   rw [hA1]
   exact hd'.1.symm
  ·rw [hA2 e]
   exact h.dm i hi (hne e)
 ·rw [List.length_set] at hi hk
  by_cases e:j=i
  ·subst e
   rw [hA1,hA2 hik]
   exact hd'.2 k (by rw [h.len]; exact hk) (hne hik)
  ·by_cases e2:j=k
   ·subst e2
    rw [hA1,hA2 e]
    exact (hd'.2 i (by rw [h.len]; exact hi) (hne e)).symm
   ·rw [hA2 e,hA2 e2]
    exact h.dd i k hik hi hk (hne e) (hne e2)
theorem qO.back (h:qO f w B e e' A c hs xs (some j)) (hE:Own f w B e' (hA hs j) (hC hs j) (xs.getD j [])) (hd:AllP (Dj (blk (hA hs j))) (FPd A hs (some j))):qO f w B e e' A c hs xs none:=by
 have hd':=allFPd.1 hd
 refine ⟨h.out,h.len,fun i hi _=>?_,fun i hi _=>?_,fun i k hik hi hk _ _=>?_⟩
 ·by_cases e:i=j
  ·subst e; exact hE
  ·exact h.inn i hi (fun e2=>e (Option.some.inj e2))
 ·by_cases e:i=j
  ·subst e; exact hd'.1.symm
  ·exact h.dm i hi (fun e2=>e (Option.some.inj e2))
 ·by_cases e:i=j
  ·subst e
   exact hd'.2 k (by rw [h.len]; exact hk) (fun e2=>hik (Option.some.inj e2).symm)
  ·by_cases e2:k=j
   ·subst e2
    exact (hd'.2 i (by rw [h.len]; exact hi) (fun e3=>hik (Option.some.inj e3))).symm
   ·exact h.dd i k hik hi hk (fun e3=>e (Option.some.inj e3)) (fun e3=>e2 (Option.some.inj e3))
theorem qO.made {l:List (List α × Hd)} (hO:Own hv w B e A c l) (h1:∀ y∈l,Own f w B e' y.2.1 y.2.2 y.1/\Dj (blk A) (blk y.2.1)) (h2:l.Pairwise fun y z=>Dj (blk y.2.1) (blk z.2.1)):qO f w B e e' A c (l.map (·.2)) (l.map (·.1)) none:=by
 have hz2:(l.map (·.1)).zip (l.map (·.2))=l:=by
  clear hO h1 h2
  induction l with
  | nil=>rfl
  | cons y l ih=>rw [List.map_cons,List.map_cons,List.zip_cons_cons,ih]
 have hat:∀ {j},j<(l.map (·.1)).length->∃ hj:j<l.length,hA (l.map (·.2)) j=l[j].2.1/\hC (l.map (·.2)) j=l[j].2.2/\(l.map (·.1)).getD j []=l[j].1:=fun {j} hj=>by
  rw [List.length_map] at hj
  exact ⟨hj,by simp [hA,List.getD,hj],by simp [hC,List.getD,hj],by simp [List.getD,hj]⟩
 refine ⟨by rw [hz2]; exact hO,by rw [List.length_map,List.length_map],fun j hj _=>?_,fun j hj _=>?_,fun i j hij hi hj _ _=>?_⟩
 ·obtain ⟨h,e1,e2,e3⟩:=hat hj
  rw [e1,e2,e3]; exact (h1 _ (List.getElem_mem h)).1
 ·obtain ⟨h,e1,_,_⟩:=hat hj
  rw [e1]; exact (h1 _ (List.getElem_mem h)).2
 ·obtain ⟨h,e1,_,_⟩:=hat hi
  obtain ⟨h',e1',_,_⟩:=hat hj
  rw [e1,e1']
  rcases Nat.lt_or_gt_of_ne hij with hlt | hlt
  ·exact (List.pairwise_iff_getElem.1 h2) i j h h' hlt
  ·exact ((List.pairwise_iff_getElem.1 h2) j i h' h hlt).symm
theorem qO.rep (hO:Own hv w B e A c (List.replicate n (([],hz):List α × Hd))):qO f w B e e' A c (List.replicate n hz) (List.replicate n []) none:=by
 have h:=qO.made (f:=f) (e':=e') hO (fun y hy=>by rw [List.eq_of_mem_replicate hy]; exact ⟨Own.nil f w B e',Dj.nr⟩) (by
  rw [List.pairwise_iff_getElem]
  intro i j hi hj _
  rw [List.getElem_replicate]
  exact Dj.nl)
 rw [List.map_replicate,List.map_replicate] at h
 exact h
theorem FPd.rep (k:Q (blk A)) (k0:Q none):AllP Q (FPd A (List.replicate n hz) none):=by
 refine allFPd.2 ⟨k,fun j hj _=>?_⟩
 rw [List.length_replicate] at hj
 have:hA (List.replicate n hz) j=none:=by unfold hA; simp [List.getD,hj,hz]
 rw [this]; exact k0
def zipH {α:Type} (hs:List Hd) (xs:List (List α)):List Hdr:=List.zipWith (fun h x=>⟨h.1,x.length,h.2⟩) hs xs
theorem qO.zlen (h:qO f w B e e' A c hs xs q0):(zipH hs xs).length=xs.length:=by unfold zipH; rw [List.length_zipWith,h.len,Nat.min_self]
theorem zipH_map:∀ (hs:List Hd) (xs:List (List α)),(xs.zip hs).map hv=(zipH hs xs).map vh
 | [],[]=>rfl
 | [],_ :: _=>rfl
 | _ :: _,[]=>rfl
 | h :: hs,x :: xs=>by
  have:=zipH_map hs xs
  unfold zipH at *
  rw [List.zip_cons_cons,List.map_cons,this,List.zipWith_cons_cons,List.map_cons]
  rfl
theorem qO.fdo (h:qO f w B e e' A c hs xs q0):Own vh w B e A c (zipH hs xs):=by
 have h1:=h.out
 unfold Own at *
 rw [<-zipH_map,h.zlen]
 rw [h.zl] at h1
 exact h1
theorem zipH_at {i:Nat} {h:Hdr} {x:List α} (hl:hs.length=xs.length) (e1:(zipH hs xs)[i]? = some h) (e2:xs[i]? = some x):i<xs.length/\h.A=hA hs i/\h.n=x.length/\h.c=hC hs i/\xs.getD i []=x:=by
 obtain ⟨hi,rfl⟩:=List.getElem?_eq_some_iff.1 e2
 have h1:i<hs.length:=by omega
 have h2:i<(zipH hs xs).length:=by unfold zipH; rw [List.length_zipWith]; omega
 rw [List.getElem?_eq_getElem h2,Option.some.injEq] at e1
 subst e1
 have e3:(zipH hs xs)[i]=⟨hs[i].1,xs[i].length,hs[i].2⟩:=List.getElem_zipWith
 rw [e3]
 unfold hA hC
 simp [List.getD,h1,hi]
theorem qO.fdr (h:qO f w B e e' A c hs xs none):RelD (DE.sl f) w (zipH hs xs) xs:=⟨h.zlen,fun i k x hk hx=>by
 obtain ⟨hi,e1,e2,e3,e4⟩:=zipH_at h.len hk hx
 have:=(h.inn i hi (by simp)).rd
 rw [e4] at this
 exact ⟨e2,by rw [e1,e3]; exact this⟩⟩
theorem qO.dnd (h:qO f w B e e' A c hs xs none) (k:AllP (Dj p) (FPd A hs none)):DnD (DE.sl f) (zipH hs xs) xs p:=fun i q x hk hx=>by
 obtain ⟨hi,e1,e2,e3,e4⟩:=zipH_at h.len hk hx
 have:=FPd.at (by rw [h.len]; exact hi) k
 show Dn x (blk q.A) p
 rw [e1]
 exact Dn.of this.symm
theorem qO.dself (h:qO f w B e e' A c hs xs none):DnD (DE.sl f) (zipH hs xs) xs (blk A):=fun i q x hk hx=>by
 obtain ⟨hi,e1,e2,e3,e4⟩:=zipH_at h.len hk hx
 show Dn x (blk q.A) (blk A)
 rw [e1]
 exact Dn.of (h.dm i hi (by simp)).symm
variable {P:Program} {N:Nat} {L:qJ} {ty t:TypeId} {pos:String} {af:Array Edge} {dd:Option Tmp} {x y:Operand} {T:Tab}
theorem Yld.dloadR {u:Unit} (hT:T.Ok P) (hR:Rd hv w A c (xs.zip hs)) (hl:hs.length=xs.length) (hs1:nk T.one t=some u) (hx:opv L x=some (.pointer (A.map (·.add j)))) (hj:j<xs.length) :
  Yld P N w ⟨dd,.load t x,ty,pos,af,none⟩ L (.slice (hA hs j) (xs.getD j []).length (hC hs j)):=by
 have:=zo (P:=P) (N:=N) (ty:=ty) (pos:=pos) (af:=af) (dd:=dd) (([],hz):List α × Hd) hT hR hs1 hx (by rw [List.length_zip,hl,Nat.min_self]; exact hj)
 rw [zip_getDd hl hj] at this
 exact this
theorem WL.dstore {ops:Array Oper} {R:Post} {rest:List Oper} (h1:sz1 P t=true) (h:qO f w B e e' A c hs xs (some j)) (hx:opv L x=some (.pointer (A.map (·.add j)))) (hy:opv L y=some (.slice A' n c')) (hn:n=ys.length) (hj:j<xs.length) (hE:Own f w B e' A' c' ys) (hd:AllP (Dj (blk A')) (FPd A hs (some j)))
  (hk:∀ w',qO f w' B e e' A c (hs.set j (A',c')) (xs.set j ys) none->w.grownBy w' (blk A)->WL P N ops R rest L w'):WL P N ops R (⟨none,.store t x y,ty,pos,af,none⟩ :: rest) L w:=by
 subst hn
 exact ql (v:=((ys,(A',c')):List α × Hd)) h1 (fun _=>rfl) h.out hx hy (by rw [h.zl]; exact hj) fun w' hO hg=>hk w' (h.lay hO hg hj hE hd) hg
theorem Ef0.dstore (h1:sz1 P t=true) (h:qO f w B e e' A c hs xs (some j)) (hx:opv L x=some (.pointer (A.map (·.add j)))) (hy:opv L y=some (.slice A' n c')) (hn:n=ys.length) (hj:j<xs.length) (hE:Own f w B e' A' c' ys) (hd:AllP (Dj (blk A')) (FPd A hs (some j))) :
  Ef0 P N w ⟨none,.store t x y,ty,pos,af,none⟩ L fun w'=>qO f w' B e e' A c (hs.set j (A',c')) (xs.set j ys) none/\w.grownBy w' (blk A):=fun a w1 hw ha=>by
 subst hn
 obtain ⟨w',e1,hO,hg⟩:=qw (P:=P) (N:=N) (ty:=ty) (pos:=pos) (af:=af) (v:=((ys,(A',c')):List α × Hd)) h1 (fun _=>rfl) h.out hx hy (by rw [h.zl]; exact hj) a w1 hw ha
 exact ⟨w',e1,h.lay hO hg hj hE hd,hg⟩
end
section
variable {P:Program} {N:Nat} {ops:Array Oper} {fl:Nat->Bool} {D:Nat->World->Prop} {Q:Post} {L:qJ} {w:World} {k d:Nat} {ty:TypeId} {pos:String} {af:Array Edge} {rest:List Oper}
theorem WJ.callv {R:Value->World->Prop} {g:FuncId} {x:Operand} {ao:List Operand} {ts:Array TypeId} {vs cs:List Value} (hf:fl k=false) (hd:Nat.blt d N=true) (hx:opv L x=some (.func (.func g) #[] ⟨cs⟩)) (hv:opvs L ao=some vs) (hc:Fn P g ⟨vs++cs⟩ w R) (hD:∀ v w',R v w'->∀ w2,Eqv w' w2->DD .any ops fl D k w2)
  (hk:∀ v w',R v w'->WJ P N ops fl D Q rest (k+1) ((d,v) :: L) w'):WJ P N ops fl D Q (⟨some d,.call ⟨.value x,⟨ao⟩,ts⟩,ty,pos,af,none⟩ :: rest) k L w:=fun a w1 e ha=>by
 unfold wpJ
 rw [hf]
 show sRun _ _ _ _ _ _ _
 unfold sRun
 rw [if_pos (Wants.wanted (o:=⟨some d,.call ⟨.value x,⟨ao⟩,ts⟩,ty,pos,af,none⟩) (L:=L) (N:=N) (ops:=ops) qI ha),run_callv ha hc.1 hx hv]
 refine (hc.2 w1 e).mono ?_
 rintro en w' ⟨v,w0,rfl,h0,hR⟩
 exact ⟨v,rfl,hD v w0 hR w' h0,hk v w0 hR _ w' h0 (ha.put hd v)⟩
end
end
 
section
open Go Go.RowKit Go.Sort
def M_slices_Sort_int_int (xs:List Int) (K:List Int->Prop):Prop:=xs.length<4611686018427387904/\K (xs.mergeSort fun x y=>decide (x<=y))
theorem W_slices_Sort_int_int {w:World} {xs:List Int} {A:Option Addr} {c n B:Nat} {e:TypeId} {K:List Int->Prop} (hO:Own vi w B e A c xs) (hn:n=xs.length) (H:M_slices_Sort_int_int xs K) :
  Fn Tryz.prog 29 ⟨[.slice A n c]⟩ w (fun v w'=>∃ ys:List Int,v=.tuple #[]/\Own vi w' B e A c ys/\w.grownBy w' (blk A)/\ys.length=xs.length/\K ys):=by
 subst hn
 refine ⟨by kernel_rfl,fun w1 e1=>?_⟩
 have hO1:=own_eqv e1 hO
 rcases hO1.2 with ⟨hv,hn⟩ | ⟨g,cap,cur,hv,hb,hg,hnc,hcm,hcs,htake⟩
 ·simp only [Value.slice.injEq] at hv
  obtain ⟨rfl,_,rfl⟩:=hv
  have:xs=[]:=List.eq_nil_of_length_eq_zero hn
  subst this
  refine (Tryz.slices_Sort_int_none none 0 w1).mono fun _ w' ⟨he,hw⟩=>⟨_,w,he,by rw [hw]; exact e1,[],rfl,hO,qK _ _,rfl,?_⟩
  simpa using H.2
 ·simp only [Value.slice.injEq] at hv
  obtain ⟨rfl,_,rfl⟩:=hv
  refine (Tryz.slices_Sort_int g 0 c xs w1 (holds_of_blockI hg (show cur.toList.take xs.length=xs.map vi by simpa using htake)) (Array.getElem?_eq_some_iff.1 hg).1 H.1).mono fun _ w' ⟨he,q,os,hw⟩=>?_
  have hl:(xs.mergeSort fun x y=>decide (x<=y)).length=xs.length:=List.length_mergeSort xs
  have h1:=ownsRow_sortedI (n:=q) (os:=os) hl hb hg hnc hcm hcs
  have h2:=grownBy_sortedI (w:=w1) (g:=g) (n:=q) (os:=os) (xs.mergeSort fun x y=>decide (x<=y)).toArray
  rw [<-hw] at h1 h2
  refine ⟨_,w',he,Eqv.refl _,_,rfl,?_,jz e1 h2,hl,H.2⟩
  unfold Own
  rw [hl]
  exact h1
def Zq (xs:List Int) (K:List Int->Prop):Prop:=K (Lib.compact xs)
theorem compact_leI (xs:List Int):(Lib.compact xs).length<=xs.length:=by
 unfold Lib.compact Lib.compactUpTo
 rw [List.length_map]
 exact Nat.le_trans (List.length_filter_le _ _) (by simp)
theorem W_slices_Compact_int_int {w:World} {xs:List Int} {A:Option Addr} {c n B:Nat} {e:TypeId} {K:List Int->Prop} (hO:Own vi w B e A c xs) (hn:n=xs.length) (H:Zq xs K) :
  Fn Tryz.prog 30 ⟨[.slice A n c]⟩ w (fun v w'=>∃ ys:List Int,v=.slice A ys.length c/\Own vi w' B e A c ys/\w.grownBy w' (blk A)/\K ys):=by
 subst hn
 refine ⟨by kernel_rfl,fun w1 e1=>?_⟩
 have hO1:=own_eqv e1 hO
 rcases hO1.2 with ⟨hv,hn⟩ | ⟨g,cap,cur,hv,hb,hg,hnc,hcm,hcs,htake⟩
 ·simp only [Value.slice.injEq] at hv
  obtain ⟨rfl,_,rfl⟩:=hv
  have:xs=[]:=List.eq_nil_of_length_eq_zero hn
  subst this
  exact (Tryz.slices_Compact_int_empty none 0 w1).mono fun _ w' ⟨he,hw⟩=>⟨_,w,he,by rw [hw]; exact e1,[],rfl,hO,qK _ _,H⟩
 ·simp only [Value.slice.injEq] at hv
  obtain ⟨rfl,_,rfl⟩:=hv
  have hmx:xs.length<=9223372036854775807:=by simp only [maxLen] at hcm; omega
  refine (Tryz.slices_Compact_int g 0 c xs w1 (holds_of_blockI hg (show cur.toList.take xs.length=xs.map vi by simpa using htake)) hmx hnc).mono fun _ w' ⟨he,q,hw⟩=>?_
  have hle:=compact_leI xs
  have hl:(Lib.compact xs++List.replicate (xs.length - (Lib.compact xs).length) 0).length=xs.length:=by simp; omega
  have h1:=ownsRow_sortedI (n:=q) (os := #[]) hl hb hg hnc hcm hcs
  have h2:=grownBy_sortedI (w:=w1) (g:=g) (n:=q) (os := #[]) (Lib.compact xs++List.replicate (xs.length - (Lib.compact xs).length) 0).toArray
  rw [Sort.grow_empty,<-hw] at h1 h2
  have hO2:Own vi w' B e (some ⟨g,0,none⟩) c (Lib.compact xs++List.replicate (xs.length - (Lib.compact xs).length) 0):=by
   unfold Own
   rw [hl]
   exact h1
  have hO3:=hO2.take (Lib.compact xs).length (by rw [hl]; exact hle) (fun _ h=>by cases h)
  rw [List.take_left' rfl] at hO3
  exact ⟨_,w',he,Eqv.refl _,_,rfl,hO3,jz e1 h2,H⟩
end
 end Go.Proofs.YtjobklaengaamaaGreatDoor
