/- Texts of this claim, joined by a program: Row0, Row1, Laid, Shp, Row2, Row3, Shelf, StrA, Cat, GPa, GSa, Sent, GSb, Map, Mut, Pool, Rng, Enc, Disk0, Shelf2, KeysP, GDi. -/
import Derived.Test.YtafpeckmdjplnaaGreatDoorJ1
import Derived.ProofKit
import Derived.SliceStrings
import Derived.WideKeyArgs
import Derived.LaidLaws
import Derived.LaidMore
import Derived.MakeChecks
import Derived.HandedShaped
import Derived.Shelf.Vars
import Derived.Lib.SmallJoins
import Derived.ChangeMaps5
import Derived.Shelf.SlIter.Sorted
import Derived.Ground.GgzProg
import Derived.Shelf.Small.Bits
import Derived.Shelf.Small.Strs
import Derived.Shelf.Strconv.Itoa0
import Derived.Shelf.Strings.Search1
import Derived.Shelf.Strings.Search2
import Derived.Shelf.Strings.Search3
import Derived.Shelf.Strings.Count
import Derived.Shelf.LaysM
import Derived.Shelf.Strings.Shaped
import Derived.Shelf.Sort.Plain
import Derived.Shelf.Strings.Split
import Derived.Shelf.Unicode.DecodeSlow
import Derived.Shelf.Slices.In.SortNone
import Derived.Test.YtafpeckmdjplnaaGreatDoorProg
import Derived.Lib.SplitLaws
import Derived.Sort.OwnSorted
import Derived.Maps.RangeRun
import Derived.Maps.Keyed
import Derived.Carry
import Derived.StringKeys
namespace Go.Proofs.YtafpeckmdjplnaaGreatDoor

section
open Go Go.RowKit Go.WideShapes Go.ChangeShapes Go.ChangeAt
def rowsOk (P:Program) (ts:List TypeId):Bool:=ts.all fun t=>P.readableRec t && Nat.blt t P.types.size
theorem trodAll_stays {H:Type} {enc:TypeId × Value->H} {P:Program} (hl:laidOutB P=true) {W W':World} {sp:Nat->Bool} :
  ∀ {ts:List TypeId} {vs:List Value} {ds:List (DataW H)} {ps:List MemPlace},rowsOk P ts=true->DataW.TrodAll enc P W 0 (fun _=>true) true ts vs ds ps->(∀ p∈ps,W.sameAt W' p)->(∀ p∈ps,sp p.block=true)->DataW.TrodAll enc P W' 0 sp true ts vs ds ps
 | [],[],[],_,_,h,_,_=>h
 | [],[],_ :: _,_,_,h,_,_=>h.elim
 | [],_ :: _,_,_,_,h,_,_=>h.elim
 | _ :: _,[],_,_,_,h,_,_=>h.elim
 | _ :: _,_ :: _,[],_,_,h,_,_=>h.elim
 | t :: ts,v :: vs,d :: ds,ps,hr,h,hs,hsp=>by
  obtain ⟨p,q,h1,h2,rfl⟩:=h
  simp only [rowsOk,List.all_cons,Bool.and_eq_true] at hr
  refine ⟨p,q,WideElems.Trod_stays hl hr.1.1 (Nat.blt_eq.mp hr.1.2) h1 (fun x hx=>hs x (by simp [hx])) (fun x hx=>hsp x (by simp [hx])),trodAll_stays hl (by simpa [rowsOk] using hr.2) h2 (fun x hx=>hs x (by simp [hx])) (fun x hx=>hsp x (by simp [hx])),rfl⟩
theorem below_of_gr {W W':World} (h:W.grownBy W' none):Below W.heap.size W W':=⟨h.os,h.tape,h.output,h.size,fun k hk=>h.block k hk (by simp)⟩
theorem post_true {H:Type} {enc:TypeId × Value->H} {P:Program} {f:Func} {s:ChangeSpec} {apart fresh handsOn again:Bool} {W W':World} {args:Array Value} {ds gs:List (DataW H)} {before:List MemPlace} {bt:TypeId}
  (hl:laidOutB P=true) (hr:rowsOk P f.params.toList=true) (hW:DataW.Whole enc P f.params.toList s.vars apart W args.toList ds gs before) (hv:s.vars=[])
  (hres:(s.fn H (ds++gs)).results=[.lit (.bool true)]) (hargs:(s.fn H (ds++gs)).args=ds) (hvars:(s.fn H (ds++gs)).vars=[]) (hrt:f.resultTypes = #[bt]) (hbt:P.underlying bt=some .bool)
  (hg:W.grownBy W' none):s.post enc P f apart fresh handsOn again W args (.bool true) W':=by
 have hb:=below_of_gr hg
 have hlt:∀ p∈before,p.block<W.heap.size:=fun p hp=>hW.lt p hp
 have hW0:=hW
 obtain ⟨p,q,hA,hV,rfl,hz,hn⟩:=hW
 rw [hv] at hV
 obtain ⟨rfl,rfl⟩:=trodVars_none hV
 have hR:∀ (b:Nat) (sp:Nat->Bool) (hd:Bool),DataW.TrodAll enc P W' b sp hd f.resultTypes.toList ((Value.bool true).resultList f.resultTypes.size) (s.fn H (ds++[])).results []:=by
  intro b sp hd
  rw [hres,hrt]
  exact trodAll_mk1 (shut_bool hbt true)
 have hA':∀ sp:Nat->Bool,(∀ x∈p++[],sp x.block=true)->DataW.TrodAll enc P W' 0 sp true f.params.toList args.toList (s.fn H (ds++[])).args p:=by
  intro sp hsp
  rw [hargs]
  exact trodAll_stays hl hr hA (fun x hx=>hb.same (hlt x (by simpa using hx))) (fun x hx=>hsp x (by simpa using hx))
 have hV':∀ sp:Nat->Bool,DataW.TrodVars enc P W' sp s.vars (s.fn H (ds++[])).vars []:=by
  intro sp
  rw [hv,hvars]
  rfl
 have hok:∀ (j:Nat) (t:TypeId) (r:Value),f.resultTypes[j]? = some t->((Value.bool true).resultList f.resultTypes.size)[j]? = some r->Value.okWide P W' .any 0 t r:=by
  rw [hrt]
  exact ok_one (f:=f) hrt rfl (okWide_bool_mk hbt true) |> fun h=>by simpa [hrt] using h
 refine ⟨ds,[],p++[],[],p,[],hW0,hR _ _ _,hA' _ (fun x hx=>by simpa using hlt x hx),hV' _,World.keptBut_mono (fun x hx=>⟨hx,Or.inr (by simpa using hx)⟩) (hb.frame (·∈p++[])),fun _=>?_⟩
 refine ⟨hok,_,_,([]++p)++[],⟨[]++p,[],trodAll_append (hA' _ (fun _ _=>rfl)) (hR _ _ _),hV' _,rfl,?_,?_⟩,?_⟩
 ·intro b off hp
  rw [hb.frozen (hlt _ (by simpa using hp))]
  exact hz b off (by simpa using hp)
 ·intro ha
  simpa using hn ha
 ·intro x hx _
  simpa using hx
end
 
section
open Go Go.RowKit Go.WideShapes Go.ChangeShapes Go.ChangeAt
end
 
section
open Go Go.RowKit Go.WideShapes Go.ChangeShapes Go.ChangeAt
def ename:List String:=["smithy/api.ErrLex", "smithy/api.ErrParse", "smithy/api.ErrResolve", "smithy/api.ErrDynamic", "smithy/api.ErrCycle", "smithy/api.ErrVisibility", "smithy/api.ErrAnalysis", "smithy/api.ErrLimit", "smithy/api.ErrMissing", "smithy/api.ErrMany", "smithy/api.ErrKind", "smithy/api.ErrPath", "smithy/api.ErrShape", "smithy/api.ErrEnd", "smithy/api.ErrRange", "smithy/api.ErrDown", "smithy/api.ErrFail"]
theorem cellsEs:Tryz.prog.cellsOf 246=1:=by kernel_rfl
theorem cellsStr:Tryz.prog.cellsOf 9=1:=by kernel_rfl
theorem starEs : "*" ++ "errors.errorString" = "*errors.errorString" := by decide
theorem rowEs (u:TypeId) (h:Tryz.prog.typeName? 3 u=some "*errors.errorString"):u=230 :=
 typeName_ptr_named (nm := "errors.errorString") (by rw [starEs]; kernel_rfl) (by kernel_rfl) (by decide) u (by rw [starEs]; exact h)
set_option maxRecDepth 100000 in
theorem erv_of_vars {W:World}:∀ {l:List (String × DataW Unit)} {ps:List MemPlace},DataW.LaidVars Tryz.prog W l ps->(∀ b off,MemPlace.cell b off∈ps->(∃ c t,W.heap[b]? = some (.cells c t (0,0)))/\∀ u v,W.cell? ⟨b,off,none⟩=some (.iface u v)->Value.okWide Tryz.prog W .any 0 u v) ->
  ∀ nm t g,(nm,DataW.iface "*errors.errorString" (.ptr (.agg [.lit (.string t)])))∈l->Tryz.prog.globalNamed nm=some g->(Tryz.prog.globals[g]?).map (·.type)=some 26->∃ a,W.cell? ⟨g,0,none⟩=some (.iface 230 (.pointer (some a)))/\W.cell? a=some (vs t)/\∃ c e,W.heap[a.block]? = some (.cells c e (0,0))
 | [],_,_,_,_,_,_,h,_,_=>by cases h
 | (n0,d0) :: r,ps,hL,hok,nm,t,g,h,hg,ht=>by
  obtain ⟨g0,t0,cs0,f0,p0,q0,hg0,ht0,hv0,hd0,hr,rfl⟩:=hL
  rcases List.mem_cons.1 h with h | h
  ·simp only [Prod.mk.injEq] at h
   obtain ⟨rfl,rfl⟩:=h
   obtain rfl:=Option.some.inj (hg.symm.trans hg0)
   obtain rfl:=Option.some.inj (ht.symm.trans ht0)
   obtain ⟨l0⟩:=cs0
   have ok0:∀ u v,l0=[.iface u v]->Value.okWide Tryz.prog W .any 0 u v:=fun u v e=>by
    subst e
    exact (hok g 0 (by simp [MemPlace.row])).2 u v (by simpa using World.var?_cell hg0 hv0 0)
   obtain ⟨a0,s0,rfl,hc0,hs0,hz0,rfl⟩:=errorString_of_trod Tryz.underlying26 rowEs Tryz.underlying230 Tryz.underlying246 rfl rfl Tryz.underlying9 cellsEs cellsStr hd0 ok0
   refine ⟨a0,by simpa using World.var?_cell hg0 hv0 0,?_,(hok a0.block a0.off (by simp [MemPlace.row])).1⟩
   rw [hc0,<-hs0]
   rfl
  ·exact erv_of_vars hr (fun b off hb=>hok b off (by simp [hb])) nm t g h hg ht
def errText? : DataW Unit->Option (List UInt8)
 | .iface n (.ptr (.agg [.lit (.string t)]))=>if n == "*errors.errorString" then some t else none
 | _=>none
theorem errText_spec {d:DataW Unit} {t:List UInt8} (h:errText? d=some t):d=.iface "*errors.errorString" (.ptr (.agg [.lit (.string t)])):=by
 unfold errText? at h
 split at h
 ·rename_i n t'
  split at h
  ·rename_i hn
   have:=eq_of_beq hn
   subst this
   cases h
   rfl
  ·cases h
 ·cases h
def gokB (P:Program) (S:List Nat) (l:List (String × DataW Unit)):Bool:=S.all fun n=>match eglob[n]?,etext[n]?,ename[n]? with
 | some (some g),some t,some nm=>decide (P.globalNamed nm=some g) && (decide ((P.globals[g]?).map (·.type)=some 26) && l.any fun x=>decide (x.1=nm) && decide (errText? x.2=some t))
 | _,_,_=>false
set_option maxRecDepth 100000 in
theorem gok_of_laid {S:List Nat} {W:World} {l:List (String × DataW Unit)} (h:laidMetH Tryz.prog l W) (hp:(l.all fun x=>x.2.handleName?.isNone)=true) (hB:gokB Tryz.prog (S.filter fun n=>Nat.blt n 17) l=true) (hM:100∈S->∃ m,W.cell? ⟨3,0,none⟩=some (.int .i64 m)) (hP:101∈S->Lib.TabIs Tryz.prog W "internal/strconv.uint64pow10" .u64 Lib.pow10Tab)
  : GOK S W:=by
 refine ⟨fun n hn hl=>?_,hM,hP
  ⟩
 rw [MakeChecks.laidMetH_plain _ _ _ hp] at h
 obtain ⟨ps,hL,_,hrows⟩:=h
 have hb:=List.all_eq_true.1 hB n (by simp [hn,Nat.blt_eq,hl])
 split at hb
 ·rename_i g t nm h1 h2 h3
  simp only [Bool.and_eq_true,decide_eq_true_eq,List.any_eq_true] at hb
  obtain ⟨hg,ht,⟨n',d'⟩,hm,he1,he2⟩:=hb
  simp only at he1 he2
  subst he1
  rw [errText_spec he2] at hm
  obtain ⟨a,k1,k2⟩:=erv_of_vars hL (fun b off hb=>hrows b off hb) _ t g hm hg ht
  exact ⟨_,g,t,a,h1,h2,k1,rfl,k2⟩
 ·cases hb
end
 
section
open Go Go.RowKit Go.WideShapes Go.ChangeShapes Go.ChangeAt
theorem handed_both {H:Type} {enc:TypeId × Value->H} {a:Assume} {C:Checked} {os:Os} {f:FuncId} {fn:Func} {s:ChangeSpec} {conds:List PathCond} {apart fresh handsOn again:Bool} {X:World->Array Value->Prop}
  (hX:∀ (w w':World) (args:Array Value),w.heap=w'.heap->X w args->X w' args)
  (own:ownKnob C.prog.godebug=none) (started:os.Started) (noInit:C.prog.inits.idxOf? f=none) (hfn:C.prog.funcs[f]? = some fn)
  (wit:∃ (w:World) (tape:Tape) (i:Input),w.os=os/\(w.forCall tape i).Shaped C.prog/\i.vars=[]/\Input.okWide C.prog (w.forCall tape i) .any w.heap.size f i /\
   ((s.pre enc C.prog fn conds apart (w.forCall tape i).memory i.args/\X (w.forCall tape i).memory i.args)/\sizedMet enc C.prog fn (OpenSpec.ofChange s) apart (w.forCall tape i).memory i.args)/\a.holds C.prog (lone (Frame.enter C.prog f i.args .normal) [] (w.forCall tape i)))
  (law:∀ (W:World) (base:Nat) (args:Array Value) (ds gs:List (DataW H)) (before:List MemPlace),
   (∀ (j:Nat) t v,fn.params[j]? = some t->args[j]? = some v->Value.okWide C.prog W .any base t v) ->
   DataW.Whole enc C.prog fn.params.toList s.vars apart W args.toList ds gs before->X W args->W.ShapedOpen C.prog ->
   Calls C.prog f args W fun e W'=>∃ v,e=.returned v/\s.post enc C.prog fn apart fresh handsOn again W args v W') :
  ReturnsInHanded a C os f .any (fun w args=>(s.pre enc C.prog fn conds apart w args/\X w args)/\sizedMet enc C.prog fn (OpenSpec.ofChange s) apart w args) (s.post enc C.prog fn apart fresh handsOn again):=by
 refine returnsInHanded_of_calls own started noInit wit fun w tape i _ hsh _ hok hpre _=>?_
 obtain ⟨_,_,_,fn',hfn',_,_,_,_,hval⟩:=hok
 obtain rfl:fn'=fn:=Option.some.inj (hfn'.symm.trans hfn)
 obtain ⟨⟨⟨ds,gs,before,hw,_⟩,hx⟩,_⟩:=hpre
 refine (law (w.forCall tape i) w.heap.size i.args ds gs before hval (DataW.Whole.of_heap (w':=w.forCall tape i) (by rfl) hw) (hX _ _ _ (by rfl) hx) hsh).mono fun e W' ⟨v,he,hp⟩=>?_
 subst he
 exact ChangeSpec.post_blind hp
theorem maxLenCell {W:World} (h:W.ShapedOpen Tryz.prog):∃ m,W.cell? ⟨3,0,none⟩=some (.int .i64 m) :=
 cell_of_shapedOpen_int (P:=Tryz.prog) (g:=3) (t:=3) (zero := #[.int .i64 0]) h (of_decide_eq_true (by kernel_rfl)) (by kernel_rfl) rfl (by kernel_rfl) (by kernel_rfl) Tryz.underlying3
end
 
section
open Go Go.RowKit Go.WideShapes Go.ChangeShapes Go.ChangeAt Go.Joins Go.Deep
section
variable {H:Type} {enc:TypeId × Value->H} {P:Program} {w:World} {base:Nat} {spare:Nat->Bool} {held:Bool}
end
end
 
section
open Go Go.RowKit Go.WideShapes Go.ChangeShapes Go.ChangeAt Go.Joins Go.Deep
section
variable {H:Type} {enc:TypeId × Value->H} {P:Program} {w:World} {base:Nat} {spare:Nat->Bool} {held:Bool}
theorem fieldsOne {t:TypeId} {fs:Array Field} {fuel:Nat} {cs:List Value} {x:DataW H × List MemPlace} (ht:P.underlying t=some (.struct fs)) (hone:oneCellFields P fs=true) (h:DataW.trod enc P w base spare held fuel t cs=some x) :
  ∃ n,∀ i f,fs[i]? = some f->i<cs.length->∃ v y,cs[i]? = some v/\DataW.trod enc P w base spare held n f.type [v]=some y:=by
 obtain ⟨xs,n,_,_,hl,hlen,hf⟩:=DataW.trod_struct ht h
 refine ⟨n,fun i f hi hc=>?_⟩
 obtain ⟨h1,h2⟩:=hone_of hone i f hi
 have h3:=hf i f hi
 have hi':i<fs.size:=(Array.getElem?_eq_some_iff.1 hi).1
 rw [h1,h2,List.getElem?_eq_getElem (by omega)] at h3
 refine ⟨cs[i],xs[i],List.getElem?_eq_getElem hc,?_⟩
 have e:(cs.drop i).take 1=[cs[i]]:=by rw [List.drop_eq_getElem_cons hc]; rfl
 rwa [e] at h3
theorem cell_plain {a:Addr} {v:Value} (h:w.cell? a=some v):a.spot=none:=by
 unfold World.cell? at h
 split at h
 ·split at h
  ·cases h
  ·rename_i hs; simpa using hs
 ·cases h
theorem open_rdK {α:Type} [Inhabited α] {k:Nat} {f:α->List Value} {Q:α->Prop} {W:World} {b0:Nat} {t e:TypeId} {v:Value} {d:DataW H} {p:List MemPlace} (hf:OneK k f) (ht:P.underlying t=some (.slice e)) (hc:P.cellsOf e=k)
  (hE:∀ n cs y,DataW.trod enc P W 0 (fun _=>true) true n e cs=some y->cs.length=k->∃ x,cs=f x/\Q x)
  (hval:Value.okWide P W .any b0 t v) (h:DataW.Trod enc P W 0 (fun _=>true) true t v d p):∃ A c l,v=.slice A l.length c/\RdK k f W A c l/\∀ x∈l,Q x:=by
 obtain ⟨a0,len,cap,rfl⟩:=okWide_slice ht hval
 obtain ⟨fuel,hfu⟩:=h
 rcases open_slice ht hfu with ⟨hcs,hx⟩ | ⟨a,len',cap',m,n,D,Pl,hcs,_,hl,hm,hmm,_,hel⟩
 ·simp [Value.cells] at hcs
  obtain ⟨rfl,rfl,rfl⟩:=hcs
  exact ⟨none,0,[],rfl,⟨hf,by simp,by simp [maxLen],fun h=>absurd rfl h⟩,by simp⟩
 ·simp [Value.cells] at hcs
  obtain ⟨rfl,rfl,rfl⟩:=hcs
  simp only [if_true] at hmm
  subst hmm
  have each:∀ i,i<m->∃ x:α,Q x/\∀ j,j<k->W.cell? ((a.add (i*k)).add j)=(f x)[j]? := fun i hi=>by
   obtain ⟨cs',h1,h2⟩:=hel i hi
   rw [hc] at h1
   obtain ⟨_,hlen,hcell⟩:=World.cells?_some h1
   obtain ⟨x,hx,hq⟩:=hE n cs' _ h2 hlen
   exact ⟨x,hq,fun j hj=>by rw [hcell j hj,hx]⟩
  obtain ⟨q,hq⟩:=choose_lt each
  have hll:((List.range len).map q).length=len:=by simp
  refine ⟨some a,m,(List.range len).map q,by rw [hll],⟨hf,by rw [hll]; exact hl,hm,fun hne=>?_⟩,fun x hx=>?_⟩
  ·have h0:0<len:=by
    rcases Nat.eq_zero_or_pos len with h | h
    ·subst h; simp at hne
    ·exact h
   have hcell0:=(hq 0 (by omega)).2 0 hf.pos
   rw [Nat.zero_mul] at hcell0
   have hs:a.spot=none:=by
    have h2:(f (q 0))[0]? = some ((f (q 0))[0]'(by rw [hf.len]; exact hf.pos)):=List.getElem?_eq_getElem _
    rw [h2] at hcell0
    have:=cell_plain hcell0
    simpa [Addr.add] using this
   obtain ⟨g,o,s⟩:=a
   dsimp only at hs
   subst hs
   refine ⟨g,o,rfl,fun j x i u hj hi=>?_⟩
   have hjl:j<len:=by
    rcases Nat.lt_or_ge j len with h | h
    ·exact h
    ·rw [List.getElem?_eq_none (by rw [hll]; exact h)] at hj; cases hj
   have hxe:x=q j:=by
    rw [List.getElem?_map,List.getElem?_range hjl] at hj
    simpa using hj.symm
   subst hxe
   have hik:i<k:=by
    have:=(List.getElem?_eq_some_iff.1 hi).1
    rwa [hf.len] at this
   have:=(hq j (by omega)).2 i hik
   rw [hi,Addr.add_mid,Addr.add_mid] at this
   rw [<-this]
   congr 2
   omega
  ·obtain ⟨i,hi,rfl⟩:=List.mem_map.1 hx
   exact (hq i (by have:=List.mem_range.1 hi; omega)).1
end
end
 end Go.Proofs.YtafpeckmdjplnaaGreatDoor

namespace Go.Proofs
open Go.Shelf
def Tryz.sorted56_ren:Go.Shelf.Ren:=⟨fun | 6=>56 | 8=>82 | 9=>83 | 11=>102 | 13=>88 | 12=>103 | 23=>112 | 24=>113 | 14=>125 | 15=>126 | 16=>127 | 17=>128 | 18=>129 | 19=>130 | 20=>131 | 21=>132 | 22=>133 | 25=>147 | 26=>135 | 27=>136 | 28=>148 | 29=>149 | 30=>150 | 31=>157 | n=>n,fun | 26=>9 | 28=>123 | 24=>120 | 0=>0 | 3=>3 | 37=>117 | 48=>115 | 50=>116 | 4=>4 | 40=>176 | 39=>175 | 45=>180 | 5=>5 | 9=>9 | 51=>206 | 55=>210 | 57=>219 | 58=>220 | 33=>82 | n=>n,fun | n=>n⟩
theorem Tryz.sorted56:Go.Proofs.SlLaysZ.n6 Tryz.prog Tryz.sorted56_ren:={
 mixed:=by kernel_rfl
 f6:=⟨Tryz.f56.name,by decide,Tryz.func56.trans (congrArg some (by kernel_rfl))⟩
 f8:=⟨Tryz.f82.name,by decide,Tryz.func82.trans (congrArg some (by kernel_rfl))⟩
 f11:=⟨Tryz.f102.name,by decide,Tryz.func102.trans (congrArg some (by kernel_rfl))⟩
 t0:=Tryz.underlying0
 a0:=Tryz.isAgg0
 z0:=Tryz.sizeOf0
 v0:=Tryz.zeroValue0
 t24:=Tryz.underlying120
 a24:=Tryz.isAgg120
 z24:=Tryz.sizeOf120
 v24:=Tryz.zeroValue120
 t26:=Tryz.underlying9
 a26:=Tryz.isAgg9
 z26:=Tryz.sizeOf9
 v26:=Tryz.zeroValue9
 t28:=Tryz.underlying123
 a28:=Tryz.isAgg123
 z28:=Tryz.sizeOf123
 v28:=Tryz.zeroValue123
 i26:=by kernel_rfl }
def Tryz.lays137_ren:Go.Shelf.Ren:=⟨fun | 137=>117 | 217=>143 | 266=>156 | n=>n,fun | 9=>9 | 5=>5 | 3=>3 | n=>n,fun | n=>n⟩
theorem Tryz.lays137:Go.Proofs.Lays.n137 Tryz.prog Tryz.lays137_ren:={
 mixed:=by kernel_rfl
 f137:=Tryz.func117.trans (congrArg some (by kernel_rfl))
 f217:=Tryz.func143.trans (congrArg some (by kernel_rfl))
 f266:=Tryz.func156.trans (congrArg some (by kernel_rfl))
 t3:=Tryz.underlying3
 a3:=Tryz.isAgg3
 z3:=Tryz.sizeOf3
 v3:=Tryz.zeroValue3
 t5:=Tryz.underlying5
 a5:=Tryz.isAgg5
 z5:=Tryz.sizeOf5
 v5:=Tryz.zeroValue5
 t9:=Tryz.underlying9
 a9:=Tryz.isAgg9
 z9:=Tryz.sizeOf9
 v9:=Tryz.zeroValue9 }
open Go.RowKit in
theorem Tryz.strings_IndexByte (s:ByteArray) (c:Int) (w:World) :
  Calls Tryz.prog 117 #[.string s,.int .u8 c] w fun e w'=>e=.returned (.int .i64 (Lib.indexByte s.data.toList c.toNat.toUInt8))/\w'=w:=Any.strings_IndexByte Tryz.lays137 s c w
def Tryz.lays190_ren:Go.Shelf.Ren:=⟨fun | 190=>83 | 125=>88 | 258=>103 | 128=>112 | 129=>113 | 302=>125 | 303=>126 | 304=>127 | 305=>128 | 306=>129 | 307=>130 | 308=>131 | 309=>132 | 310=>133 | 333=>147 | 329=>135 | 330=>136 | 334=>148 | 335=>149 | 336=>150 | 344=>157 | n=>n,fun | 31=>120 | 9=>9 | 3=>3 | 46=>117 | 0=>0 | 51=>115 | 53=>116 | 4=>4 | 183=>176 | 182=>175 | 131=>180 | 5=>5 | 218=>206 | 222=>210 | 228=>219 | 229=>220 | n=>n,fun | n=>n⟩
theorem Tryz.lays190:Go.Proofs.Lays.n190 Tryz.prog Tryz.lays190_ren:={
 mixed:=by kernel_rfl
 f125:=Tryz.func88.trans (congrArg some (by kernel_rfl))
 f128:=Tryz.func112.trans (congrArg some (by kernel_rfl))
 f129:=Tryz.func113.trans (congrArg some (by kernel_rfl))
 f190:=Tryz.func83.trans (congrArg some (by kernel_rfl))
 f258:=Tryz.func103.trans (congrArg some (by kernel_rfl))
 f302:=Tryz.func125.trans (congrArg some (by kernel_rfl))
 f303:=Tryz.func126.trans (congrArg some (by kernel_rfl))
 f304:=Tryz.func127.trans (congrArg some (by kernel_rfl))
 f305:=Tryz.func128.trans (congrArg some (by kernel_rfl))
 f306:=Tryz.func129.trans (congrArg some (by kernel_rfl))
 f307:=Tryz.func130.trans (congrArg some (by kernel_rfl))
 f308:=Tryz.func131.trans (congrArg some (by kernel_rfl))
 f309:=Tryz.func132.trans (congrArg some (by kernel_rfl))
 f310:=Tryz.func133.trans (congrArg some (by kernel_rfl))
 f329:=Tryz.func135.trans (congrArg some (by kernel_rfl))
 f330:=Tryz.func136.trans (congrArg some (by kernel_rfl))
 f333:=Tryz.func147.trans (congrArg some (by kernel_rfl))
 f334:=Tryz.func148.trans (congrArg some (by kernel_rfl))
 f335:=Tryz.func149.trans (congrArg some (by kernel_rfl))
 f336:=Tryz.func150.trans (congrArg some (by kernel_rfl))
 f344:=Tryz.func157.trans (congrArg some (by kernel_rfl))
 t0:=Tryz.underlying0
 a0:=Tryz.isAgg0
 z0:=Tryz.sizeOf0
 v0:=Tryz.zeroValue0
 t3:=Tryz.underlying3
 a3:=Tryz.isAgg3
 z3:=Tryz.sizeOf3
 v3:=Tryz.zeroValue3
 t4:=Tryz.underlying4
 a4:=Tryz.isAgg4
 z4:=Tryz.sizeOf4
 v4:=Tryz.zeroValue4
 t5:=Tryz.underlying5
 a5:=Tryz.isAgg5
 z5:=Tryz.sizeOf5
 v5:=Tryz.zeroValue5
 t9:=Tryz.underlying9
 a9:=Tryz.isAgg9
 z9:=Tryz.sizeOf9
 v9:=Tryz.zeroValue9
 t31:=Tryz.underlying120
 a31:=Tryz.isAgg120
 z31:=Tryz.sizeOf120
 v31:=Tryz.zeroValue120
 t46:=Tryz.underlying117
 a46:=Tryz.isAgg117
 z46:=Tryz.sizeOf117
 v46:=Tryz.zeroValue117
 t51:=Tryz.underlying115
 a51:=Tryz.isAgg115
 z51:=Tryz.sizeOf115
 v51:=Tryz.zeroValue115
 t53:=Tryz.underlying116
 a53:=Tryz.isAgg116
 z53:=Tryz.sizeOf116
 v53:=Tryz.zeroValue116
 t131:=Tryz.underlying180
 a131:=Tryz.isAgg180
 z131:=Tryz.sizeOf180
 v131:=Tryz.zeroValue180
 t182:=Tryz.underlying175
 a182:=Tryz.isAgg175
 z182:=Tryz.sizeOf175
 v182:=Tryz.zeroValue175
 t183:=Tryz.underlying176
 a183:=Tryz.isAgg176
 z183:=Tryz.sizeOf176
 v183:=Tryz.zeroValue176
 t218:=Tryz.underlying206
 a218:=Tryz.isAgg206
 z218:=Tryz.sizeOf206
 v218:=Tryz.zeroValue206
 t222:=Tryz.underlying210
 a222:=Tryz.isAgg210
 z222:=Tryz.sizeOf210
 v222:=Tryz.zeroValue210
 t228:=Tryz.underlying219
 a228:=Tryz.isAgg219
 z228:=Tryz.sizeOf219
 v228:=Tryz.zeroValue219
 t229:=Tryz.underlying220
 a229:=Tryz.isAgg220
 z229:=Tryz.sizeOf220
 v229:=Tryz.zeroValue220 }
open Go.Sort Go.RowKit in
theorem Tryz.slices_Sort_string (blk off cap:Nat) (ss:List (List UInt8)) (w:World) (hH:Holds encStr w blk off ss.toArray) (hblk:blk<w.heap.size) (hsz:ss.length<4611686018427387904) :
  Calls Tryz.prog 83 #[.slice (some ⟨blk,off,none⟩) ss.length cap] w fun e w' =>
   e=.returned (.tuple #[])/\∃ n os,w'=grow (putRow encStr (Sort.ahead w n) blk off (ss.mergeSort fun x y=>decide (x<=y)).toArray) os:=Any.slices_Sort_string Tryz.lays190 blk off cap ss w hH hblk hsz
def Tryz.lays146_ren:Go.Shelf.Ren:=⟨fun | 146=>69 | 221=>90 | 268=>114 | 138=>115 | 143=>116 | 195=>139 | 197=>140 | 218=>141 | 219=>142 | 260=>152 | 217=>143 | 225=>153 | 224=>154 | 267=>155 | 266=>156 | 314=>158 | n=>n,fun | 9=>9 | 31=>120 | 3=>3 | 4=>4 | 0=>0 | 105=>212 | 21=>21 | 5=>5 | 46=>117 | 119=>224 | 139=>227 | 138=>226 | 146=>228 | 51=>115 | n=>n,fun | 1=>3 | 3=>18 | 4=>19 | n=>n⟩
theorem Tryz.lays146:Go.Proofs.Lays.n146 Tryz.prog Tryz.lays146_ren:={
 mixed:=by kernel_rfl
 f138:=Tryz.func115.trans (congrArg some (by kernel_rfl))
 f143:=Tryz.func116.trans (congrArg some (by kernel_rfl))
 f146:=Tryz.func69.trans (congrArg some (by kernel_rfl))
 f195:=Tryz.func139.trans (congrArg some (by kernel_rfl))
 f197:=Tryz.func140.trans (congrArg some (by kernel_rfl))
 f217:=Tryz.func143.trans (congrArg some (by kernel_rfl))
 f218:=Tryz.func141.trans (congrArg some (by kernel_rfl))
 f219:=Tryz.func142.trans (congrArg some (by kernel_rfl))
 f221:=Tryz.func90.trans (congrArg some (by kernel_rfl))
 f224:=Tryz.func154.trans (congrArg some (by kernel_rfl))
 f225:=Tryz.func153.trans (congrArg some (by kernel_rfl))
 f260:=Tryz.func152.trans (congrArg some (by kernel_rfl))
 f266:=Tryz.func156.trans (congrArg some (by kernel_rfl))
 f267:=Tryz.func155.trans (congrArg some (by kernel_rfl))
 f268:=Tryz.func114.trans (congrArg some (by kernel_rfl))
 f314:=Tryz.func158.trans (congrArg some (by kernel_rfl))
 t0:=Tryz.underlying0
 a0:=Tryz.isAgg0
 z0:=Tryz.sizeOf0
 v0:=Tryz.zeroValue0
 t3:=Tryz.underlying3
 a3:=Tryz.isAgg3
 z3:=Tryz.sizeOf3
 v3:=Tryz.zeroValue3
 t4:=Tryz.underlying4
 a4:=Tryz.isAgg4
 z4:=Tryz.sizeOf4
 v4:=Tryz.zeroValue4
 t5:=Tryz.underlying5
 a5:=Tryz.isAgg5
 z5:=Tryz.sizeOf5
 v5:=Tryz.zeroValue5
 t9:=Tryz.underlying9
 a9:=Tryz.isAgg9
 z9:=Tryz.sizeOf9
 v9:=Tryz.zeroValue9
 t21:=Tryz.underlying21
 a21:=Tryz.isAgg21
 z21:=Tryz.sizeOf21
 v21:=Tryz.zeroValue21
 t31:=Tryz.underlying120
 a31:=Tryz.isAgg120
 z31:=Tryz.sizeOf120
 v31:=Tryz.zeroValue120
 t46:=Tryz.underlying117
 a46:=Tryz.isAgg117
 z46:=Tryz.sizeOf117
 v46:=Tryz.zeroValue117
 t51:=Tryz.underlying115
 a51:=Tryz.isAgg115
 z51:=Tryz.sizeOf115
 v51:=Tryz.zeroValue115
 t105:=Tryz.underlying212
 a105:=Tryz.isAgg212
 z105:=Tryz.sizeOf212
 v105:=Tryz.zeroValue212
 t119:=Tryz.underlying224
 a119:=Tryz.isAgg224
 z119:=Tryz.sizeOf224
 t138:=Tryz.underlying226
 a138:=Tryz.isAgg226
 z138:=Tryz.sizeOf226
 v138:=Tryz.zeroValue226
 t139:=Tryz.underlying227
 a139:=Tryz.isAgg227
 z139:=Tryz.sizeOf227
 v139:=Tryz.zeroValue227
 t146:=Tryz.underlying228
 a146:=Tryz.isAgg228
 z146:=Tryz.sizeOf228
 v146:=Tryz.zeroValue228
 g1:=by kernel_rfl
 g3:=by kernel_rfl
 g4:=by kernel_rfl }
open Go.RowKit Go.Lib in
theorem Tryz.strings_Split (s sep:ByteArray) (m:Int) (w:World) (hs:s.size<4294967281) (hm:w.cell? ⟨3,0,none⟩=some (.int .i64 m)) (h1:1<=sep.size) :
  Calls Tryz.prog 69 #[.string s,.string sep] w fun e w' =>
   e=.returned (.slice (some ⟨w.heap.size,0,none⟩) (Lib.countB s sep+1) (Lib.countB s sep+1))/\w'=w.alloc (.cells ((Lib.splitB sep 0 (Lib.countB s sep) s).map Value.string).toArray 9):=Any.strings_Split Tryz.lays146 (by kernel_rfl) s sep m w hs hm h1
open Go.RowKit Go.Sort in
theorem Tryz.slices_Sort_string_none (p:Option Addr) (cap:Nat) (w:World) :
  Calls Tryz.prog 83 #[.slice p 0 cap] w fun e w'=>e=.returned (.tuple #[])/\w'=w:=Any.slices_Sort_string_none Tryz.lays190 p cap w
end Go.Proofs
 
namespace Go.Proofs.YtafpeckmdjplnaaGreatDoor

section
open Go Go.RowKit
theorem Fn.ofCalls {P:Program} {f:FuncId} {args:Array Value} {w:World} {v:Value} (hgo:goesIn P f=true) (h:∀ w1,Calls P f args w1 fun e w'=>e=.returned v/\w'=w1):Fn P f args w (fun r w'=>w=w'/\r=v) :=
 ⟨hgo,fun w1 e=>(h w1).mono fun _ _ ⟨he,hw⟩=>⟨v,w,he,by rw [hw]; exact e,rfl,rfl⟩⟩
theorem bs (l:List UInt8):(Value.string ⟨⟨l⟩⟩)=vs l:=rfl
def Zx (s:List UInt8) (c:Int) (K:Int->Prop):Prop:=K (Lib.indexByte s c.toNat.toUInt8)
theorem W_strings_IndexByte {w:World} {s:List UInt8} {c:Int} {K:Int->Prop} (H:Zx s c K):Fn Tryz.prog 117 ⟨[vs s,.int .u8 c]⟩ w (fun v w'=>w=w'/\∃ r:Int,v=.int .i64 r/\K r) :=
 (Fn.ofCalls (by kernel_rfl) (fun w1=>Tryz.strings_IndexByte ⟨⟨s⟩⟩ c w1)).mono fun _ _ ⟨h1,h2⟩=>⟨h1,_,h2,H⟩
def splitL (sep s:List UInt8):List (List UInt8):=Lib.splitK sep 0 (Lib.countB ⟨⟨s⟩⟩ ⟨⟨sep⟩⟩) s
theorem splitL_map (sep s:List UInt8):(Lib.splitB ⟨⟨sep⟩⟩ 0 (Lib.countB ⟨⟨s⟩⟩ ⟨⟨sep⟩⟩) ⟨⟨s⟩⟩).map Value.string=(splitL sep s).map vs:=by
 have h:=Lib.splitB_data ⟨⟨sep⟩⟩ 0 (Lib.countB ⟨⟨s⟩⟩ ⟨⟨sep⟩⟩) ⟨⟨s⟩⟩
 unfold splitL
 rw [show Lib.splitK sep 0 (Lib.countB ⟨⟨s⟩⟩ ⟨⟨sep⟩⟩) s=_ from h.symm,List.map_map]
 rfl
def M_strings_Split (s sep:List UInt8) (K:List (List UInt8)->Prop):Prop:=s.length<4294967281/\1<=sep.length/\K (splitL sep s)
theorem splitL_length {sep:List UInt8} (h:1<=sep.length) (s:List UInt8):(splitL sep s).length=Lib.countB ⟨⟨s⟩⟩ ⟨⟨sep⟩⟩+1:=by
 have h1:=Lib.splitB_all ⟨⟨sep⟩⟩ h 0 _ ⟨⟨s⟩⟩ rfl
 have h2:=congrArg List.length (splitL_map sep s)
 simp only [List.length_map] at h2
 omega
theorem W_strings_Split {S:List Nat} {w:World} {s sep:List UInt8} {K:List (List UInt8)->Prop} (hG:GOK S w) (h100:100∈S) (H:M_strings_Split s sep K):Fn Tryz.prog 69 ⟨[vs s,vs sep]⟩ w (fun v w'=>w.grownBy w' none/\∃ (r:List (List UInt8)) (A:Option Addr) (c:Nat),v=.slice A r.length c/\Own vs w' w.heap.size 9 A c r/\K r):=by
 obtain ⟨m,hm⟩:=hG.ml h100
 refine ⟨by kernel_rfl,fun w1 e=>(Tryz.strings_Split ⟨⟨s⟩⟩ ⟨⟨sep⟩⟩ m w1 H.1 (by rw [e.cell]; exact hm) H.2.1).mono fun _ w' ⟨he,hw⟩=>?_⟩
 have hlen:=splitL_length H.2.1 s
 obtain ⟨hB,hg⟩:=newBlock w1 e ((splitL sep s).map vs) 9
 have hw':w'=w1.alloc (.cells ⟨(splitL sep s).map vs⟩ 9):=by rw [hw,splitL_map]
 rw [<-hw'] at hB hg
 have hml:(splitL sep s).length<=maxLen:=by
  have h3:=Lib.countB_le ⟨⟨sep⟩⟩ H.2.1 s.length ⟨⟨s⟩⟩ (Nat.le_refl _)
  have h3':Lib.countB ⟨⟨s⟩⟩ ⟨⟨sep⟩⟩<=s.length:=h3
  have h4:=H.1
  simp only [maxLen]
  omega
 exact ⟨_,w',he,Eqv.refl _,hg,splitL sep s,some ⟨w.heap.size,0,none⟩,Lib.countB ⟨⟨s⟩⟩ ⟨⟨sep⟩⟩+1,by rw [e.heap,hlen],Own.ofBl hB (Nat.le_refl _) hml hlen.symm,H.2.2⟩
end
 
section
open Go Go.RowKit
theorem enc_vs:encStr=vs:=by funext l; rfl
def Zk (xs:List (List UInt8)) (K:List (List UInt8)->Prop):Prop:=xs.length<4611686018427387904/\K (xs.mergeSort fun x y=>decide (x<=y))
theorem W_slices_Sort_string_string {w:World} {xs:List (List UInt8)} {A:Option Addr} {c n B:Nat} {e:TypeId} {K:List (List UInt8)->Prop} (hO:Own vs w B e A c xs) (hn:n=xs.length) (H:Zk xs K) :
  Fn Tryz.prog 83 ⟨[.slice A n c]⟩ w (fun v w'=>∃ ys:List (List UInt8),v=.tuple #[]/\Own vs w' B e A c ys/\w.grownBy w' (blk A)/\ys.length=xs.length/\K ys):=by
 subst hn
 refine ⟨by kernel_rfl,fun w1 e1=>?_⟩
 have hO1:=own_eqv e1 hO
 rcases hO1.2 with ⟨hv,hn⟩ | ⟨g,cap,cur,hv,hb,hg,hnc,hcm,hcs,htake⟩
 ·simp only [Value.slice.injEq] at hv
  obtain ⟨rfl,_,rfl⟩:=hv
  have:xs=[]:=List.eq_nil_of_length_eq_zero hn
  subst this
  refine (Tryz.slices_Sort_string_none none 0 w1).mono fun _ w' ⟨he,hw⟩=>⟨_,w,he,by rw [hw]; exact e1,[],rfl,hO,jr _ _,rfl,?_⟩
  simpa using H.2
 ·simp only [Value.slice.injEq] at hv
  obtain ⟨rfl,_,rfl⟩:=hv
  refine (Tryz.slices_Sort_string g 0 c xs w1 (holds_of_block hg (by rw [enc_vs]; simpa using htake)) (Array.getElem?_eq_some_iff.1 hg).1 H.1).mono fun _ w' ⟨he,q,os,hw⟩=>?_
  have hl:(xs.mergeSort fun x y=>decide (x<=y)).length=xs.length:=List.length_mergeSort xs
  have h1:=ownsRow_sorted (n:=q) (os:=os) hl hb hg hnc hcm hcs
  have h2:=grownBy_sorted (w:=w1) (g:=g) (n:=q) (os:=os) (xs.mergeSort fun x y=>decide (x<=y)).toArray
  rw [<-hw] at h1 h2
  refine ⟨_,w',he,Eqv.refl _,_,rfl,?_,kh e1 h2,hl,H.2⟩
  unfold Own
  rw [hl,<-enc_vs]
  exact h1
end
 
section
open Go Go.RowKit
attribute [local irreducible] WL WC WX WQ WK WJ Yld Eff Ef0 Fn
def Zy (c:Int) (K:Bool->Prop):Prop :=
 ((((((decide ((48:Int)<=c)) && (decide (c<=(57:Int)))) || ((decide ((65:Int)<=c)) && (decide (c<=(90:Int))))) || ((decide ((97:Int)<=c)) && (decide (c<=(122:Int)))))=true->K true) /\
 (((((decide ((48:Int)<=c)) && (decide (c<=(57:Int)))) || ((decide ((65:Int)<=c)) && (decide (c<=(90:Int))))) || ((decide ((97:Int)<=c)) && (decide (c<=(122:Int)))))=false->Zx ([33,35,37,43,44,45,46,61,64,95,126]:List UInt8) c (fun (t26:Int) =>
 K (decide ((0:Int)<=t26)))))
def M_path_dots (s:List UInt8) (K:Bool->Prop):Prop :=
 K (((decide (s=([]:List UInt8))) || (decide (s=([46]:List UInt8)))) || (decide (s=([46,46]:List UInt8))))
def M_path_fair (s:List UInt8) (K:Bool->Prop):Prop :=
 Lp1 (fun (t6:Int) kont1=>((t6<(s.length:Int)->(0<=t6/\t6<s.length) /\
 Zy ((s.getD t6.toNat 0).toNat:Int) (fun (t12:Bool) =>
 (((!t12)=true->K false) /\
 ((!t12)=false->(In .i64 (t6+(1:Int))) /\
 kont1 (t6+(1:Int)))))) /\
 (¬ (t6<(s.length:Int))->M_path_dots s (fun (t16:Bool) =>
 K (!t16))))) (0:Int)
def kX (p:List UInt8) (K:Bool->Prop):Prop :=
 (((200:Int)<(p.length:Int)->K false) /\
 (¬ ((200:Int)<(p.length:Int))->M_strings_Split p ([47]:List UInt8) (fun (t9:List (List UInt8)) =>
 Lp1 (fun (t11:Int) kont1=>((t11<(t9.length:Int)->(0<=t11/\t11<(t9.length:Nat)) /\
 M_path_fair (t9.getD t11.toNat []) (fun (t16:Bool) =>
 (((!t16)=true->K false) /\
 ((!t16)=false->(In .i64 (t11+(1:Int))) /\
 kont1 (t11+(1:Int)))))) /\
 (¬ (t11<(t9.length:Int))->K true))) (0:Int))))
def jz (n:Int) (below:Int) (K:Int->Prop):Prop :=
 (below≠0) /\
 (In .i64 ((n.tmod below)+below)) /\
 (below≠0) /\
 K (((n.tmod below)+below).tmod below)
set_option maxHeartbeats 8000000 in
theorem W_path_letter {w:World} {c:Int} {K:Bool->Prop} (H:Zy c K):Fn Tryz.prog 91 ⟨[.int .u8 c]⟩ w (fun v w'=>w=w'/\∃ (r:Bool),v=.bool r/\K r):=by
 unfold Zy at H
 refine Fn.enter (by kernel_rfl) Tryz.func91 rfl Tryz.ntmps91 rfl ?_
 refine zd (zb (yp (h:=(zf (za (zd (zd (zb (yp (h:=(yp (h:=(yp (h:=(zL 3 (fun L' w'=>∃ q1:Bool,L'=[(8,.bool q1),(0,.int .u8 c)]/\((decide ((48:Int)<=c)) && (decide (c<=(57:Int))))=q1/\w=w') ?_ (fun hQ=>?_))))))))))))))))
 ·rintro _ _ ⟨q1,rfl,rfl,rfl⟩
  refine yp (h:=(zL 7 (fun L' w'=>∃ q2:Bool,L'=[(16,.bool q2),(0,.int .u8 c)]/\(((decide ((48:Int)<=c)) && (decide (c<=(57:Int)))) || ((decide ((65:Int)<=c)) && (decide (c<=(90:Int)))))=q2/\w=w') ?_ (fun hQ=>?_)))
  ·rintro _ _ ⟨q2,rfl,rfl,rfl⟩
   refine yp (h:=(zL 7 (fun L' w'=>∃ q3:Bool,L'=[(24,.bool q3),(0,.int .u8 c)]/\((((decide ((48:Int)<=c)) && (decide (c<=(57:Int)))) || ((decide ((65:Int)<=c)) && (decide (c<=(90:Int))))) || ((decide ((97:Int)<=c)) && (decide (c<=(122:Int)))))=q3/\w=w') ?_ (fun hQ=>?_)))
   ·rintro _ _ ⟨q3,rfl,rfl,rfl⟩
    refine zf (za (zp rfl (fun b1=>?_) (fun b1=>?_)))
    ·replace H:=H.1 (b1)
     exact zd (zb (yp (h:=(zf (za (zq (zh (zw rfl rfl ⟨rfl,true,rfl,H⟩))))))))
    ·replace H:=H.2 (b1)
     refine zo (za (zd (zb (yp (h:=(WL.call rfl rfl (W_strings_IndexByte H) ?_))))))
     rintro _ _ ⟨rfl,t26,rfl,H⟩
     exact yp (h:=(yp (h:=(zf (za (zq (zw rfl rfl ⟨rfl,decide ((0:Int)<=t26),rfl,H⟩)))))))
   ·clear H
    rcases Bool.eq_false_or_eq_true (((decide ((48:Int)<=c)) && (decide (c<=(57:Int)))) || ((decide ((65:Int)<=c)) && (decide (c<=(90:Int))))) with b2 | b2
    ·exact gn b2 (h:=(gn b2 (h:=(gn b2 (h:=(qo rfl rfl rfl rfl (qo rfl rfl rfl rfl (gn b2 (h:=(zg rfl (zt (okb b2) rfl) (wk (hQ _ _ ⟨true,rfl,by rw [b2] <;> rfl,rfl⟩))))))))))))
    ·refine gp b2 (h:=(gp b2 (h:=(gp b2 (h:=?_)))))
     rcases Bool.eq_false_or_eq_true (decide ((97:Int)<=c)) with b3 | b3
     ·exact gp b3 (h:=(gp b3 (h:=(ze rfl rfl (okb b2) rfl (zt (okb b3) rfl) (zg rfl (zr (okb b2) rfl) (wk (hQ _ _ ⟨decide (c<=(122:Int)),rfl,by rw [b2,b3] <;> rfl,rfl⟩)))))))
     ·exact gn b3 (h:=(gn b3 (h:=(ze rfl rfl (okb b2) rfl (zr (okb b3) rfl) (zg rfl (zr (okb b2) rfl) (wk (hQ _ _ ⟨false,rfl,by rw [b2,b3] <;> rfl,rfl⟩)))))))
  ·clear H
   rcases Bool.eq_false_or_eq_true ((decide ((48:Int)<=c)) && (decide (c<=(57:Int)))) with b4 | b4
   ·exact gn b4 (h:=(gn b4 (h:=(gn b4 (h:=(qo rfl rfl rfl rfl (qo rfl rfl rfl rfl (gn b4 (h:=(zg rfl (zt (okb b4) rfl) (wk (hQ _ _ ⟨true,rfl,by rw [b4] <;> rfl,rfl⟩))))))))))))
   ·refine gp b4 (h:=(gp b4 (h:=(gp b4 (h:=?_)))))
    rcases Bool.eq_false_or_eq_true (decide ((65:Int)<=c)) with b5 | b5
    ·exact gp b5 (h:=(gp b5 (h:=(ze rfl rfl (okb b4) rfl (zt (okb b5) rfl) (zg rfl (zr (okb b4) rfl) (wk (hQ _ _ ⟨decide (c<=(90:Int)),rfl,by rw [b4,b5] <;> rfl,rfl⟩)))))))
    ·exact gn b5 (h:=(gn b5 (h:=(ze rfl rfl (okb b4) rfl (zr (okb b5) rfl) (zg rfl (zr (okb b4) rfl) (wk (hQ _ _ ⟨false,rfl,by rw [b4,b5] <;> rfl,rfl⟩)))))))
 ·clear H
  rcases Bool.eq_false_or_eq_true (decide ((48:Int)<=c)) with b6 | b6
  ·exact gp b6 (h:=(gp b6 (h:=(zg rfl (zt (okb b6) rfl) (wk (hQ _ _ ⟨decide (c<=(57:Int)),rfl,by rw [b6] <;> rfl,rfl⟩))))))
  ·exact gn b6 (h:=(gn b6 (h:=(zg rfl (zr (okb b6) rfl) (wk (hQ _ _ ⟨false,rfl,by rw [b6] <;> rfl,rfl⟩))))))
set_option maxHeartbeats 8000000 in
theorem W_path_dots {w:World} {s:List UInt8} {K:Bool->Prop} (H:M_path_dots s K):Fn Tryz.prog 92 ⟨[vs s]⟩ w (fun v w'=>w=w'/\∃ (r:Bool),v=.bool r/\K r):=by
 unfold M_path_dots at H
 refine Fn.enter (by kernel_rfl) Tryz.func92 rfl Tryz.ntmps92 rfl ?_
 refine zd (zb (yp (h:=(zf (za (zd (zb (yp (h:=(yp (h:=(yp (h:=(zL 3 (fun L' w'=>∃ q1:Bool,L'=[(8,.bool q1),(0,vs s)]/\((decide (s=([]:List UInt8))) || (decide (s=([46]:List UInt8))))=q1/\w=w') ?_ (fun hQ=>?_)))))))))))))))
 ·rintro _ _ ⟨q1,rfl,rfl,rfl⟩
  refine yp (h:=(zL 3 (fun L' w'=>∃ q2:Bool,L'=[(12,.bool q2)]/\(((decide (s=([]:List UInt8))) || (decide (s=([46]:List UInt8)))) || (decide (s=([46,46]:List UInt8))))=q2/\w=w') ?_ (fun hQ=>?_)))
  ·rintro _ _ ⟨q2,rfl,rfl,rfl⟩
   exact yp (h:=(zf (za (zq (zw rfl rfl ⟨rfl,((decide (s=([]:List UInt8))) || (decide (s=([46]:List UInt8)))) || (decide (s=([46,46]:List UInt8))),rfl,H⟩)))))
  ·clear H
   rcases Bool.eq_false_or_eq_true ((decide (s=([]:List UInt8))) || (decide (s=([46]:List UInt8)))) with b1 | b1
   ·exact gn b1 (h:=(gn b1 (h:=(zg rfl (zt (okb b1) rfl) (wk (hQ _ _ ⟨true,rfl,by rw [b1] <;> rfl,rfl⟩))))))
   ·exact gp b1 (h:=(gp b1 (h:=(zg rfl (zr (okb b1) rfl) (wk (hQ _ _ ⟨decide (s=([46,46]:List UInt8)),rfl,by rw [b1] <;> rfl,rfl⟩))))))
 ·clear H
  rcases Bool.eq_false_or_eq_true (decide (s=([]:List UInt8))) with b2 | b2
  ·exact gn b2 (h:=(gn b2 (h:=(zg rfl (zt (okb b2) rfl) (wk (hQ _ _ ⟨true,rfl,by rw [b2] <;> rfl,rfl⟩))))))
  ·exact gp b2 (h:=(gp b2 (h:=(zg rfl (zr (okb b2) rfl) (wk (hQ _ _ ⟨decide (s=([46]:List UInt8)),rfl,by rw [b2] <;> rfl,rfl⟩))))))
set_option maxHeartbeats 8000000 in
theorem W_path_fair {w:World} {s:List UInt8} {K:Bool->Prop} (H:M_path_fair s K):Fn Tryz.prog 70 ⟨[vs s]⟩ w (fun v w'=>w=w'/\∃ (r:Bool),v=.bool r/\K r):=by
 unfold M_path_fair at H
 refine Fn.enter (by kernel_rfl) Tryz.func70 rfl Tryz.ntmps70 rfl ?_
 refine zd (zb (yp (h:=(zf (za (zd (zd (zb (yp (h:=(yp (h:=(yp (h:=(zf (za (WC.block ?_)))))))))))))))))
 obtain ⟨I1,mu1,a0,HR1⟩:=H
 refine zW (fun n' L' w'=>∃ (t6:Int),n'=mu1 t6/\L'=[(0,vs s),(5,.int .i64 (s.length:Int)),(6,.int .i64 t6)]/\I1 t6/\w=w') _ _ ⟨(0:Int),rfl,rfl,a0,rfl⟩ sb ?_
 clear a0
 rintro _ _ _ ⟨t6,rfl,rfl,hI1,rfl⟩
 have H:=HR1 t6 hI1
 refine zd (zb (yp (h:=(zf (za (zd (zp rfl (fun b1=>?_) (fun b1=>?_))))))))
 ·replace H:=H.1 (of_decide_eq_true b1)
  refine zo (za (zd (WC.block (zd (zb (yp (h:=(yp (h:=(zf (za (zd (zb (yp (h:=(yp (h:=?_)))))))))))))))))
  obtain ⟨h1,H⟩:=H
  refine zg rfl (qF qY rfl rfl rfl h1.1 h1.2) (WL.call rfl rfl (W_path_letter H) ?_)
  rintro _ _ ⟨rfl,t12,rfl,H⟩
  refine yp (h:=(zf (za (zp rfl (fun b2=>?_) (fun b2=>?_)))))
  ·replace H:=H.1 (b2)
   exact zd (zb (yp (h:=(zf (za (zq (zn (zh (zh (zn (zh (zw rfl rfl ⟨rfl,false,rfl,H⟩))))))))))))
  ·replace H:=H.2 (b2)
   refine zo (zi (za (zb ?_)))
   obtain ⟨h2,H⟩:=H
   exact zg rfl (Yld.add rfl rfl h2) (yp (h:=(zf (zS _ ⟨t6+(1:Int),rfl,rfl,H.1,rfl⟩ sb H.2))))
 ·replace H:=H.2 (of_decide_eq_false b1)
  refine zD (zj (zj (zm (za (zd (zb (yp (h:=(WL.call rfl rfl (W_path_dots H) ?_)))))))))
  rintro _ _ ⟨rfl,t16,rfl,H⟩
  exact yp (h:=(yp (h:=(zf (za (zq (zw rfl rfl ⟨rfl,!t16,rfl,H⟩)))))))
set_option maxHeartbeats 8000000 in
theorem W_path_Valid {S:List Nat} {w:World} {p:List UInt8} {K:Bool->Prop} (hG:GOK S w) (hS100:100∈S) (H:kX p K):Fn Tryz.prog 37 ⟨[vs p]⟩ w (fun v w'=>w.grownBy w' none/\∃ (r:Bool),v=.bool r/\K r):=by
 unfold kX at H
 refine Fn.enter (by kernel_rfl) Tryz.func37 rfl Tryz.ntmps37 rfl ?_
 refine zd (zb (yp (h:=(zf (za (zd (zd (zb (yp (h:=(yp (h:=(yp (h:=(zf (za (zp rfl (fun b1=>?_) (fun b1=>?_))))))))))))))))))
 ·replace H:=H.1 (of_decide_eq_true b1)
  exact zd (zb (yp (h:=(zf (za (zq (zh (zw rfl rfl ⟨(jr _ _),false,rfl,H⟩))))))))
 ·replace H:=H.2 (of_decide_eq_false b1)
  refine zo (za (zd (zd (zb (yp (h:=(WL.call rfl rfl (W_strings_Split hG hS100 H) ?_)))))))
  rintro _ w1 ⟨hg1,t9,a1,a2,rfl,ht9,H⟩
  have hb1:=ht9.ge'
  have k1:=ht9.base (fun g hg=>Nat.le_trans (Nat.le_refl _) (hb1 g hg))
  have gr1:=hg1
  refine yp (h:=(yp (h:=(zf (za (WC.block ?_))))))
  obtain ⟨I1,mu1,a0,HR1⟩:=H
  refine zW (fun n' L' w'=>∃ (t11:Int),n'=mu1 t11/\L'=[(9,.slice a1 t9.length a2),(10,.int .i64 (t9.length:Int)),(11,.int .i64 t11)]/\I1 t11/\w1=w') _ _ ⟨(0:Int),rfl,rfl,a0,rfl⟩ sb ?_
  clear a0
  rintro _ _ _ ⟨t11,rfl,rfl,hI1,rfl⟩
  have H:=HR1 t11 hI1
  refine zd (zb (yp (h:=(zf (za (zd (zp rfl (fun b2=>?_) (fun b2=>?_))))))))
  ·replace H:=H.1 (of_decide_eq_true b2)
   refine zo (za (zd (WC.block (zd (zb ?_)))))
   obtain ⟨h1,H⟩:=H
   refine zg rfl (zK qY k1.rd rfl rfl rfl rfl h1.1 h1.2) (zg rfl (zN [] qY k1.rd rfl rfl (iltN h1 rfl)) (yp (h:=(zf (za (zd (zb (yp (h:=(WL.call rfl rfl (W_path_fair H) ?_))))))))))
   rintro _ _ ⟨rfl,t16,rfl,H⟩
   refine yp (h:=(zf (za (zp rfl (fun b3=>?_) (fun b3=>?_)))))
   ·replace H:=H.1 (b3)
    exact zd (zb (yp (h:=(zf (za (zq (zn (zh (zh (zn (zh (zw rfl rfl ⟨gr1,false,rfl,H⟩))))))))))))
   ·replace H:=H.2 (b3)
    refine zo (zi (za (zb ?_)))
    obtain ⟨h2,H⟩:=H
    exact zg rfl (Yld.add rfl rfl h2) (yp (h:=(zf (zS _ ⟨t11+(1:Int),rfl,rfl,H.1,rfl⟩ sb H.2))))
  ·replace H:=H.2 (of_decide_eq_false b2)
   exact zD (zj (zj (zm (za (zd (zb (yp (h:=(zf (za (zq (zw rfl rfl ⟨gr1,true,rfl,H⟩))))))))))))
set_option maxHeartbeats 8000000 in
theorem kK {w:World} {n:Int} {below:Int} {K:Int->Prop} (H:jz n below K):Fn Tryz.prog 21 ⟨[.int .i64 n,.int .i64 below]⟩ w (fun v w'=>w=w'/\∃ (r:Int),v=.int .i64 r/\K r):=by
 unfold jz at H
 refine Fn.enter (by kernel_rfl) Tryz.func21 rfl Tryz.ntmps21 rfl ?_
 refine zd (zb (yp (h:=(zf (za (zd (zb (yp (h:=(yp (h:=?_)))))))))))
 obtain ⟨h1,H⟩:=H
 refine zg rfl (Yld.rem' rfl rfl h1) (yp (h:=?_))
 obtain ⟨h2,H⟩:=H
 refine zg rfl (Yld.add rfl rfl h2) (yp (h:=?_))
 obtain ⟨h3,H⟩:=H
 exact zg rfl (Yld.rem' rfl rfl h3) (yp (h:=(zf (za (zq (zw rfl rfl ⟨rfl,((n.tmod below)+below).tmod below,rfl,H⟩))))))
end
 
section
open Go Go.RowKit
attribute [local irreducible] WL WC WX WQ WK WJ Yld Eff Ef0 Fn
def M_smithysee_Alike (a:Er) (b:Er) (K:Bool->Prop):Prop :=
 ((((decide (a=Er.ok)) || (decide (b=Er.ok)))=true->K ((decide (a=Er.ok)) && (decide (b=Er.ok)))) /\
 (((decide (a=Er.ok)) || (decide (b=Er.ok)))=false->(¬ (a=Er.ok/\b=Er.ok)/\((∀ p n,a≠Er.at_ p n)∨∀ p n,b≠Er.at_ p n)) /\
 K (decide (a=b))))
def kt (K:Int->Bool->Int->Bool->(List UInt8)->Prop):Prop :=
 K (0:Int) false (0:Int) false ([]:List UInt8)
def j5 (code:Int) (K:Int->Bool->Int->Bool->(List UInt8)->Prop):Prop :=
 K code false (0:Int) false ([]:List UInt8)
def Zd (code:Int) (pos:Int) (K:Int->Bool->Int->Bool->(List UInt8)->Prop):Prop :=
 ((code=(0:Int)->kt (fun (a2:Int) (a0:Bool) (a4:Int) (a1:Bool) (a3:List UInt8) =>
 K a2 a0 a4 a1 a3)) /\
 (¬ (code=(0:Int))->K code true pos false ([]:List UInt8)))
def kB (a_Code:Int) (a_Placed:Bool) (a_Pos:Int) (a_Filed:Bool) (a_File:List UInt8) (b_Code:Int) (b_Placed:Bool) (b_Pos:Int) (b_Filed:Bool) (b_File:List UInt8) (K:Bool->Prop):Prop :=
 K (((((decide (a_Code=b_Code)) && (a_Placed == b_Placed)) && (decide (a_Pos=b_Pos))) && (a_Filed == b_Filed)) && (decide (a_File=b_File)))
set_option maxHeartbeats 8000000 in
theorem W_smithysee_Alike {S:List Nat} {w:World} {v_a:Value} {a:Er} {v_b:Value} {b:Er} {K:Bool->Prop} (ha:ErrR S w v_a a) (hb:ErrR S w v_b b) (H:M_smithysee_Alike a b K):Fn Tryz.prog 146 ⟨[v_a,v_b]⟩ w (fun v w'=>w=w'/\∃ (r:Bool),v=.bool r/\K r):=by
 unfold M_smithysee_Alike at H
 refine Fn.enter (by kernel_rfl) Tryz.func146 rfl Tryz.ntmps146 rfl ?_
 refine zd (zb (yp (h:=(zf (za (zd (zd (zb (yp (h:=(zg rfl (qq Tryz.underlying26 ha rfl) (yp (h:=(zL 3 (fun L' w'=>∃ q1:Bool,L'=[(10,.bool q1),(0,v_a),(1,v_b)]/\((decide (a=Er.ok)) || (decide (b=Er.ok)))=q1/\w=w') ?_ (fun hQ=>?_)))))))))))))))
 ·rintro _ _ ⟨q1,rfl,rfl,rfl⟩
  refine zf (za (zp rfl (fun b1=>?_) (fun b1=>?_)))
  ·replace H:=H.1 (b1)
   refine zd (zb (yp (h:=(zg rfl (qq Tryz.underlying26 ha rfl) (yp (h:=(zL 3 (fun L' w'=>∃ q2:Bool,L'=[(16,.bool q2)]/\((decide (a=Er.ok)) && (decide (b=Er.ok)))=q2/\w=w') ?_ (fun hQ=>?_))))))))
   ·rintro _ _ ⟨q2,rfl,rfl,rfl⟩
    exact yp (h:=(zf (za (zq (zh (zw rfl rfl ⟨rfl,(decide (a=Er.ok)) && (decide (b=Er.ok)),rfl,H⟩))))))
   ·clear H
    rcases Bool.eq_false_or_eq_true (decide (a=Er.ok)) with b2 | b2
    ·exact gp b2 (h:=(ze rfl rfl (okb b2) rfl (qq Tryz.underlying26 hb rfl) (zg rfl (zt (okb b2) rfl) (wk (hQ _ _ ⟨decide (b=Er.ok),rfl,by rw [b2] <;> rfl,rfl⟩)))))
    ·exact gn b2 (h:=(gn b2 (h:=(zg rfl (zr (okb b2) rfl) (wk (hQ _ _ ⟨false,rfl,by rw [b2] <;> rfl,rfl⟩))))))
  ·replace H:=H.2 (b1)
   refine zo (za (zd (zb (yp (h:=(yp (h:=?_)))))))
   obtain ⟨h1,H⟩:=H
   exact zg rfl (Yld.erreqA ha hb h1 rfl rfl) (yp (h:=(zf (za (zq (zw rfl rfl ⟨rfl,decide (a=b),rfl,H⟩))))))
 ·clear H
  rcases Bool.eq_false_or_eq_true (decide (a=Er.ok)) with b3 | b3
  ·exact gn b3 (h:=(gn b3 (h:=(zg rfl (zt (okb b3) rfl) (wk (hQ _ _ ⟨true,rfl,by rw [b3] <;> rfl,rfl⟩))))))
  ·exact gp b3 (h:=(ze rfl rfl (okb b3) rfl (qq Tryz.underlying26 hb rfl) (zg rfl (zr (okb b3) rfl) (wk (hQ _ _ ⟨decide (b=Er.ok),rfl,by rw [b3] <;> rfl,rfl⟩)))))
set_option maxHeartbeats 8000000 in
theorem W_smithyref_None {w:World} {K:Int->Bool->Int->Bool->(List UInt8)->Prop} (H:kt  K):Fn Tryz.prog 100 ⟨[]⟩ w (fun v w'=>w.grownBy w' none/\∃ (r_Code:Int),∃ (r_Placed:Bool),∃ (r_Pos:Int),∃ (r_Filed:Bool),∃ (r_File:List UInt8),v=.agg ⟨[.int .i64 r_Code,.bool r_Placed,.int .i64 r_Pos,.bool r_Filed,vs r_File]⟩/\K r_Code r_Placed r_Pos r_Filed r_File):=by
 unfold kt at H
 refine Fn.enter (by kernel_rfl) Tryz.func100 rfl Tryz.ntmps100 rfl ?_
 exact zd (zb (WL.alloc rfl zero110 (fun g1 w1 hB1 hg1 hl1=>zf (za (zd (zb (zg rfl (z6 (us:=[.int .i64 (0:Int),.bool false,.int .i64 (0:Int),.bool false,vs ([]:List UInt8)]) zero110 places110 rfl rfl) (zP (vs:=[.int .i64 (0:Int),.bool false,.int .i64 (0:Int),.bool false,vs ([]:List UInt8)]) qY rfl rfl rfl (jd rfl (jd rfl (jd rfl (jd rfl (jd rfl kg))))) hB1 rfl rfl (fun w2 hB2 hg2=>zf (za (zq (qv qY rfl rfl rfl hB2 rfl ⟨(jk hg1 hg2 (Ge.le (Ge.box hl1) (Nat.le_refl _))),(0:Int),false,(0:Int),false,([]:List UInt8),rfl,H⟩))))))))))))
set_option maxHeartbeats 8000000 in
theorem W_smithyref_Bare {w:World} {code:Int} {K:Int->Bool->Int->Bool->(List UInt8)->Prop} (H:j5 code K):Fn Tryz.prog 50 ⟨[.int .i64 code]⟩ w (fun v w'=>w.grownBy w' none/\∃ (r_Code:Int),∃ (r_Placed:Bool),∃ (r_Pos:Int),∃ (r_Filed:Bool),∃ (r_File:List UInt8),v=.agg ⟨[.int .i64 r_Code,.bool r_Placed,.int .i64 r_Pos,.bool r_Filed,vs r_File]⟩/\K r_Code r_Placed r_Pos r_Filed r_File):=by
 unfold j5 at H
 refine Fn.enter (by kernel_rfl) Tryz.func50 rfl Tryz.ntmps50 rfl ?_
 exact zd (zb (WL.alloc rfl zero110 (fun g1 w1 hB1 hg1 hl1=>zf (za (zd (zb (yp (h:=(zg rfl (z6 (us:=[.int .i64 code,.bool false,.int .i64 (0:Int),.bool false,vs ([]:List UInt8)]) zero110 places110 rfl rfl) (zP (vs:=[.int .i64 code,.bool false,.int .i64 (0:Int),.bool false,vs ([]:List UInt8)]) qY rfl rfl rfl (jd rfl (jd rfl (jd rfl (jd rfl (jd rfl kg))))) hB1 rfl rfl (fun w2 hB2 hg2=>zf (za (zq (qv qY rfl rfl rfl hB2 rfl ⟨(jk hg1 hg2 (Ge.le (Ge.box hl1) (Nat.le_refl _))),code,false,(0:Int),false,([]:List UInt8),rfl,H⟩))))))))))))))
set_option maxHeartbeats 8000000 in
theorem W_smithyref_Placed {w:World} {code:Int} {pos:Int} {K:Int->Bool->Int->Bool->(List UInt8)->Prop} (H:Zd code pos K):Fn Tryz.prog 124 ⟨[.int .i64 code,.int .i64 pos]⟩ w (fun v w'=>w.grownBy w' none/\∃ (r_Code:Int),∃ (r_Placed:Bool),∃ (r_Pos:Int),∃ (r_Filed:Bool),∃ (r_File:List UInt8),v=.agg ⟨[.int .i64 r_Code,.bool r_Placed,.int .i64 r_Pos,.bool r_Filed,vs r_File]⟩/\K r_Code r_Placed r_Pos r_Filed r_File):=by
 unfold Zd at H
 refine Fn.enter (by kernel_rfl) Tryz.func124 rfl Tryz.ntmps124 rfl ?_
 refine zd (zb (WL.alloc rfl zero110 (fun g1 w1 hB1 hg1 hl1=>?_)))
 have gr1:=hg1
 refine zf (za (zd (zd (zb (yp (h:=(yp (h:=(zf (za (zp rfl (fun b1=>?_) (fun b1=>?_))))))))))))
 ·replace H:=H.1 (of_decide_eq_true b1)
  refine zd (zb (WL.call rfl rfl (W_smithyref_None H) ?_))
  rintro _ w2 ⟨hg2,a2,a0,a4,a1,a3,rfl,H⟩
  exact zP (vs:=[.int .i64 a2,.bool a0,.int .i64 a4,.bool a1,vs a3]) qY rfl rfl rfl (jd rfl (jd rfl (jd rfl (jd rfl (jd rfl kg))))) (hB1.g0 hg2) rfl rfl (fun w3 hB2 hg3=>zf (za (zq (zh (qv qY rfl rfl rfl hB2 rfl ⟨(jk (ja gr1 hg2) hg3 (Ge.le (Ge.box hl1) (Nat.le_refl _))),a2,a0,a4,a1,a3,rfl,H⟩)))))
 ·replace H:=H.2 (of_decide_eq_false b1)
  exact zo (za (zd (zb (yp (h:=(yp (h:=(zg rfl (z6 (us:=[.int .i64 code,.bool true,.int .i64 pos,.bool false,vs ([]:List UInt8)]) zero110 places110 rfl rfl) (zP (vs:=[.int .i64 code,.bool true,.int .i64 pos,.bool false,vs ([]:List UInt8)]) qY rfl rfl rfl (jd rfl (jd rfl (jd rfl (jd rfl (jd rfl kg))))) hB1 rfl rfl (fun w4 hB3 hg4=>zf (za (zq (qv qY rfl rfl rfl hB3 rfl ⟨(jk gr1 hg4 (Ge.le (Ge.box hl1) (Nat.le_refl _))),code,true,pos,false,([]:List UInt8),rfl,H⟩)))))))))))))
set_option maxHeartbeats 8000000 in
theorem W_smithyref_SameFault {w:World} {a_Code:Int} {a_Placed:Bool} {a_Pos:Int} {a_Filed:Bool} {a_File:List UInt8} {b_Code:Int} {b_Placed:Bool} {b_Pos:Int} {b_Filed:Bool} {b_File:List UInt8} {K:Bool->Prop} (H:kB a_Code a_Placed a_Pos a_Filed a_File b_Code b_Placed b_Pos b_Filed b_File K):Fn Tryz.prog 79 ⟨[.agg ⟨[.int .i64 a_Code,.bool a_Placed,.int .i64 a_Pos,.bool a_Filed,vs a_File]⟩,.agg ⟨[.int .i64 b_Code,.bool b_Placed,.int .i64 b_Pos,.bool b_Filed,vs b_File]⟩]⟩ w (fun v w'=>w.grownBy w' none/\∃ (r:Bool),v=.bool r/\K r):=by
 unfold kB at H
 refine Fn.enter (by kernel_rfl) Tryz.func79 rfl Tryz.ntmps79 rfl ?_
 refine zd (zb (qm (us:=[.int .i64 a_Code,.bool a_Placed,.int .i64 a_Pos,.bool a_Filed,vs a_File]) rfl rfl rfl (fun g1 w1 hB1 hg1 hl1=>qm (us:=[.int .i64 b_Code,.bool b_Placed,.int .i64 b_Pos,.bool b_Filed,vs b_File]) rfl rfl rfl (fun g2 w2 hB2 hg2 hl2=>?_))))
 have k1:=hB1.g0 hg2
 refine yp (h:=(zf (za (zd (zb (yp (h:=(zg rfl (zk qY k1 rfl rfl rfl) (yp (h:=(zg rfl (zk qY hB2 rfl rfl rfl) (yp (h:=(yp (h:=(zL 6 (fun L' w'=>∃ q1:Bool,L'=[(16,.bool q1),(2,.pointer (some ⟨g1,0,none⟩)),(3,.pointer (some ⟨g2,0,none⟩))]/\((decide (a_Code=b_Code)) && (a_Placed == b_Placed))=q1/\w2=w') ?_ (fun hQ=>?_)))))))))))))))))
 ·rintro _ _ ⟨q1,rfl,rfl,rfl⟩
  refine yp (h:=(zL 6 (fun L' w'=>∃ q2:Bool,L'=[(23,.bool q2),(2,.pointer (some ⟨g1,0,none⟩)),(3,.pointer (some ⟨g2,0,none⟩))]/\(((decide (a_Code=b_Code)) && (a_Placed == b_Placed)) && (decide (a_Pos=b_Pos)))=q2/\w2=w') ?_ (fun hQ=>?_)))
  ·rintro _ _ ⟨q2,rfl,rfl,rfl⟩
   refine yp (h:=(zL 6 (fun L' w'=>∃ q3:Bool,L'=[(30,.bool q3),(2,.pointer (some ⟨g1,0,none⟩)),(3,.pointer (some ⟨g2,0,none⟩))]/\((((decide (a_Code=b_Code)) && (a_Placed == b_Placed)) && (decide (a_Pos=b_Pos))) && (a_Filed == b_Filed))=q3/\w2=w') ?_ (fun hQ=>?_)))
   ·rintro _ _ ⟨q3,rfl,rfl,rfl⟩
    refine yp (h:=(zL 6 (fun L' w'=>∃ q4:Bool,L'=[(37,.bool q4)]/\(((((decide (a_Code=b_Code)) && (a_Placed == b_Placed)) && (decide (a_Pos=b_Pos))) && (a_Filed == b_Filed)) && (decide (a_File=b_File)))=q4/\w2=w') ?_ (fun hQ=>?_)))
    ·rintro _ _ ⟨q4,rfl,rfl,rfl⟩
     exact yp (h:=(zf (za (zq (zw rfl rfl ⟨(ja hg1 hg2),((((decide (a_Code=b_Code)) && (a_Placed == b_Placed)) && (decide (a_Pos=b_Pos))) && (a_Filed == b_Filed)) && (decide (a_File=b_File)),rfl,H⟩)))))
    ·clear H
     rcases Bool.eq_false_or_eq_true ((((decide (a_Code=b_Code)) && (a_Placed == b_Placed)) && (decide (a_Pos=b_Pos))) && (a_Filed == b_Filed)) with b1 | b1
     ·exact gp b1 (h:=(ze rfl rfl (okb b1) rfl (zk qY k1 rfl rfl rfl) (gp b1 (h:=(ze rfl rfl (okb b1) rfl (zk qY hB2 rfl rfl rfl) (gp b1 (h:=(zg rfl (zt (okb b1) rfl) (wk (hQ _ _ ⟨decide (a_File=b_File),rfl,by rw [b1] <;> rfl,rfl⟩))))))))))
     ·exact gn b1 (h:=(gn b1 (h:=(gn b1 (h:=(gn b1 (h:=(gn b1 (h:=(zg rfl (zr (okb b1) rfl) (wk (hQ _ _ ⟨false,rfl,by rw [b1] <;> rfl,rfl⟩))))))))))))
   ·clear H
    rcases Bool.eq_false_or_eq_true (((decide (a_Code=b_Code)) && (a_Placed == b_Placed)) && (decide (a_Pos=b_Pos))) with b2 | b2
    ·exact gp b2 (h:=(ze rfl rfl (okb b2) rfl (zk qY k1 rfl rfl rfl) (gp b2 (h:=(ze rfl rfl (okb b2) rfl (zk qY hB2 rfl rfl rfl) (ze rfl rfl (okb b2) rfl (Yld.beql Tryz.underlying4 rfl rfl) (zg rfl (zt (okb b2) rfl) (wk (hQ _ _ ⟨a_Filed == b_Filed,rfl,by rw [b2] <;> rfl,rfl⟩)))))))))
    ·exact gn b2 (h:=(gn b2 (h:=(gn b2 (h:=(gn b2 (h:=(gn b2 (h:=(zg rfl (zr (okb b2) rfl) (wk (hQ _ _ ⟨false,rfl,by rw [b2] <;> rfl,rfl⟩))))))))))))
  ·clear H
   rcases Bool.eq_false_or_eq_true ((decide (a_Code=b_Code)) && (a_Placed == b_Placed)) with b3 | b3
   ·exact gp b3 (h:=(ze rfl rfl (okb b3) rfl (zk qY k1 rfl rfl rfl) (gp b3 (h:=(ze rfl rfl (okb b3) rfl (zk qY hB2 rfl rfl rfl) (gp b3 (h:=(zg rfl (zt (okb b3) rfl) (wk (hQ _ _ ⟨decide (a_Pos=b_Pos),rfl,by rw [b3] <;> rfl,rfl⟩))))))))))
   ·exact gn b3 (h:=(gn b3 (h:=(gn b3 (h:=(gn b3 (h:=(gn b3 (h:=(zg rfl (zr (okb b3) rfl) (wk (hQ _ _ ⟨false,rfl,by rw [b3] <;> rfl,rfl⟩))))))))))))
 ·clear H
  rcases Bool.eq_false_or_eq_true (decide (a_Code=b_Code)) with b4 | b4
  ·exact gp b4 (h:=(ze rfl rfl (okb b4) rfl (zk qY k1 rfl rfl rfl) (gp b4 (h:=(ze rfl rfl (okb b4) rfl (zk qY hB2 rfl rfl rfl) (ze rfl rfl (okb b4) rfl (Yld.beql Tryz.underlying4 rfl rfl) (zg rfl (zt (okb b4) rfl) (wk (hQ _ _ ⟨a_Placed == b_Placed,rfl,by rw [b4] <;> rfl,rfl⟩)))))))))
  ·exact gn b4 (h:=(gn b4 (h:=(gn b4 (h:=(gn b4 (h:=(gn b4 (h:=(zg rfl (zr (okb b4) rfl) (wk (hQ _ _ ⟨false,rfl,by rw [b4] <;> rfl,rfl⟩))))))))))))
end
 
section
open Go Go.RowKit
attribute [local irreducible] WL WC WX WQ WK WJ Yld Eff Ef0 Fn
theorem Rd.ofBlV {w:World} {g m:Nat} {e:TypeId} {us:List Value} (h:Bl w g e us) (hm:us.length=m) (hx:m<=maxLen):Rd (fun v=>v) w (some ⟨g,0,none⟩) m us:=⟨by omega,hx,fun _=>⟨_,rfl,fun j x hj=>by
 have:=h.cell j
 rw [hj] at this
 cases j with
 | zero=>simpa [Addr.add] using this
 | succ j=>simpa [Addr.add] using this⟩⟩
def errsV (S:List Nat) (w:World) (us:List Value):Prop:=us.length=17/\∀ n,n<17->ErrR S w (us.getD n .nilIface) (.e n)
theorem sentinels_fn {S:List Nat} {w:World} (hG:GOK S w) (hS:∀ n,n<17->n∈S):Fn Tryz.prog 145 ⟨[]⟩ w fun v w'=>w.grownBy w' none/\∃ g us,v=.slice (some ⟨g,0,none⟩) 17 17/\Bl w' g 26 us/\errsV S w' us:=by
 refine Fn.enter (by kernel_rfl) Tryz.func145 rfl Tryz.ntmps145 rfl ?_
 obtain ⟨v0,hc0,hE0⟩:=hG.get 0 5 (hS 0 (by omega)) rfl rfl
 obtain ⟨v1,hc1,hE1⟩:=hG.get 1 6 (hS 1 (by omega)) rfl rfl
 obtain ⟨v2,hc2,hE2⟩:=hG.get 2 7 (hS 2 (by omega)) rfl rfl
 obtain ⟨v3,hc3,hE3⟩:=hG.get 3 8 (hS 3 (by omega)) rfl rfl
 obtain ⟨v4,hc4,hE4⟩:=hG.get 4 9 (hS 4 (by omega)) rfl rfl
 obtain ⟨v5,hc5,hE5⟩:=hG.get 5 10 (hS 5 (by omega)) rfl rfl
 obtain ⟨v6,hc6,hE6⟩:=hG.get 6 11 (hS 6 (by omega)) rfl rfl
 obtain ⟨v7,hc7,hE7⟩:=hG.get 7 12 (hS 7 (by omega)) rfl rfl
 obtain ⟨v8,hc8,hE8⟩:=hG.get 8 13 (hS 8 (by omega)) rfl rfl
 obtain ⟨v9,hc9,hE9⟩:=hG.get 9 1 (hS 9 (by omega)) rfl rfl
 obtain ⟨v10,hc10,hE10⟩:=hG.get 10 14 (hS 10 (by omega)) rfl rfl
 obtain ⟨v11,hc11,hE11⟩:=hG.get 11 0 (hS 11 (by omega)) rfl rfl
 obtain ⟨v12,hc12,hE12⟩:=hG.get 12 4 (hS 12 (by omega)) rfl rfl
 obtain ⟨v13,hc13,hE13⟩:=hG.get 13 15 (hS 13 (by omega)) rfl rfl
 obtain ⟨v14,hc14,hE14⟩:=hG.get 14 16 (hS 14 (by omega)) rfl rfl
 obtain ⟨v15,hc15,hE15⟩:=hG.get 15 2 (hS 15 (by omega)) rfl rfl
 obtain ⟨v16,hc16,hE16⟩:=hG.get 16 17 (hS 16 (by omega)) rfl rfl
 repeat (first | refine zg rfl (Yld.cell qY hc0 rfl rfl) ?_ | refine zg rfl (Yld.cell qY hc1 rfl rfl) ?_ | refine zg rfl (Yld.cell qY hc2 rfl rfl) ?_ | refine zg rfl (Yld.cell qY hc3 rfl rfl) ?_ | refine zg rfl (Yld.cell qY hc4 rfl rfl) ?_ | refine zg rfl (Yld.cell qY hc5 rfl rfl) ?_ | refine zg rfl (Yld.cell qY hc6 rfl rfl) ?_ | refine zg rfl (Yld.cell qY hc7 rfl rfl) ?_ | refine zg rfl (Yld.cell qY hc8 rfl rfl) ?_ | refine zg rfl (Yld.cell qY hc9 rfl rfl) ?_ | refine zg rfl (Yld.cell qY hc10 rfl rfl) ?_ | refine zg rfl (Yld.cell qY hc11 rfl rfl) ?_ | refine zg rfl (Yld.cell qY hc12 rfl rfl) ?_ | refine zg rfl (Yld.cell qY hc13 rfl rfl) ?_ | refine zg rfl (Yld.cell qY hc14 rfl rfl) ?_ | refine zg rfl (Yld.cell qY hc15 rfl rfl) ?_ | refine zg rfl (Yld.cell qY hc16 rfl rfl) ?_ | refine zd ?_ | refine WC.block ?_ | refine zb ?_ | refine zf ?_ | refine za ?_ | refine zo ?_ | refine zD ?_ | refine zq ?_ | refine zj ?_ | refine zh ?_ | refine zi ?_ | refine zn ?_ | refine zm ?_ | refine zy rfl ?_ | refine zT ?_ | refine zU ?_ | refine zv ?_ | refine zJ ?_ | refine zF ?_ | refine zg rfl (Yld.add rfl rfl (by simp only [In]; omega)) ?_ | refine zg rfl (Yld.sub rfl rfl (by simp only [In]; omega)) ?_ | refine zg rfl (zE rfl rfl (by simp only [In]; omega)) ?_ | refine zg rfl (zu qY rfl rfl rfl rfl) ?_ | refine zg rfl (zz qY rfl rfl rfl (by simp only [In]; omega)) ?_ | refine zg rfl (zH rfl rfl (by omega) (by omega) (by simp only [In]; omega)) ?_ | refine zg rfl (zI rfl rfl (by omega) (by omega)) ?_ | refine zg rfl (zG rfl rfl (by omega)) ?_ | refine zg rfl (zA rfl rfl (by omega)) ?_ | refine zg rfl (zc qY rfl) ?_ | refine zg rfl (zM jh rfl rfl rfl) ?_ | refine zg rfl (zB rfl rfl) ?_ | refine zg rfl (zC rfl rfl) ?_ | refine zg rfl (zx rfl rfl rfl) ?_ | refine zV rfl rfl rfl rfl ?_ | refine ze rfl rfl rfl rfl (Yld.add rfl rfl (by simp only [In]; omega)) ?_ | refine ze rfl rfl rfl rfl (Yld.sub rfl rfl (by simp only [In]; omega)) ?_ | refine ze rfl rfl rfl rfl (zE rfl rfl (by simp only [In]; omega)) ?_ | refine ze rfl rfl rfl rfl (zu qY rfl rfl rfl rfl) ?_ | refine ze rfl rfl rfl rfl (zz qY rfl rfl rfl (by simp only [In]; omega)) ?_ | refine ze rfl rfl rfl rfl (zH rfl rfl (by omega) (by omega) (by simp only [In]; omega)) ?_ | refine ze rfl rfl rfl rfl (zI rfl rfl (by omega) (by omega)) ?_ | refine ze rfl rfl rfl rfl (zG rfl rfl (by omega)) ?_ | refine ze rfl rfl rfl rfl (zA rfl rfl (by omega)) ?_ | refine ze rfl rfl rfl rfl (zc qY rfl) ?_ | refine ze rfl rfl rfl rfl (zM jh rfl rfl rfl) ?_ | refine ze rfl rfl rfl rfl (zB rfl rfl) ?_ | refine ze rfl rfl rfl rfl (zC rfl rfl) ?_ | refine ze rfl rfl rfl rfl (zx rfl rfl rfl) ?_ | refine qo rfl rfl rfl rfl ?_)
 refine qD qY rfl rfl rfl (jd (ErrR.one hE0) (jd (ErrR.one hE1) (jd (ErrR.one hE2) (jd (ErrR.one hE3) (jd (ErrR.one hE4) (jd (ErrR.one hE5) (jd (ErrR.one hE6) (jd (ErrR.one hE7) (jd (ErrR.one hE8) (jd (ErrR.one hE9) (jd (ErrR.one hE10) (jd (ErrR.one hE11) (jd (ErrR.one hE12) (jd (ErrR.one hE13) (jd (ErrR.one hE14) (jd (ErrR.one hE15) (jd (ErrR.one hE16) kg))))))))))))))))) rfl (by omega) (fun g w' hB hg hl=>?_)
 repeat (first | refine zd ?_ | refine WC.block ?_ | refine zb ?_ | refine zf ?_ | refine za ?_ | refine zo ?_ | refine zD ?_ | refine zq ?_ | refine zj ?_ | refine zh ?_ | refine zi ?_ | refine zn ?_ | refine zm ?_ | refine zy rfl ?_ | refine zT ?_ | refine zU ?_ | refine zv ?_ | refine zJ ?_ | refine zF ?_ | refine zg rfl (Yld.add rfl rfl (by simp only [In]; omega)) ?_ | refine zg rfl (Yld.sub rfl rfl (by simp only [In]; omega)) ?_ | refine zg rfl (zE rfl rfl (by simp only [In]; omega)) ?_ | refine zg rfl (zu qY rfl rfl rfl rfl) ?_ | refine zg rfl (zz qY rfl rfl rfl (by simp only [In]; omega)) ?_ | refine zg rfl (zH rfl rfl (by omega) (by omega) (by simp only [In]; omega)) ?_ | refine zg rfl (zI rfl rfl (by omega) (by omega)) ?_ | refine zg rfl (zG rfl rfl (by omega)) ?_ | refine zg rfl (zA rfl rfl (by omega)) ?_ | refine zg rfl (zc qY rfl) ?_ | refine zg rfl (zM jh rfl rfl rfl) ?_ | refine zg rfl (zB rfl rfl) ?_ | refine zg rfl (zC rfl rfl) ?_ | refine zg rfl (zx rfl rfl rfl) ?_ | refine zV rfl rfl rfl rfl ?_ | refine ze rfl rfl rfl rfl (Yld.add rfl rfl (by simp only [In]; omega)) ?_ | refine ze rfl rfl rfl rfl (Yld.sub rfl rfl (by simp only [In]; omega)) ?_ | refine ze rfl rfl rfl rfl (zE rfl rfl (by simp only [In]; omega)) ?_ | refine ze rfl rfl rfl rfl (zu qY rfl rfl rfl rfl) ?_ | refine ze rfl rfl rfl rfl (zz qY rfl rfl rfl (by simp only [In]; omega)) ?_ | refine ze rfl rfl rfl rfl (zH rfl rfl (by omega) (by omega) (by simp only [In]; omega)) ?_ | refine ze rfl rfl rfl rfl (zI rfl rfl (by omega) (by omega)) ?_ | refine ze rfl rfl rfl rfl (zG rfl rfl (by omega)) ?_ | refine ze rfl rfl rfl rfl (zA rfl rfl (by omega)) ?_ | refine ze rfl rfl rfl rfl (zc qY rfl) ?_ | refine ze rfl rfl rfl rfl (zM jh rfl rfl rfl) ?_ | refine ze rfl rfl rfl rfl (zB rfl rfl) ?_ | refine ze rfl rfl rfl rfl (zC rfl rfl) ?_ | refine ze rfl rfl rfl rfl (zx rfl rfl rfl) ?_ | refine qo rfl rfl rfl rfl ?_)
 refine zw rfl rfl ⟨hg,g,_,rfl,hB,rfl,fun n hn=>?_⟩
 match n,hn with
 | 0,_=>exact hE0.grown hg
 | 1,_=>exact hE1.grown hg
 | 2,_=>exact hE2.grown hg
 | 3,_=>exact hE3.grown hg
 | 4,_=>exact hE4.grown hg
 | 5,_=>exact hE5.grown hg
 | 6,_=>exact hE6.grown hg
 | 7,_=>exact hE7.grown hg
 | 8,_=>exact hE8.grown hg
 | 9,_=>exact hE9.grown hg
 | 10,_=>exact hE10.grown hg
 | 11,_=>exact hE11.grown hg
 | 12,_=>exact hE12.grown hg
 | 13,_=>exact hE13.grown hg
 | 14,_=>exact hE14.grown hg
 | 15,_=>exact hE15.grown hg
 | 16,_=>exact hE16.grown hg
 | n+17,hn=>omega
def sentV:Er->Int
 | .ok => -1
 | .e n=>101+n
 | .at_ _ _ => -1
def kb (e:Er) (K:Int->Prop):Prop:=K (sentV e)
theorem W_smithysee_sentinel {S:List Nat} {w:World} {v:Value} {e:Er} {K:Int->Prop} (hG:GOK S w) (hS0:0∈S) (hS1:1∈S) (hS2:2∈S) (hS3:3∈S) (hS4:4∈S) (hS5:5∈S) (hS6:6∈S) (hS7:7∈S) (hS8:8∈S) (hS9:9∈S) (hS10:10∈S) (hS11:11∈S) (hS12:12∈S) (hS13:13∈S) (hS14:14∈S) (hS15:15∈S) (hS16:16∈S) (hE:ErrR S w v e) (H:kb e K):Fn Tryz.prog 123 ⟨[v]⟩ w (fun r w'=>w.grownBy w' none/\∃ n:Int,r=.int .i64 n/\K n):=by
 have hS:∀ n,n<17->n∈S:=fun n hn=>by
  match n,hn with
  | 0,_=>exact hS0
  | 1,_=>exact hS1
  | 2,_=>exact hS2
  | 3,_=>exact hS3
  | 4,_=>exact hS4
  | 5,_=>exact hS5
  | 6,_=>exact hS6
  | 7,_=>exact hS7
  | 8,_=>exact hS8
  | 9,_=>exact hS9
  | 10,_=>exact hS10
  | 11,_=>exact hS11
  | 12,_=>exact hS12
  | 13,_=>exact hS13
  | 14,_=>exact hS14
  | 15,_=>exact hS15
  | 16,_=>exact hS16
  | n+17,hn=>omega
 unfold kb at H
 refine Fn.enter (by kernel_rfl) Tryz.func123 rfl Tryz.ntmps123 rfl ?_
 repeat (first | refine zd ?_ | refine WC.block ?_ | refine zb ?_ | refine zf ?_ | refine za ?_ | refine zo ?_ | refine zD ?_ | refine zq ?_ | refine zj ?_ | refine zh ?_ | refine zi ?_ | refine zn ?_ | refine zm ?_ | refine zy rfl ?_ | refine zT ?_ | refine zU ?_ | refine zv ?_ | refine zJ ?_ | refine zF ?_ | refine zg rfl (Yld.add rfl rfl (by simp only [In]; omega)) ?_ | refine zg rfl (Yld.sub rfl rfl (by simp only [In]; omega)) ?_ | refine zg rfl (zE rfl rfl (by simp only [In]; omega)) ?_ | refine zg rfl (zu qY rfl rfl rfl rfl) ?_ | refine zg rfl (zz qY rfl rfl rfl (by simp only [In]; omega)) ?_ | refine zg rfl (zH rfl rfl (by omega) (by omega) (by simp only [In]; omega)) ?_ | refine zg rfl (zI rfl rfl (by omega) (by omega)) ?_ | refine zg rfl (zG rfl rfl (by omega)) ?_ | refine zg rfl (zA rfl rfl (by omega)) ?_ | refine zg rfl (zc qY rfl) ?_ | refine zg rfl (zM jh rfl rfl rfl) ?_ | refine zg rfl (zB rfl rfl) ?_ | refine zg rfl (zC rfl rfl) ?_ | refine zg rfl (zx rfl rfl rfl) ?_ | refine zV rfl rfl rfl rfl ?_ | refine ze rfl rfl rfl rfl (Yld.add rfl rfl (by simp only [In]; omega)) ?_ | refine ze rfl rfl rfl rfl (Yld.sub rfl rfl (by simp only [In]; omega)) ?_ | refine ze rfl rfl rfl rfl (zE rfl rfl (by simp only [In]; omega)) ?_ | refine ze rfl rfl rfl rfl (zu qY rfl rfl rfl rfl) ?_ | refine ze rfl rfl rfl rfl (zz qY rfl rfl rfl (by simp only [In]; omega)) ?_ | refine ze rfl rfl rfl rfl (zH rfl rfl (by omega) (by omega) (by simp only [In]; omega)) ?_ | refine ze rfl rfl rfl rfl (zI rfl rfl (by omega) (by omega)) ?_ | refine ze rfl rfl rfl rfl (zG rfl rfl (by omega)) ?_ | refine ze rfl rfl rfl rfl (zA rfl rfl (by omega)) ?_ | refine ze rfl rfl rfl rfl (zc qY rfl) ?_ | refine ze rfl rfl rfl rfl (zM jh rfl rfl rfl) ?_ | refine ze rfl rfl rfl rfl (zB rfl rfl) ?_ | refine ze rfl rfl rfl rfl (zC rfl rfl) ?_ | refine ze rfl rfl rfl rfl (zx rfl rfl rfl) ?_ | refine qo rfl rfl rfl rfl ?_)
 refine WL.call rfl rfl (sentinels_fn hG hS) ?_
 rintro _ w1 ⟨hg1,g,us,rfl,hB,hlen,hus⟩
 have hR:=Rd.ofBlV hB hlen (by simp [maxLen])
 have hE1:=hE.grown hg1
 repeat (first | refine zd ?_ | refine WC.block ?_ | refine zb ?_ | refine zf ?_ | refine za ?_ | refine zo ?_ | refine zD ?_ | refine zq ?_ | refine zj ?_ | refine zh ?_ | refine zi ?_ | refine zn ?_ | refine zm ?_ | refine zy rfl ?_ | refine zT ?_ | refine zU ?_ | refine zv ?_ | refine zJ ?_ | refine zF ?_ | refine zg rfl (Yld.add rfl rfl (by simp only [In]; omega)) ?_ | refine zg rfl (Yld.sub rfl rfl (by simp only [In]; omega)) ?_ | refine zg rfl (zE rfl rfl (by simp only [In]; omega)) ?_ | refine zg rfl (zu qY rfl rfl rfl rfl) ?_ | refine zg rfl (zz qY rfl rfl rfl (by simp only [In]; omega)) ?_ | refine zg rfl (zH rfl rfl (by omega) (by omega) (by simp only [In]; omega)) ?_ | refine zg rfl (zI rfl rfl (by omega) (by omega)) ?_ | refine zg rfl (zG rfl rfl (by omega)) ?_ | refine zg rfl (zA rfl rfl (by omega)) ?_ | refine zg rfl (zc qY rfl) ?_ | refine zg rfl (zM jh rfl rfl rfl) ?_ | refine zg rfl (zB rfl rfl) ?_ | refine zg rfl (zC rfl rfl) ?_ | refine zg rfl (zx rfl rfl rfl) ?_ | refine zV rfl rfl rfl rfl ?_ | refine ze rfl rfl rfl rfl (Yld.add rfl rfl (by simp only [In]; omega)) ?_ | refine ze rfl rfl rfl rfl (Yld.sub rfl rfl (by simp only [In]; omega)) ?_ | refine ze rfl rfl rfl rfl (zE rfl rfl (by simp only [In]; omega)) ?_ | refine ze rfl rfl rfl rfl (zu qY rfl rfl rfl rfl) ?_ | refine ze rfl rfl rfl rfl (zz qY rfl rfl rfl (by simp only [In]; omega)) ?_ | refine ze rfl rfl rfl rfl (zH rfl rfl (by omega) (by omega) (by simp only [In]; omega)) ?_ | refine ze rfl rfl rfl rfl (zI rfl rfl (by omega) (by omega)) ?_ | refine ze rfl rfl rfl rfl (zG rfl rfl (by omega)) ?_ | refine ze rfl rfl rfl rfl (zA rfl rfl (by omega)) ?_ | refine ze rfl rfl rfl rfl (zc qY rfl) ?_ | refine ze rfl rfl rfl rfl (zM jh rfl rfl rfl) ?_ | refine ze rfl rfl rfl rfl (zB rfl rfl) ?_ | refine ze rfl rfl rfl rfl (zC rfl rfl) ?_ | refine ze rfl rfl rfl rfl (zx rfl rfl rfl) ?_ | refine qo rfl rfl rfl rfl ?_)
 refine zW (fun n' L' w'=>∃ i:Nat,n'=17 - i/\L'=[(4,vi i),(3,.slice (some ⟨g,0,none⟩) 17 17),(0,v)]/\i<=17/\(∀ j,j<i->e≠.e j)/\w1=w') _ _ ⟨0,rfl,rfl,by omega,fun j hj=>by omega,rfl⟩ (by repeat (first | exact qb | refine Sub.cons rfl ?_)) ?_
 rintro _ _ _ ⟨i,rfl,rfl,hi,hne,rfl⟩
 repeat (first | refine zd ?_ | refine WC.block ?_ | refine zb ?_ | refine zf ?_ | refine za ?_ | refine zo ?_ | refine zD ?_ | refine zq ?_ | refine zj ?_ | refine zh ?_ | refine zi ?_ | refine zn ?_ | refine zm ?_ | refine zy rfl ?_ | refine zT ?_ | refine zU ?_ | refine zv ?_ | refine zJ ?_ | refine zF ?_ | refine zg rfl (Yld.add rfl rfl (by simp only [In]; omega)) ?_ | refine zg rfl (Yld.sub rfl rfl (by simp only [In]; omega)) ?_ | refine zg rfl (zE rfl rfl (by simp only [In]; omega)) ?_ | refine zg rfl (zu qY rfl rfl rfl rfl) ?_ | refine zg rfl (zz qY rfl rfl rfl (by simp only [In]; omega)) ?_ | refine zg rfl (zH rfl rfl (by omega) (by omega) (by simp only [In]; omega)) ?_ | refine zg rfl (zI rfl rfl (by omega) (by omega)) ?_ | refine zg rfl (zG rfl rfl (by omega)) ?_ | refine zg rfl (zA rfl rfl (by omega)) ?_ | refine zg rfl (zc qY rfl) ?_ | refine zg rfl (zM jh rfl rfl rfl) ?_ | refine zg rfl (zB rfl rfl) ?_ | refine zg rfl (zC rfl rfl) ?_ | refine zg rfl (zx rfl rfl rfl) ?_ | refine zV rfl rfl rfl rfl ?_ | refine ze rfl rfl rfl rfl (Yld.add rfl rfl (by simp only [In]; omega)) ?_ | refine ze rfl rfl rfl rfl (Yld.sub rfl rfl (by simp only [In]; omega)) ?_ | refine ze rfl rfl rfl rfl (zE rfl rfl (by simp only [In]; omega)) ?_ | refine ze rfl rfl rfl rfl (zu qY rfl rfl rfl rfl) ?_ | refine ze rfl rfl rfl rfl (zz qY rfl rfl rfl (by simp only [In]; omega)) ?_ | refine ze rfl rfl rfl rfl (zH rfl rfl (by omega) (by omega) (by simp only [In]; omega)) ?_ | refine ze rfl rfl rfl rfl (zI rfl rfl (by omega) (by omega)) ?_ | refine ze rfl rfl rfl rfl (zG rfl rfl (by omega)) ?_ | refine ze rfl rfl rfl rfl (zA rfl rfl (by omega)) ?_ | refine ze rfl rfl rfl rfl (zc qY rfl) ?_ | refine ze rfl rfl rfl rfl (zM jh rfl rfl rfl) ?_ | refine ze rfl rfl rfl rfl (zB rfl rfl) ?_ | refine ze rfl rfl rfl rfl (zC rfl rfl) ?_ | refine ze rfl rfl rfl rfl (zx rfl rfl rfl) ?_ | refine qo rfl rfl rfl rfl ?_)
 refine zp rfl (fun h=>?_) (fun h=>?_)
 ·simp only [decide_eq_true_eq] at h
  have hi':i<17:=by omega
  repeat (first | refine zg rfl (qV qY hR rfl rfl hlen.symm rfl (by omega)) ?_ | refine zg rfl (zN .nilIface qY hR rfl rfl (by omega)) ?_ | refine zd ?_ | refine WC.block ?_ | refine zb ?_ | refine zf ?_ | refine za ?_ | refine zo ?_ | refine zD ?_ | refine zq ?_ | refine zj ?_ | refine zh ?_ | refine zi ?_ | refine zn ?_ | refine zm ?_ | refine zy rfl ?_ | refine zT ?_ | refine zU ?_ | refine zv ?_ | refine zJ ?_ | refine zF ?_ | refine zg rfl (Yld.add rfl rfl (by simp only [In]; omega)) ?_ | refine zg rfl (Yld.sub rfl rfl (by simp only [In]; omega)) ?_ | refine zg rfl (zE rfl rfl (by simp only [In]; omega)) ?_ | refine zg rfl (zu qY rfl rfl rfl rfl) ?_ | refine zg rfl (zz qY rfl rfl rfl (by simp only [In]; omega)) ?_ | refine zg rfl (zH rfl rfl (by omega) (by omega) (by simp only [In]; omega)) ?_ | refine zg rfl (zI rfl rfl (by omega) (by omega)) ?_ | refine zg rfl (zG rfl rfl (by omega)) ?_ | refine zg rfl (zA rfl rfl (by omega)) ?_ | refine zg rfl (zc qY rfl) ?_ | refine zg rfl (zM jh rfl rfl rfl) ?_ | refine zg rfl (zB rfl rfl) ?_ | refine zg rfl (zC rfl rfl) ?_ | refine zg rfl (zx rfl rfl rfl) ?_ | refine zV rfl rfl rfl rfl ?_ | refine ze rfl rfl rfl rfl (Yld.add rfl rfl (by simp only [In]; omega)) ?_ | refine ze rfl rfl rfl rfl (Yld.sub rfl rfl (by simp only [In]; omega)) ?_ | refine ze rfl rfl rfl rfl (zE rfl rfl (by simp only [In]; omega)) ?_ | refine ze rfl rfl rfl rfl (zu qY rfl rfl rfl rfl) ?_ | refine ze rfl rfl rfl rfl (zz qY rfl rfl rfl (by simp only [In]; omega)) ?_ | refine ze rfl rfl rfl rfl (zH rfl rfl (by omega) (by omega) (by simp only [In]; omega)) ?_ | refine ze rfl rfl rfl rfl (zI rfl rfl (by omega) (by omega)) ?_ | refine ze rfl rfl rfl rfl (zG rfl rfl (by omega)) ?_ | refine ze rfl rfl rfl rfl (zA rfl rfl (by omega)) ?_ | refine ze rfl rfl rfl rfl (zc qY rfl) ?_ | refine ze rfl rfl rfl rfl (zM jh rfl rfl rfl) ?_ | refine ze rfl rfl rfl rfl (zB rfl rfl) ?_ | refine ze rfl rfl rfl rfl (zC rfl rfl) ?_ | refine ze rfl rfl rfl rfl (zx rfl rfl rfl) ?_ | refine qo rfl rfl rfl rfl ?_)
  refine WL.call rfl rfl (W_smithysee_Alike (K:=fun b=>b=decide (e=.e i)) hE1 (hus i hi') ?_) ?_
  ·unfold M_smithysee_Alike
   cases e <;> simp
  rintro _ _ ⟨rfl,b,rfl,hb⟩
  subst hb
  refine zf ?_
  repeat (first | refine zd ?_ | refine WC.block ?_ | refine zb ?_ | refine zf ?_ | refine za ?_ | refine zo ?_ | refine zD ?_ | refine zq ?_ | refine zj ?_ | refine zh ?_ | refine zi ?_ | refine zn ?_ | refine zm ?_ | refine zy rfl ?_ | refine zT ?_ | refine zU ?_ | refine zv ?_ | refine zJ ?_ | refine zF ?_ | refine zg rfl (Yld.add rfl rfl (by simp only [In]; omega)) ?_ | refine zg rfl (Yld.sub rfl rfl (by simp only [In]; omega)) ?_ | refine zg rfl (zE rfl rfl (by simp only [In]; omega)) ?_ | refine zg rfl (zu qY rfl rfl rfl rfl) ?_ | refine zg rfl (zz qY rfl rfl rfl (by simp only [In]; omega)) ?_ | refine zg rfl (zH rfl rfl (by omega) (by omega) (by simp only [In]; omega)) ?_ | refine zg rfl (zI rfl rfl (by omega) (by omega)) ?_ | refine zg rfl (zG rfl rfl (by omega)) ?_ | refine zg rfl (zA rfl rfl (by omega)) ?_ | refine zg rfl (zc qY rfl) ?_ | refine zg rfl (zM jh rfl rfl rfl) ?_ | refine zg rfl (zB rfl rfl) ?_ | refine zg rfl (zC rfl rfl) ?_ | refine zg rfl (zx rfl rfl rfl) ?_ | refine zV rfl rfl rfl rfl ?_ | refine ze rfl rfl rfl rfl (Yld.add rfl rfl (by simp only [In]; omega)) ?_ | refine ze rfl rfl rfl rfl (Yld.sub rfl rfl (by simp only [In]; omega)) ?_ | refine ze rfl rfl rfl rfl (zE rfl rfl (by simp only [In]; omega)) ?_ | refine ze rfl rfl rfl rfl (zu qY rfl rfl rfl rfl) ?_ | refine ze rfl rfl rfl rfl (zz qY rfl rfl rfl (by simp only [In]; omega)) ?_ | refine ze rfl rfl rfl rfl (zH rfl rfl (by omega) (by omega) (by simp only [In]; omega)) ?_ | refine ze rfl rfl rfl rfl (zI rfl rfl (by omega) (by omega)) ?_ | refine ze rfl rfl rfl rfl (zG rfl rfl (by omega)) ?_ | refine ze rfl rfl rfl rfl (zA rfl rfl (by omega)) ?_ | refine ze rfl rfl rfl rfl (zc qY rfl) ?_ | refine ze rfl rfl rfl rfl (zM jh rfl rfl rfl) ?_ | refine ze rfl rfl rfl rfl (zB rfl rfl) ?_ | refine ze rfl rfl rfl rfl (zC rfl rfl) ?_ | refine ze rfl rfl rfl rfl (zx rfl rfl rfl) ?_ | refine qo rfl rfl rfl rfl ?_)
  refine zp rfl (fun h2=>?_) (fun h2=>?_)
  ·have h3:e=.e i:=of_decide_eq_true h2
   subst h3
   repeat (first | refine zd ?_ | refine WC.block ?_ | refine zb ?_ | refine zf ?_ | refine za ?_ | refine zo ?_ | refine zD ?_ | refine zq ?_ | refine zj ?_ | refine zh ?_ | refine zi ?_ | refine zn ?_ | refine zm ?_ | refine zy rfl ?_ | refine zT ?_ | refine zU ?_ | refine zv ?_ | refine zJ ?_ | refine zF ?_ | refine zg rfl (Yld.add rfl rfl (by simp only [In]; omega)) ?_ | refine zg rfl (Yld.sub rfl rfl (by simp only [In]; omega)) ?_ | refine zg rfl (zE rfl rfl (by simp only [In]; omega)) ?_ | refine zg rfl (zu qY rfl rfl rfl rfl) ?_ | refine zg rfl (zz qY rfl rfl rfl (by simp only [In]; omega)) ?_ | refine zg rfl (zH rfl rfl (by omega) (by omega) (by simp only [In]; omega)) ?_ | refine zg rfl (zI rfl rfl (by omega) (by omega)) ?_ | refine zg rfl (zG rfl rfl (by omega)) ?_ | refine zg rfl (zA rfl rfl (by omega)) ?_ | refine zg rfl (zc qY rfl) ?_ | refine zg rfl (zM jh rfl rfl rfl) ?_ | refine zg rfl (zB rfl rfl) ?_ | refine zg rfl (zC rfl rfl) ?_ | refine zg rfl (zx rfl rfl rfl) ?_ | refine zV rfl rfl rfl rfl ?_ | refine ze rfl rfl rfl rfl (Yld.add rfl rfl (by simp only [In]; omega)) ?_ | refine ze rfl rfl rfl rfl (Yld.sub rfl rfl (by simp only [In]; omega)) ?_ | refine ze rfl rfl rfl rfl (zE rfl rfl (by simp only [In]; omega)) ?_ | refine ze rfl rfl rfl rfl (zu qY rfl rfl rfl rfl) ?_ | refine ze rfl rfl rfl rfl (zz qY rfl rfl rfl (by simp only [In]; omega)) ?_ | refine ze rfl rfl rfl rfl (zH rfl rfl (by omega) (by omega) (by simp only [In]; omega)) ?_ | refine ze rfl rfl rfl rfl (zI rfl rfl (by omega) (by omega)) ?_ | refine ze rfl rfl rfl rfl (zG rfl rfl (by omega)) ?_ | refine ze rfl rfl rfl rfl (zA rfl rfl (by omega)) ?_ | refine ze rfl rfl rfl rfl (zc qY rfl) ?_ | refine ze rfl rfl rfl rfl (zM jh rfl rfl rfl) ?_ | refine ze rfl rfl rfl rfl (zB rfl rfl) ?_ | refine ze rfl rfl rfl rfl (zC rfl rfl) ?_ | refine ze rfl rfl rfl rfl (zx rfl rfl rfl) ?_ | refine qo rfl rfl rfl rfl ?_)
   exact zw rfl rfl ⟨hg1,_,rfl,H⟩
  ·have h3:e≠.e i:=of_decide_eq_false h2
   repeat (first | refine zd ?_ | refine WC.block ?_ | refine zb ?_ | refine zf ?_ | refine za ?_ | refine zo ?_ | refine zD ?_ | refine zq ?_ | refine zj ?_ | refine zh ?_ | refine zi ?_ | refine zn ?_ | refine zm ?_ | refine zy rfl ?_ | refine zT ?_ | refine zU ?_ | refine zv ?_ | refine zJ ?_ | refine zF ?_ | refine zg rfl (Yld.add rfl rfl (by simp only [In]; omega)) ?_ | refine zg rfl (Yld.sub rfl rfl (by simp only [In]; omega)) ?_ | refine zg rfl (zE rfl rfl (by simp only [In]; omega)) ?_ | refine zg rfl (zu qY rfl rfl rfl rfl) ?_ | refine zg rfl (zz qY rfl rfl rfl (by simp only [In]; omega)) ?_ | refine zg rfl (zH rfl rfl (by omega) (by omega) (by simp only [In]; omega)) ?_ | refine zg rfl (zI rfl rfl (by omega) (by omega)) ?_ | refine zg rfl (zG rfl rfl (by omega)) ?_ | refine zg rfl (zA rfl rfl (by omega)) ?_ | refine zg rfl (zc qY rfl) ?_ | refine zg rfl (zM jh rfl rfl rfl) ?_ | refine zg rfl (zB rfl rfl) ?_ | refine zg rfl (zC rfl rfl) ?_ | refine zg rfl (zx rfl rfl rfl) ?_ | refine zV rfl rfl rfl rfl ?_ | refine ze rfl rfl rfl rfl (Yld.add rfl rfl (by simp only [In]; omega)) ?_ | refine ze rfl rfl rfl rfl (Yld.sub rfl rfl (by simp only [In]; omega)) ?_ | refine ze rfl rfl rfl rfl (zE rfl rfl (by simp only [In]; omega)) ?_ | refine ze rfl rfl rfl rfl (zu qY rfl rfl rfl rfl) ?_ | refine ze rfl rfl rfl rfl (zz qY rfl rfl rfl (by simp only [In]; omega)) ?_ | refine ze rfl rfl rfl rfl (zH rfl rfl (by omega) (by omega) (by simp only [In]; omega)) ?_ | refine ze rfl rfl rfl rfl (zI rfl rfl (by omega) (by omega)) ?_ | refine ze rfl rfl rfl rfl (zG rfl rfl (by omega)) ?_ | refine ze rfl rfl rfl rfl (zA rfl rfl (by omega)) ?_ | refine ze rfl rfl rfl rfl (zc qY rfl) ?_ | refine ze rfl rfl rfl rfl (zM jh rfl rfl rfl) ?_ | refine ze rfl rfl rfl rfl (zB rfl rfl) ?_ | refine ze rfl rfl rfl rfl (zC rfl rfl) ?_ | refine ze rfl rfl rfl rfl (zx rfl rfl rfl) ?_ | refine qo rfl rfl rfl rfl ?_)
   refine zS _ ⟨i+1,rfl,rfl,by omega,fun j hj=>?_,rfl⟩ (by repeat (first | exact qb | refine Sub.cons rfl ?_)) (by omega)
   rcases Nat.lt_or_ge j i with hji | hji
   ·exact hne j hji
   ·obtain rfl:j=i:=by omega
    exact h3
 ·simp only [decide_eq_false_iff_not] at h
  repeat (first | refine zd ?_ | refine WC.block ?_ | refine zb ?_ | refine zf ?_ | refine za ?_ | refine zo ?_ | refine zD ?_ | refine zq ?_ | refine zj ?_ | refine zh ?_ | refine zi ?_ | refine zn ?_ | refine zm ?_ | refine zy rfl ?_ | refine zT ?_ | refine zU ?_ | refine zv ?_ | refine zJ ?_ | refine zF ?_ | refine zg rfl (Yld.add rfl rfl (by simp only [In]; omega)) ?_ | refine zg rfl (Yld.sub rfl rfl (by simp only [In]; omega)) ?_ | refine zg rfl (zE rfl rfl (by simp only [In]; omega)) ?_ | refine zg rfl (zu qY rfl rfl rfl rfl) ?_ | refine zg rfl (zz qY rfl rfl rfl (by simp only [In]; omega)) ?_ | refine zg rfl (zH rfl rfl (by omega) (by omega) (by simp only [In]; omega)) ?_ | refine zg rfl (zI rfl rfl (by omega) (by omega)) ?_ | refine zg rfl (zG rfl rfl (by omega)) ?_ | refine zg rfl (zA rfl rfl (by omega)) ?_ | refine zg rfl (zc qY rfl) ?_ | refine zg rfl (zM jh rfl rfl rfl) ?_ | refine zg rfl (zB rfl rfl) ?_ | refine zg rfl (zC rfl rfl) ?_ | refine zg rfl (zx rfl rfl rfl) ?_ | refine zV rfl rfl rfl rfl ?_ | refine ze rfl rfl rfl rfl (Yld.add rfl rfl (by simp only [In]; omega)) ?_ | refine ze rfl rfl rfl rfl (Yld.sub rfl rfl (by simp only [In]; omega)) ?_ | refine ze rfl rfl rfl rfl (zE rfl rfl (by simp only [In]; omega)) ?_ | refine ze rfl rfl rfl rfl (zu qY rfl rfl rfl rfl) ?_ | refine ze rfl rfl rfl rfl (zz qY rfl rfl rfl (by simp only [In]; omega)) ?_ | refine ze rfl rfl rfl rfl (zH rfl rfl (by omega) (by omega) (by simp only [In]; omega)) ?_ | refine ze rfl rfl rfl rfl (zI rfl rfl (by omega) (by omega)) ?_ | refine ze rfl rfl rfl rfl (zG rfl rfl (by omega)) ?_ | refine ze rfl rfl rfl rfl (zA rfl rfl (by omega)) ?_ | refine ze rfl rfl rfl rfl (zc qY rfl) ?_ | refine ze rfl rfl rfl rfl (zM jh rfl rfl rfl) ?_ | refine ze rfl rfl rfl rfl (zB rfl rfl) ?_ | refine ze rfl rfl rfl rfl (zC rfl rfl) ?_ | refine ze rfl rfl rfl rfl (zx rfl rfl rfl) ?_ | refine qo rfl rfl rfl rfl ?_)
  refine zw rfl rfl ⟨hg1,_,rfl,?_⟩
  have:sentV e = -1:=by
   cases e with
   | e n =>
    by_cases hn:n<17
    ·exact absurd rfl (hne n (by omega))
    ·exact absurd (ErV.lt hE.1) hn
   | ok=>rfl
   | at_ p n=>rfl
  rw [this] at H
  exact H
end
 
section
open Go Go.RowKit
attribute [local irreducible] WL WC WX WQ WK WJ Yld Eff Ef0 Fn
def Ze (e:Er) (K:Int->Bool->Int->Bool->(List UInt8)->Prop):Prop :=
 ((∀ (pos:Int) (n:Nat),e=Er.at_ pos n->(((Er.e n)=Er.ok->j5 (-1:Int) (fun (b5:Int) (a2:Bool) (c2:Int) (a6:Bool) (b6:List UInt8) =>
 K b5 a2 c2 a6 b6)) /\
 (¬ ((Er.e n)=Er.ok)->kb (Er.e n) (fun (t29:Int) =>
 Zd t29 pos (fun (b7:Int) (a3:Bool) (c3:Int) (a7:Bool) (b8:List UInt8) =>
 K b7 a3 c3 a7 b8))))) /\
 ((∀ p n,e≠Er.at_ p n)->kb e (fun (t13:Int) =>
 j5 t13 (fun (a9:Int) (a0:Bool) (c0:Int) (a4:Bool) (b0:List UInt8) =>
 K a9 a0 c0 a4 b0))))
def Zn (e:Er) (K:Int->Bool->Int->Bool->(List UInt8)->Prop):Prop :=
 ((e=Er.ok->kt (fun (c4:Int) (a8:Bool) (c8:Int) (b9:Bool) (c5:List UInt8) =>
 K c4 a8 c8 b9 c5)) /\
 (¬ (e=Er.ok)->Ze e (fun (b3:Int) (a1:Bool) (c1:Int) (a5:Bool) (b4:List UInt8) =>
 K b3 a1 c1 a5 b4)))
def Zs (e:Er) (f_Code:Int) (f_Placed:Bool) (f_Pos:Int) (f_Filed:Bool) (f_File:List UInt8) (K:Bool->Prop):Prop :=
 Zn e (fun (d1:Int) (c6:Bool) (d5:Int) (c9:Bool) (d2:List UInt8) =>
 kB d1 c6 d5 c9 d2 f_Code f_Placed f_Pos f_Filed f_File (fun (t4:Bool) =>
 K t4))
def jJ (e:Er) (code:Int) (K:Bool->Prop):Prop :=
 j5 code (fun (d3:Int) (c7:Bool) (d6:Int) (d0:Bool) (d4:List UInt8) =>
 Zs e d3 c7 d6 d0 d4 (fun (t4:Bool) =>
 K t4))
set_option maxHeartbeats 8000000 in
theorem W_smithysee_placed {S:List Nat} {w:World} {v_e:Value} {e:Er} {K:Int->Bool->Int->Bool->(List UInt8)->Prop} (hG:GOK S w) (hS0:0∈S) (hS1:1∈S) (hS2:2∈S) (hS3:3∈S) (hS4:4∈S) (hS5:5∈S) (hS6:6∈S) (hS7:7∈S) (hS8:8∈S) (hS9:9∈S) (hS10:10∈S) (hS11:11∈S) (hS12:12∈S) (hS13:13∈S) (hS14:14∈S) (hS15:15∈S) (hS16:16∈S) (he:ErrR S w v_e e) (H:Ze e K):Fn Tryz.prog 101 ⟨[v_e]⟩ w (fun v w'=>w.grownBy w' none/\∃ (r_Code:Int),∃ (r_Placed:Bool),∃ (r_Pos:Int),∃ (r_Filed:Bool),∃ (r_File:List UInt8),v=.agg ⟨[.int .i64 r_Code,.bool r_Placed,.int .i64 r_Pos,.bool r_Filed,vs r_File]⟩/\K r_Code r_Placed r_Pos r_Filed r_File):=by
 unfold Ze at H
 refine Fn.enter (by kernel_rfl) Tryz.func101 rfl Tryz.ntmps101 rfl ?_
 refine zd (zb (WL.alloc rfl zero110 (fun g1 w1 hB1 hg1 hl1=>?_)))
 have gr1:=hg1
 refine zf (za (zd (zb (yp (h:=?_)))))
 rcases Er.atCases e with ⟨pos,n,he1⟩ | he1
 ·replace H:=H.1 pos n he1
  obtain ⟨b1,vE1,hv1,hB2,hE1⟩:=ErrR.atOut (he1 ▸ (he.grown gr1))
  refine zg rfl (Yld.assertYes Tryz.underlying194 rfl hv1) (yp (h:=(yp (h:=(yp (h:=(yp (h:=(yp (h:=(zf (za (zd (zd (zb (yp (h:=(yp (h:=(zf (za (zp rfl (fun h=>by cases h) (fun _=>zo (za (zd (zd (zb (yp (h:=(zg rfl (qe Tryz.underlying194 rfl rfl) (yp (h:=(zL 6 (fun L' w'=>∃ q1:Bool,L'=[(23,.bool q1),(2,.pointer (some ⟨g1,0,none⟩)),(3,.pointer (some ⟨b1,0,none⟩))]/\(decide ((Er.e n)=Er.ok))=q1/\w1=w') ?_ (fun hQ=>?_))))))))))))))))))))))))))))))))))
  ·rintro _ _ ⟨q1,rfl,rfl,rfl⟩
   refine zf (za (zp rfl (fun b2=>?_) (fun b2=>?_)))
   ·replace H:=H.1 (of_decide_eq_true b2)
    refine zd (zb (WL.call rfl rfl (W_smithyref_Bare H) ?_))
    rintro _ w2 ⟨hg2,b5,a2,c2,a6,b6,rfl,H⟩
    exact zP (vs:=[.int .i64 b5,.bool a2,.int .i64 c2,.bool a6,vs b6]) qY rfl rfl rfl (jd rfl (jd rfl (jd rfl (jd rfl (jd rfl kg))))) (hB1.g0 hg2) rfl rfl (fun w3 hB3 hg3=>zf (za (zq (zh (qv qY rfl rfl rfl hB3 rfl ⟨(jk (ja gr1 hg2) hg3 (Ge.le (Ge.box hl1) (Nat.le_refl _))),b5,a2,c2,a6,b6,rfl,H⟩)))))
   ·replace H:=H.2 (of_decide_eq_false b2)
    refine zo (za (zd (zO (fun k => !(Nat.beq k 4 || Nat.beq k 9 || Nat.beq k 10)) (LD [3,8] (fun w'=>Bl w' b1 198 [.int .i64 pos,vE1])) mixed (by kernel_rfl) (fun k w' h _=>(ji h hB2)) (zl rfl rfl (fun w' hw'=>zc qY rfl) (zl rfl rfl (fun w' hw'=>zc qY rfl) (zl rfl rfl (fun w' hw'=>zc qY rfl) (zl rfl rfl (fun w' hw'=>zk qY (hw' rfl) rfl rfl rfl) (WJ.call rfl (je) rfl rfl (W_smithysee_sentinel (hG.grown gr1) hS0 hS1 hS2 hS3 hS4 hS5 hS6 hS7 hS8 hS9 hS10 hS11 hS12 hS13 hS14 hS15 hS16 hE1 H) (fun v w' h w2 e=>DD.keep (Bl.g0 hB2 (jg h.1 e))) ?_))))))))
    rintro _ w4 ⟨hg4,t29,rfl,H⟩
    have k3:=hE1.grown hg4
    have k4:=hB2.g0 hg4
    refine zl rfl rfl (fun w' hw'=>zc qY rfl) (zl rfl rfl (fun w' hw'=>zc qY rfl) (zl rfl rfl (fun w' hw'=>zc qY rfl) (zl rfl rfl (fun w' hw'=>zk qY (hw' rfl) rfl rfl rfl) (WJ.call rfl (je) rfl rfl (W_smithyref_Placed H) (fun v w' h w2 e=>DD.keep (Bl.g0 k4 (jg h.1 e))) ?_))))
    rintro _ w5 ⟨hg5,b7,a3,c3,a7,b8,rfl,H⟩
    have k6:=k4.g0 hg5
    refine qh rfl (qI (vs:=[.int .i64 b7,.bool a3,.int .i64 c3,.bool a7,vs b8]) qY rfl rfl rfl (jd rfl (jd rfl (jd rfl (jd rfl (jd rfl kg))))) ((hB1.g0 hg4).g0 hg5) rfl rfl) (fun w' h=>qf (by kernel_rfl)) ?_
    rintro w6 ⟨hB4,hg6⟩
    exact z8 (za (zq (qv qY rfl rfl rfl hB4 rfl ⟨(jk (ja (ja gr1 hg4) hg5) hg6 (Ge.le (Ge.box hl1) (Nat.le_refl _))),b7,a3,c3,a7,b8,rfl,H⟩)))
  ·clear H
   exact ze rfl rfl (rfl) rfl (zc qY rfl) (ze rfl rfl (rfl) rfl (zc qY rfl) (ze rfl rfl (rfl) rfl (zc qY rfl) (ze rfl rfl (rfl) rfl (zk qY hB2 rfl rfl rfl) (ze rfl rfl (rfl) rfl (qq Tryz.underlying26 hE1 rfl) (zg rfl (zr (rfl) rfl) (wk (hQ _ _ ⟨decide ((Er.e n)=Er.ok),rfl,rfl,rfl⟩)))))))
 ·replace H:=H.2 he1
  refine zg rfl (Yld.assertNo Tryz.underlying194 (fun _=>by kernel_rfl) (he.grown gr1) rfl rfl (.inr he1)) (yp (h:=(yp (h:=(yp (h:=(yp (h:=(yp (h:=(zf (za (zd (zd (zb (yp (h:=(yp (h:=(zf (za (zp rfl (fun _=>zd (zb (yp (h:=(WL.call rfl rfl (W_smithysee_sentinel (hG.grown gr1) hS0 hS1 hS2 hS3 hS4 hS5 hS6 hS7 hS8 hS9 hS10 hS11 hS12 hS13 hS14 hS15 hS16 (he.grown gr1) H) ?_))))) (fun h=>by cases h)))))))))))))))))))))))
  rintro _ w7 ⟨hg7,t13,rfl,H⟩
  refine WL.call rfl rfl (W_smithyref_Bare H) ?_
  rintro _ w8 ⟨hg8,a9,a0,c0,a4,b0,rfl,H⟩
  exact zP (vs:=[.int .i64 a9,.bool a0,.int .i64 c0,.bool a4,vs b0]) qY rfl rfl rfl (jd rfl (jd rfl (jd rfl (jd rfl (jd rfl kg))))) ((hB1.g0 hg7).g0 hg8) rfl rfl (fun w9 hB5 hg9=>zf (za (zq (zh (qv qY rfl rfl rfl hB5 rfl ⟨(jk (ja (ja gr1 hg7) hg8) hg9 (Ge.le (Ge.box hl1) (Nat.le_refl _))),a9,a0,c0,a4,b0,rfl,H⟩)))))
set_option maxHeartbeats 8000000 in
theorem W_smithysee_Fault {S:List Nat} {w:World} {v_e:Value} {e:Er} {K:Int->Bool->Int->Bool->(List UInt8)->Prop} (hG:GOK S w) (hS0:0∈S) (hS1:1∈S) (hS2:2∈S) (hS3:3∈S) (hS4:4∈S) (hS5:5∈S) (hS6:6∈S) (hS7:7∈S) (hS8:8∈S) (hS9:9∈S) (hS10:10∈S) (hS11:11∈S) (hS12:12∈S) (hS13:13∈S) (hS14:14∈S) (hS15:15∈S) (hS16:16∈S) (he:ErrR S w v_e e) (H:Zn e K):Fn Tryz.prog 80 ⟨[v_e]⟩ w (fun v w'=>w.grownBy w' none/\∃ (r_Code:Int),∃ (r_Placed:Bool),∃ (r_Pos:Int),∃ (r_Filed:Bool),∃ (r_File:List UInt8),v=.agg ⟨[.int .i64 r_Code,.bool r_Placed,.int .i64 r_Pos,.bool r_Filed,vs r_File]⟩/\K r_Code r_Placed r_Pos r_Filed r_File):=by
 unfold Zn at H
 refine Fn.enter (by kernel_rfl) Tryz.func80 rfl Tryz.ntmps80 rfl ?_
 refine zd (zb (WL.alloc rfl zero110 (fun g1 w1 hB1 hg1 hl1=>?_)))
 have gr1:=hg1
 refine zf (za (zd (zd (zb (yp (h:=(zg rfl (qq Tryz.underlying26 (he.grown gr1) rfl) (zf (za (zp rfl (fun b1=>?_) (fun b1=>?_)))))))))))
 ·replace H:=H.1 (of_decide_eq_true b1)
  refine zd (zb (WL.call rfl rfl (W_smithyref_None H) ?_))
  rintro _ w2 ⟨hg2,c4,a8,c8,b9,c5,rfl,H⟩
  exact zP (vs:=[.int .i64 c4,.bool a8,.int .i64 c8,.bool b9,vs c5]) qY rfl rfl rfl (jd rfl (jd rfl (jd rfl (jd rfl (jd rfl kg))))) (hB1.g0 hg2) rfl rfl (fun w3 hB2 hg3=>zf (za (zq (zh (qv qY rfl rfl rfl hB2 rfl ⟨(jk (ja gr1 hg2) hg3 (Ge.le (Ge.box hl1) (Nat.le_refl _))),c4,a8,c8,b9,c5,rfl,H⟩)))))
 ·replace H:=H.2 (of_decide_eq_false b1)
  refine zo (za (zd (zb (yp (h:=(zg rfl (Yld.assertNo Tryz.underlying168 (fun _=>by kernel_rfl) (he.grown gr1) rfl rfl (.inl rfl)) (yp (h:=(yp (h:=(yp (h:=(yp (h:=(yp (h:=(zf (za (zd (zd (zb (yp (h:=(yp (h:=(zf (za (zp rfl (fun _=>zd (zb (yp (h:=(WL.call rfl rfl (W_smithysee_placed (hG.grown gr1) hS0 hS1 hS2 hS3 hS4 hS5 hS6 hS7 hS8 hS9 hS10 hS11 hS12 hS13 hS14 hS15 hS16 (he.grown gr1) H) ?_))))) (fun h=>by cases h)))))))))))))))))))))))))))))
  rintro _ w4 ⟨hg4,b3,a1,c1,a5,b4,rfl,H⟩
  exact zP (vs:=[.int .i64 b3,.bool a1,.int .i64 c1,.bool a5,vs b4]) qY rfl rfl rfl (jd rfl (jd rfl (jd rfl (jd rfl (jd rfl kg))))) (hB1.g0 hg4) rfl rfl (fun w5 hB3 hg5=>zf (za (zq (zh (qv qY rfl rfl rfl hB3 rfl ⟨(jk (ja gr1 hg4) hg5 (Ge.le (Ge.box hl1) (Nat.le_refl _))),b3,a1,c1,a5,b4,rfl,H⟩)))))
set_option maxHeartbeats 8000000 in
theorem W_smithysee_Same {S:List Nat} {w:World} {v_e:Value} {e:Er} {f_Code:Int} {f_Placed:Bool} {f_Pos:Int} {f_Filed:Bool} {f_File:List UInt8} {K:Bool->Prop} (hG:GOK S w) (hS0:0∈S) (hS1:1∈S) (hS2:2∈S) (hS3:3∈S) (hS4:4∈S) (hS5:5∈S) (hS6:6∈S) (hS7:7∈S) (hS8:8∈S) (hS9:9∈S) (hS10:10∈S) (hS11:11∈S) (hS12:12∈S) (hS13:13∈S) (hS14:14∈S) (hS15:15∈S) (hS16:16∈S) (he:ErrR S w v_e e) (H:Zs e f_Code f_Placed f_Pos f_Filed f_File K):Fn Tryz.prog 49 ⟨[v_e,.agg ⟨[.int .i64 f_Code,.bool f_Placed,.int .i64 f_Pos,.bool f_Filed,vs f_File]⟩]⟩ w (fun v w'=>w.grownBy w' none/\∃ (r:Bool),v=.bool r/\K r):=by
 unfold Zs at H
 refine Fn.enter (by kernel_rfl) Tryz.func49 rfl Tryz.ntmps49 rfl ?_
 refine zd (zb (qm (us:=[.int .i64 f_Code,.bool f_Placed,.int .i64 f_Pos,.bool f_Filed,vs f_File]) rfl rfl rfl (fun g1 w1 hB1 hg1 hl1=>?_)))
 have gr1:=hg1
 refine yp (h:=(zf (za (zd (zO (fun k => !(Nat.beq k 1 || Nat.beq k 3)) (LD [2] (fun w'=>Bl w' g1 110 [.int .i64 f_Code,.bool f_Placed,.int .i64 f_Pos,.bool f_Filed,vs f_File])) mixed (by kernel_rfl) (fun k w' h _=>(ji h hB1)) (zl rfl rfl (fun w' hw'=>zc qY rfl) (WJ.call rfl (je) rfl rfl (W_smithysee_Fault (hG.grown gr1) hS0 hS1 hS2 hS3 hS4 hS5 hS6 hS7 hS8 hS9 hS10 hS11 hS12 hS13 hS14 hS15 hS16 (he.grown gr1) H) (fun v w' h w2 e=>DD.keep (Bl.g0 hB1 (jg h.1 e))) ?_)))))))
 rintro _ w2 ⟨hg2,d1,c6,d5,c9,d2,rfl,H⟩
 have k1:=hB1.g0 hg2
 refine zl rfl rfl (fun w' hw'=>zQ (vs:=[.int .i64 f_Code,.bool f_Placed,.int .i64 f_Pos,.bool f_Filed,vs f_File]) qY (hw' rfl) rfl rfl rfl rfl) (WJ.call rfl (je) rfl rfl (W_smithyref_SameFault H) (fun v w' h w2 e=>DD.keep (Bl.g0 k1 (jg h.1 e))) ?_)
 rintro _ w3 ⟨hg3,t4,rfl,H⟩
 have k2:=k1.g0 hg3
 exact zl rfl rfl (fun w' hw'=>zc qY rfl) (z8 (za (zq (zw rfl rfl ⟨(ja (ja gr1 hg2) hg3),t4,rfl,H⟩))))
set_option maxHeartbeats 8000000 in
theorem kx {S:List Nat} {w:World} {v_e:Value} {e:Er} {code:Int} {K:Bool->Prop} (hG:GOK S w) (hS0:0∈S) (hS1:1∈S) (hS2:2∈S) (hS3:3∈S) (hS4:4∈S) (hS5:5∈S) (hS6:6∈S) (hS7:7∈S) (hS8:8∈S) (hS9:9∈S) (hS10:10∈S) (hS11:11∈S) (hS12:12∈S) (hS13:13∈S) (hS14:14∈S) (hS15:15∈S) (hS16:16∈S) (he:ErrR S w v_e e) (H:jJ e code K):Fn Tryz.prog 12 ⟨[v_e,.int .i64 code]⟩ w (fun v w'=>w.grownBy w' none/\∃ (r:Bool),v=.bool r/\K r):=by
 unfold jJ at H
 refine Fn.enter (by kernel_rfl) Tryz.func12 rfl Tryz.ntmps12 rfl ?_
 refine zd (zb (yp (h:=(zf (za (zd (zb (yp (h:=(yp (h:=(WL.call rfl rfl (W_smithyref_Bare H) ?_))))))))))))
 rintro _ w1 ⟨hg1,d3,c7,d6,d0,d4,rfl,H⟩
 have gr1:=hg1
 refine WL.call rfl rfl (W_smithysee_Same (hG.grown gr1) hS0 hS1 hS2 hS3 hS4 hS5 hS6 hS7 hS8 hS9 hS10 hS11 hS12 hS13 hS14 hS15 hS16 (he.grown gr1) H) ?_
 rintro _ w2 ⟨hg2,t4,rfl,H⟩
 exact yp (h:=(zf (za (zq (zw rfl rfl ⟨(ja gr1 hg2),t4,rfl,H⟩)))))
end
 
section
open Go Go.RowKit Go.MapKept Go.ChangeMaps
open Go.Maps (Keyed)
section
variable {κ ν:Type} [DecidableEq κ]
def mget:List (κ × ν)->κ->Option ν
 | [],_=>none
 | p :: m,k=>if p.1=k then some p.2 else mget m k
def mput:List (κ × ν)->κ->ν->List (κ × ν)
 | [],k,v=>[(k,v)]
 | p :: m,k,v=>if p.1=k then (k,v) :: m else p :: mput m k v
def Uq (m:List (κ × ν)):Prop:=(m.map (·.1)).Nodup
theorem mget_none {m:List (κ × ν)} {k:κ}:mget m k=none↔∀ p∈m,p.1≠k:=by
 induction m with
 | nil=>simp [mget]
 | cons p m ih =>
  unfold mget
  split
  ·rename_i h; simp [h]
  ·rename_i h; rw [ih]; simp [h]
theorem Zv (m:List (κ × ν)) (k k':κ) (v:ν):mget (mput m k v) k'=if k=k' then some v else mget m k':=by
 induction m with
 | nil=>simp [mget,mput]
 | cons p m ih =>
  unfold mput
  split
  ·rename_i h
   subst h
   unfold mget
   split <;> simp_all
  ·rename_i h
   unfold mget
   rw [ih]
   split
   ·rename_i h2
    subst h2
    rw [if_neg (Ne.symm h)]
   ·rfl
theorem mput_new {m:List (κ × ν)} {k:κ} {v:ν} (h:mget m k=none):mput m k v=m++[(k,v)]:=by
 induction m with
 | nil=>rfl
 | cons p m ih =>
  unfold mget at h
  split at h
  ·cases h
  ·rename_i hne
   unfold mput
   rw [if_neg hne,ih h]
   rfl
theorem mput_set {m:List (κ × ν)} {k:κ} {v v0:ν} {j:Nat} (hu:Uq m) (h:m[j]? = some (k,v0)):mput m k v=m.set j (k,v):=by
 induction m generalizing j with
 | nil=>simp at h
 | cons p m ih =>
  have hu':=List.nodup_cons.1 hu
  cases j with
  | zero =>
   simp only [List.getElem?_cons_zero,Option.some.injEq] at h
   subst h
   simp [mput]
  | succ j =>
   simp only [List.getElem?_cons_succ] at h
   have hne:p.1≠k:=fun e=>hu'.1 (List.mem_map.2 ⟨(k,v0),List.mem_of_getElem? h,e.symm⟩)
   unfold mput
   rw [if_neg hne,ih hu'.2 h]
   rfl
theorem mget_mem {m:List (κ × ν)} {k:κ} {v:ν} (hu:Uq m):mget m k=some v↔(k,v)∈m:=by
 induction m with
 | nil=>simp [mget]
 | cons p m ih =>
  have hu':=List.nodup_cons.1 hu
  unfold mget
  split
  ·rename_i h
   subst h
   rw [Option.some.injEq,List.mem_cons]
   constructor
   ·rintro rfl; exact .inl rfl
   ·rintro (h | h)
    ·exact (congrArg Prod.snd h).symm
    ·exact absurd (List.mem_map.2 ⟨_,h,rfl⟩) hu'.1
  ·rename_i h
   rw [ih hu'.2,List.mem_cons]
   constructor
   ·exact .inr
   ·rintro (h2 | h2)
    ·exact absurd (congrArg Prod.fst h2).symm h
    ·exact h2
theorem mput_len (m:List (κ × ν)) (k:κ) (v:ν):(mput m k v).length=if (mget m k).isSome then m.length else m.length+1:=by
 induction m with
 | nil=>simp [mget,mput]
 | cons p m ih =>
  unfold mput mget
  split
  ·simp
  ·rw [List.length_cons,ih,List.length_cons]
   split <;> rfl
theorem mput_mem {m:List (κ × ν)} {k:κ} {v:ν} {p:κ × ν} (h:p∈mput m k v):p=(k,v)∨p∈m:=by
 induction m with
 | nil=>simp [mput] at h; exact .inl h
 | cons q m ih =>
  unfold mput at h
  split at h
  ·rcases List.mem_cons.1 h with h | h
   ·exact .inl h
   ·exact .inr (List.mem_cons_of_mem _ h)
  ·rcases List.mem_cons.1 h with h | h
   ·exact .inr (by rw [h]; exact List.mem_cons_self)
   ·rcases ih h with h | h
    ·exact .inl h
    ·exact .inr (List.mem_cons_of_mem _ h)
theorem mput_keys (m:List (κ × ν)) (k:κ) (v:ν):(mput m k v).map (·.1)=if (mget m k).isSome then m.map (·.1) else m.map (·.1)++[k]:=by
 induction m with
 | nil=>simp [mget,mput]
 | cons p m ih =>
  unfold mput mget
  split
  ·rename_i h; simp [h]
  ·rw [List.map_cons,ih,List.map_cons]
   split <;> rfl
theorem Uq.put {m:List (κ × ν)} (h:Uq m) (k:κ) (v:ν):Uq (mput m k v):=by
 unfold Uq at *
 rw [mput_keys]
 split
 ·exact h
 ·rename_i hn
  have:mget m k=none:=by simpa using hn
  rw [List.nodup_append]
  refine ⟨h,by simp,fun a ha b hb=>?_⟩
  obtain ⟨p,hp,rfl⟩:=List.mem_map.1 ha
  simp only [List.mem_cons,List.not_mem_nil,or_false] at hb
  subst hb
  exact mget_none.1 this p hp
end
structure KeyF {κ:Type} (P:Program) (k:TypeId) (fk:κ->Value) (ok:κ->Prop):Prop where
 check:∀ (w:World) (em:Bool) (x:κ),ok x->(Instr.checkKey em 10000 k (fk x)).run P w=.ok () w
 find:∀ (w:World) (x:κ),ok x->∀ es:List MapEntry,(∀ e∈es,∃ y,ok y/\e.key=fk y) ->
  ((Instr.findKey k (fk x) es).run P w=.ok none w/\∀ e∈es,e.key≠fk x)∨∃ j e,(Instr.findKey k (fk x) es).run P w=.ok (some (j,e.val)) w/\es[j]? = some e/\e.key=fk x
 stays:∀ (w:World) (x:κ),ok x->(Instr.keyThatStays (fk x) (fk x)).run P w=.ok (fk x) w
 inj:∀ x y,ok x->ok y->fk x=fk y->x=y
structure KeyW {κ:Type} (P:Program) (k:TypeId) (fk:κ->Value) (ok:κ->Prop) (w:World):Prop where
 check:∀ (em:Bool) (x:κ),ok x->(Instr.checkKey em 10000 k (fk x)).run P w=.ok () w
 find:∀ (x:κ),ok x->∀ es:List MapEntry,(∀ e∈es,∃ y,ok y/\e.key=fk y) ->
  ((Instr.findKey k (fk x) es).run P w=.ok none w/\∀ e∈es,e.key≠fk x)∨∃ j e,(Instr.findKey k (fk x) es).run P w=.ok (some (j,e.val)) w/\es[j]? = some e/\e.key=fk x
 stays:∀ (x:κ),ok x->(Instr.keyThatStays (fk x) (fk x)).run P w=.ok (fk x) w
 inj:∀ x y,ok x->ok y->fk x=fk y->x=y
theorem KeyF.at {κ:Type} {P:Program} {k:TypeId} {fk:κ->Value} {ok:κ->Prop} (K:KeyF P k fk ok) (w:World):KeyW P k fk ok w:=⟨K.check w,K.find w,K.stays w,K.inj⟩
theorem KeyF.of {κ:Type} {P:Program} {k:TypeId} {fk:κ->Value} {ok:κ->Prop} (K:Keyed P k) (key:∀ x,ok x->∃ l,keyOf P k (fk x)=some l) (inj:∀ x y,ok x->ok y->fk x=fk y->x=y):KeyF P k fk ok where
 check w em x hx:=by obtain ⟨l,hl⟩:=key x hx; exact K.check w em hl
 find w x hx es he:=by
  obtain ⟨l,hl⟩:=key x hx
  refine K.find w hl es fun e he'=>?_
  obtain ⟨y,hy,e'⟩:=he e he'
  obtain ⟨l',hl'⟩:=key y hy
  exact ⟨l',by rw [e']; exact hl'⟩
 stays w x hx:=by obtain ⟨l,hl⟩:=key x hx; exact K.stays w hl
 inj:=inj
def okS (s:List UInt8):Prop:=s.length<=maxLen
theorem keyF_s {P:Program} {k:TypeId} (h:P.underlying k=some .string):KeyF P k vs okS :=
 KeyF.of (Go.Maps.string_keyed h) (fun x hx=>⟨_,Go.WideMaps.keyOf_string_mk h (s:=⟨⟨x⟩⟩) hx⟩) (fun x y _ _ h=>by unfold vs at h; injection h with h; injection h with h; injection h)
def MapB {κ ν:Type} (fk:κ->Value) (ok:κ->Prop) (fv:ν->Value) (w:World) (b:Nat) (m:List (κ × ν)):Prop :=
 ∃ es clock,w.heap[b]? = some (.map es clock)/\Stamped es clock/\es.size<=maxLen/\(∀ p∈m,ok p.1)/\es.toList.map (fun e=>(e.key,e.val))=m.map fun p=>(fk p.1,fv p.2)
section
variable {κ ν:Type} {P:Program} {k e t:TypeId} {fk:κ->Value} {ok:κ->Prop} {fv:ν->Value} {w w':World} {b:Nat} {m:List (κ × ν)} {row:Option Nat}
theorem MapB.lt (h:MapB fk ok fv w b m):b<w.heap.size:=by
 obtain ⟨es,clock,hb,_⟩:=h
 exact (Array.getElem?_eq_some_iff.1 hb).1
theorem MapB.lt' (h:MapB fk ok fv w b m):Lt (some b) w.heap.size:=Lt.box h.lt
theorem MapB.go (h:MapB fk ok fv w b m) (hg:w.grownBy w' row) (hd:Dj (some b) row):MapB fk ok fv w' b m:=by
 have hlt:=h.lt
 obtain ⟨es,clock,hb,r⟩:=h
 exact ⟨es,clock,(hg.block b hlt (fun e=>hd b rfl e.symm)).trans hb,r⟩
theorem MapB.g0 (h:MapB fk ok fv w b m) (hg:w.grownBy w' none):MapB fk ok fv w' b m:=h.go hg Dj.nr
theorem MapB.eqv (hw:Eqv w w') (h:MapB fk ok fv w b m):MapB fk ok fv w' b m:=h.g0 (jg (jr w none) hw)
theorem MapB.len (h:MapB fk ok fv w b m):m.length<=maxLen:=by
 obtain ⟨es,clock,_,_,hs,_,he⟩:=h
 have:=congrArg List.length he
 simp at this
 omega
theorem MapB.uq (h:MapB fk ok fv w b m):Uq m:=by
 obtain ⟨es,clock,_,hst,_,_,he⟩:=h
 have h1:es.toList.map (·.key)=(m.map (·.1)).map fk:=by
  have:=congrArg (List.map Prod.fst) he
  simpa [Function.comp_def] using this
 have h2:=hst.2.2
 rw [h1] at h2
 unfold Uq
 rw [List.nodup_iff_pairwise_ne,List.pairwise_map] at h2
 rw [List.nodup_iff_pairwise_ne]
 exact h2.imp fun h e=>h (by rw [e])
variable [DecidableEq κ]
theorem MapB.find {es:Array MapEntry} {w:World} (K:KeyW P k fk ok w) (hst:Uq m) (hok:∀ p∈m,ok p.1) (he:es.toList.map (fun e=>(e.key,e.val))=m.map fun p=>(fk p.1,fv p.2)) {q:κ} (hq:ok q) :
  ((Instr.findKey k (fk q) es.toList).run P w=.ok none w/\mget m q=none/\∀ x∈es.toList,x.key≠fk q)∨∃ j v e0,(Instr.findKey k (fk q) es.toList).run P w=.ok (some (j,fv v)) w/\mget m q=some v/\m[j]? = some (q,v)/\es.toList[j]? = some e0/\e0.key=fk q:=by
 have hget:∀ (j:Nat),(es.toList[j]?).map (fun e=>(e.key,e.val))=(m[j]?).map fun p=>(fk p.1,fv p.2):=fun j=>by
  have:=congrArg (fun l=>l[j]?) he
  simpa using this
 rcases K.find q hq es.toList (fun e he'=>by
  obtain ⟨j,hj,rfl⟩:=List.getElem_of_mem he'
  have h1:=hget j
  rw [List.getElem?_eq_getElem hj] at h1
  simp only [Option.map_some] at h1
  obtain ⟨p,hp,hpe⟩:=Option.map_eq_some_iff.1 h1.symm
  exact ⟨p.1,hok p (List.mem_of_getElem? hp),(congrArg Prod.fst hpe).symm⟩) with ⟨h1,h2⟩ | ⟨j,e0,h1,h2,h3⟩
 ·refine .inl ⟨h1,mget_none.2 fun p hp hpq=>?_,h2⟩
  obtain ⟨j,hj,rfl⟩:=List.getElem_of_mem hp
  have h4:=hget j
  rw [List.getElem?_eq_getElem hj] at h4
  simp only [Option.map_some] at h4
  obtain ⟨x,hx,hxe⟩:=Option.map_eq_some_iff.1 h4
  have h5:x.key=fk m[j].1:=congrArg Prod.fst hxe
  exact h2 x (List.mem_of_getElem? hx) (by rw [h5,hpq])
 ·have h4:=hget j
  rw [h2] at h4
  simp only [Option.map_some] at h4
  obtain ⟨p,hp,hpe⟩:=Option.map_eq_some_iff.1 h4.symm
  have hpq:p.1=q:=K.inj _ _ (hok p (List.mem_of_getElem? hp)) hq ((congrArg Prod.fst hpe).trans h3)
  have hpv:fv p.2=e0.val:=congrArg Prod.snd hpe
  refine .inr ⟨j,p.2,e0,by rw [hpv]; exact h1,(mget_mem hst).2 (by rw [<-hpq]; exact List.mem_of_getElem? hp),by rw [hp,<-hpq],h2,h3⟩
theorem MapB.run_look (K:KeyW P k fk ok w) (h:MapB fk ok fv w b m) (ht:P.underlying t=some (.map k e)) {z:ν} (hz:(zeroValue e).run P w=.ok (fv z) w) {q:κ} (hq:ok q) (c:Bool) :
  (Instr.lookup t (.map (some b)) (fk q) c).run P w=.ok (if c then .tuple #[fv ((mget m q).getD z),.bool (mget m q).isSome] else fv ((mget m q).getD z)) w:=by
 have hu:=h.uq
 obtain ⟨es,clock,hb,hst,hs,hok,he⟩:=h
 rcases MapB.find K hu hok he hq with ⟨h1,h2,_⟩ | ⟨j,v,e0,h1,h2,_⟩
 ·cases c <;> simp [Instr.lookup,run_underlying ht,MapKept.run_getObj_map hb,K.check _ q hq,h1,h2,hz,Result.andThen]
 ·cases c <;> simp [Instr.lookup,run_underlying ht,MapKept.run_getObj_map hb,K.check _ q hq,h1,h2,Result.andThen]
theorem MapB.run_put (K:KeyW P k fk ok w) (h:MapB fk ok fv w b m) (ht:P.underlying t=some (.map k e)) (hn:m.length<maxLen) {q:κ} (hq:ok q) (v:ν) :
  ∃ w',(Instr.mapUpdate t (.map (some b)) (fk q) (fv v)).run P w=.ok () w'/\MapB fk ok fv w' b (mput m q v)/\w.grownBy w' (some b):=by
 have hu:=h.uq
 obtain ⟨es,clock,hb,hst,hs,hok,he⟩:=h
 have hlen:es.size=m.length:=by have:=congrArg List.length he; simpa using this
 have hok':∀ p∈mput m q v,ok p.1:=fun p hp=>by
  rcases mput_mem hp with rfl | hp
  ·exact hq
  ·exact hok p hp
 have hgr:∀ o,w.grownBy (setBlock w b o) (some b):=fun o=>⟨rfl,rfl,rfl,by simp [setBlock],fun i _ hi=>heap_setBlock_other hb _ (fun e=>hi (by rw [e]))⟩
 rcases MapB.find K hu hok he hq with ⟨h1,h2,h3⟩ | ⟨j,v0,e0,h1,h2,h3,h4,h5⟩
 ·refine ⟨setBlock w b (.map (es.push ⟨fk q,fv v,clock⟩) (clock+1)),?_,⟨es.push ⟨fk q,fv v,clock⟩,clock+1,heap_setBlock_same hb _,stamped_push hst h3,by simp; omega,hok',?_⟩,hgr _⟩
  ·simp [Instr.mapUpdate,run_underlying ht,MapKept.run_getObj_map hb,K.check false q hq,h1,MapKept.run_setObj_map _ hb,Result.andThen,setBlock]
  ·rw [mput_new h2,Array.toList_push,List.map_append,List.map_append,he]
   rfl
 ·have hj:es[j]? = some e0:=by simpa using h4
  have hkeyf:∀ e',es[j]? = some e'->({ e' with key:=fk q,val:=fv v }:MapEntry).key=e'.key:=fun e' he'=>by rw [hj] at he'; cases he'; exact h5.symm
  have hlist:(es.modify j (fun e'=>{ e' with key:=fk q,val:=fv v })).toList=es.toList.set j { e0 with key:=fk q,val:=fv v }:=by rw [Array.toList_modify,modify_eq_set _ _ _ _ h4]
  refine ⟨setBlock w b (.map (es.modify j (fun e'=>{ e' with key:=fk q,val:=fv v })) clock),?_,⟨es.modify j (fun e'=>{ e' with key:=fk q,val:=fv v }),clock,heap_setBlock_same hb _,stamped_modify hst _ _ (fun _ _=>rfl) (fun e' _ he'=>hkeyf e' he'),by simpa using hs,hok',?_⟩,hgr _⟩
  ·simp [Instr.mapUpdate,run_underlying ht,MapKept.run_getObj_map hb,K.check false q hq,h1,hj,h5,K.stays q hq,MapKept.run_setObj_map _ hb,Result.andThen,setBlock]
  ·rw [hlist,mput_set hu h3,List.map_set,List.map_set,he]
section
end
 omit [DecidableEq κ] in
theorem MapB.made (w:World) (fk:κ->Value) (ok:κ->Prop) (fv:ν->Value):MapB fk ok fv (w.alloc (.map #[] 0)) w.heap.size ([]:List (κ × ν)) :=
  ⟨#[],0,(MapKept.heap_alloc w _).1,stamped_empty 0,by simp,by simp,rfl⟩
variable {N:Nat} {L:jj} {ty:TypeId} {pos:String} {af:Array Edge} {dd:Option Tmp} {x y u:Operand}
theorem Yld.look (hK:KeyF P k fk ok) (ht:P.underlying t=some (.map k e)) {z:ν} (hz:∀ w,(zeroValue e).run P w=.ok (fv z) w) (hm:MapB fk ok fv w b m) (hx:opv L x=some (.map (some b))) {q:κ} (hy:opv L y=some (fk q)) (hq:ok q) :
  Yld P N w ⟨dd,.lookup t x y false,ty,pos,af,none⟩ L (fv ((mget m q).getD z)):=fun a w1 hw ha=>by
 unfold execOp
 simp [ha.ev hx,ha.ev hy,(MapB.eqv hw hm).run_look (hK.at w1) ht (hz w1) hq false]
theorem Yld.lookOk (hK:KeyF P k fk ok) (ht:P.underlying t=some (.map k e)) {z:ν} (hz:∀ w,(zeroValue e).run P w=.ok (fv z) w) (hm:MapB fk ok fv w b m) (hx:opv L x=some (.map (some b))) {q:κ} (hy:opv L y=some (fk q)) (hq:ok q) :
  Yld P N w ⟨dd,.lookup t x y true,ty,pos,af,none⟩ L (.tuple #[fv ((mget m q).getD z),.bool (mget m q).isSome]):=fun a w1 hw ha=>by
 unfold execOp
 simp [ha.ev hx,ha.ev hy,(MapB.eqv hw hm).run_look (hK.at w1) ht (hz w1) hq true]
section
end
 omit [DecidableEq κ] in
theorem Eff.makeMap (fk:κ->Value) (ok:κ->Prop) (fv:ν->Value):Eff P N w ⟨dd,.makeMap t none,ty,pos,af,none⟩ L fun v w'=>v=.map (some w.heap.size)/\MapB fk ok fv w' w.heap.size ([]:List (κ × ν))/\w.grownBy w' none:=fun a w1 hw ha=>by
  refine ⟨_,w1.alloc (.map #[] 0),?_,rfl,?_,kh hw (gr_alloc w1 _ none)⟩
  · unfold execOp
    simp [run_makeMap]
    rw [hw.heap]
  · have:=MapB.made w1 fk ok fv
    rwa [hw.heap] at this
theorem Ef0.mapPut (hK:KeyF P k fk ok) (ht:P.underlying t=some (.map k e)) (hm:MapB fk ok fv w b m) (hn:m.length<maxLen) (hx:opv L x=some (.map (some b))) {q:κ} (hy:opv L y=some (fk q)) (hq:ok q) {v:ν} (hu:opv L u=some (fv v)) :
  Ef0 P N w ⟨none,.mapUpdate t x y u,ty,pos,af,none⟩ L fun w'=>MapB fk ok fv w' b (mput m q v)/\w.grownBy w' (some b):=fun a w1 hw ha=>by
 obtain ⟨w',h1,h2,h3⟩:=(MapB.eqv hw hm).run_put (hK.at w1) ht hn hq v
 refine ⟨w',?_,h2,kh hw h3⟩
 unfold execOp
 simp [ha.ev hx,ha.ev hy,ha.ev hu,h1]
section
end
 omit [DecidableEq κ] in
theorem Yld.maplen (ht:P.underlying t=some (.map k e)) (hm:MapB fk ok fv w b m) (hx:opv L x=some (.map (some b))) :
    Yld P N w ⟨dd,.call ⟨.builtin .len,⟨[x]⟩,⟨[t]⟩⟩,ty,pos,af,none⟩ L (.int .i64 (m.length:Int)):=fun a w1 hw ha=>by
  obtain ⟨es,clock,hb,hst,hs,hok,he⟩:=MapB.eqv hw hm
  have hlen:es.size=m.length:=by have:=congrArg List.length he; simpa using this
  unfold execOp
  simp [ha.ev hx,resolve,invoke,builtin,Builtin.len_,run_underlying ht,MapKept.run_getObj_map hb,goInt,Result.andThen,hlen]
theorem WL.ef0 {ops:Array Oper} {Q:Post} {rest:List Oper} {op:Op} {R:World->Prop} (hr:Ef0 P N w ⟨none,op,ty,pos,af,none⟩ L R) (hk:∀ w',R w'->WL P N ops Q rest L w'):WL P N ops Q (⟨none,op,ty,pos,af,none⟩ :: rest) L w:=WL.eff hr hk
end
end
 
section
open Go Go.RowKit
structure GrL (ps:List (Option Nat)) (w w':World):Prop where
 os:w'.os=w.os
 tape:w'.tape=w.tape
 output:w'.output=w.output
 size:w.heap.size<=w'.heap.size
 block:∀ i,i<w.heap.size->(∀ p,List.Mem p ps->p≠some i)->w'.heap[i]? = w.heap[i]?
def AllP (Q:Option Nat->Prop) (ps:List (Option Nat)):Prop:=∀ p,List.Mem p ps->Q p
theorem apN {Q:Option Nat->Prop}:AllP Q []:=fun _ h=>by cases h
theorem apC {Q:Option Nat->Prop} {p:Option Nat} {ps:List (Option Nat)} (h:Q p) (t:AllP Q ps):AllP Q (p :: ps):=fun x hx=>by
 cases hx with
 | head=>exact h
 | tail _ hx=>exact t x hx
def InP (ps:List (Option Nat)) (n:Nat) (p:Option Nat):Prop:=∀ g,p=some g->n<=g∨List.Mem (some g) ps
section
variable {ps qs:List (Option Nat)} {p p' q row:Option Nat} {n m:Nat} {a b c w w':World}
theorem InP.ge (h:Ge p n):InP ps n p:=fun g hg=>.inl (h g hg)
theorem InP.mem (h:List.Mem p ps):InP ps n p:=fun _ hg=>.inr (hg ▸ h)
theorem InP.none:InP ps n none:=fun _ h=>by cases h
theorem InP.app (h:InP ps n p) (k:∀ g,p'=some g->p=some g∨m<=g) (hm:n<=m):InP ps n p':=fun g hg=>by
 rcases k g hg with h1 | h1
 ·exact h g h1
 ·exact .inl (Nat.le_trans hm h1)
theorem InP.trans (h:InP qs m p) (k:AllP (InP ps n) qs) (hm:n<=m):InP ps n p:=fun g hg=>by
 rcases h g hg with h1 | h1
 ·exact .inl (Nat.le_trans hm h1)
 ·exact k _ h1 g rfl
theorem InP.toGe (h:InP qs m p) (k:AllP (fun q=>Ge q n) qs) (hm:n<=m):Ge p n:=fun g hg=>by
 rcases h g hg with h1 | h1
 ·exact Nat.le_trans hm h1
 ·exact k _ h1 g rfl
theorem InP.dj (h:InP qs m p) (hq:Lt q m) (k:AllP (Dj q) qs):Dj p q:=fun g hg hqg=>by
 rcases h g hg with h1 | h1
 ·have:=hq g hqg; omega
 ·exact k _ h1 g hqg rfl
theorem InP.dn {α:Type} {xs:List α} (h:InP qs m p) (hq:xs≠[]->Lt q m) (k:AllP (Dn xs q) qs):Dn xs q p:=fun hx g hqg hg=>by
 rcases h g hg with h1 | h1
 ·have:=hq hx g hqg; omega
 ·exact k _ h1 hx g hqg rfl
theorem GrL.refl (w:World):GrL ps w w:=⟨rfl,rfl,rfl,Nat.le_refl _,fun _ _ _=>rfl⟩
theorem GrL.of0 (h:w.grownBy w' none):GrL ps w w':=⟨h.os,h.tape,h.output,h.size,fun i hi _=>h.block i hi (by simp)⟩
theorem GrL.of1 (h:w.grownBy w' row):GrL [row] w w':=⟨h.os,h.tape,h.output,h.size,fun i hi k=>h.block i hi fun e=>k row (List.Mem.head _) e.symm⟩
theorem GrL.toL (h:GrL [] w w'):w.grownBy w' none:=⟨h.os,h.tape,h.output,h.size,fun i hi _=>h.block i hi fun _ hp=>by cases hp⟩
theorem GrL.trans (h:GrL ps a b) (k:GrL ps b c):GrL ps a c :=
 ⟨k.os.trans h.os,k.tape.trans h.tape,k.output.trans h.output,Nat.le_trans h.size k.size,fun i hi hp=>(k.block i (Nat.lt_of_lt_of_le hi h.size) hp).trans (h.block i hi hp)⟩
theorem GrL.modL (h:GrL ps a b) (k:GrL qs b c) (hi:AllP (InP ps a.heap.size) qs):GrL ps a c :=
 ⟨k.os.trans h.os,k.tape.trans h.tape,k.output.trans h.output,Nat.le_trans h.size k.size,fun i hl hp=>(k.block i (Nat.lt_of_lt_of_le hl h.size) fun q hq e=>by
  rcases hi q hq i e with h1 | h1
  ·omega
  ·exact hp _ h1 rfl).trans (h.block i hl hp)⟩
theorem GrL.mod (h:GrL ps a b) (k:b.grownBy c row) (hi:InP ps a.heap.size row):GrL ps a c:=h.modL (GrL.of1 k) (apC hi apN)
theorem GrL.add0 (h:GrL ps a b) (k:b.grownBy c none):GrL ps a c:=h.trans (GrL.of0 k)
theorem jC (h:a.grownBy b none) (k:GrL qs b c) (hi:AllP (fun q=>Ge q a.heap.size) qs):a.grownBy c none :=
 (GrL.modL (ps:=[]) (GrL.of0 h) k fun q hq=>InP.ge (hi q hq)).toL
theorem GrL.eqv (h:GrL ps a b) (k:Eqv b c):GrL ps a c:=h.add0 (jg (jr b none) k)
theorem GrL.sizeL (h:GrL ps a b):a.heap.size<=b.heap.size:=h.size
theorem GrL.cell (h:GrL ps w w') {ad:Addr} {v:Value} (hc:w.cell? ad=some v) (hp:∀ p,List.Mem p ps->p≠some ad.block):w'.cell? ad=some v:=by
 have hlt:=World.block_lt_of_cell? w _ hc
 have:=h.block ad.block hlt hp
 unfold World.cell? at hc |-
 rw [this]; exact hc
variable {α:Type} {f:α->Value} {A:Option Addr} {B cc g k:Nat} {xs:List α} {e:TypeId} {us:List Value} {fk:α->List Value}
theorem Bl.goL (h:Bl w g e us) (hg:GrL ps w w') (hd:AllP (Dj (some g)) ps):Bl w' g e us:=(hg.block g h.lt fun p hp e=>hd p hp g rfl e).trans h
theorem Rd.goL (h:Rd f w A cc xs) (hg:GrL ps w w') (hd:AllP (Dn xs (blk A)) ps):Rd f w' A cc xs :=
 ⟨h.cap,h.max,fun hx=>by
  obtain ⟨ad,rfl,hc⟩:=h.cells hx
  refine ⟨ad,rfl,fun j x hj=>hg.cell (hc j x hj) fun p hp e=>?_⟩
  rw [addr_block] at e
  exact hd p hp hx ad.block rfl e⟩
theorem RdK.goL (h:RdK k fk w A cc xs) (hg:GrL ps w w') (hd:AllP (Dn xs (blk A)) ps):RdK k fk w' A cc xs :=
 ⟨h.ok,h.cap,h.max,fun hx=>by
  obtain ⟨g',o,rfl,hc⟩:=h.cells hx
  refine ⟨g',o,rfl,fun j x i u hj hi=>hg.cell (hc j x i u hj hi) fun p hp e=>?_⟩
  exact hd p hp hx g' rfl e⟩
theorem Own.goL (h:Own f w B e A cc xs) (hg:GrL ps w w') (hd:AllP (Dj (blk A)) ps):Own f w' B e A cc xs:=by
 have hlt:=h.lt'
 unfold Own at h |-
 refine ⟨h.1,?_⟩
 rcases h.2 with h2 | ⟨g,cap,cur,hv,hb,hg',r⟩
 ·exact .inl h2
 ·refine .inr ⟨g,cap,cur,hv,hb,?_,r⟩
  simp only [Value.slice.injEq] at hv
  obtain ⟨rfl,_⟩:=hv
  exact (hg.block g (hlt g rfl) fun p hp e=>hd p hp g rfl e).trans hg'
theorem OwnK.goL (h:OwnK k fk w B e A cc xs) (hg:GrL ps w w') (hd:AllP (Dj (blk A)) ps):OwnK k fk w' B e A cc xs:=by
 have hlt:=h.lt'
 refine ⟨h.1,h.2.1,?_⟩
 rcases h.2.2 with h2 | ⟨g,cap,cur,hv,hb,hg',r⟩
 ·exact .inl h2
 ·refine .inr ⟨g,cap,cur,hv,hb,?_,r⟩
  simp only [Value.slice.injEq] at hv
  obtain ⟨rfl,_⟩:=hv
  exact (hg.block g (hlt g rfl) fun p hp e=>hd p hp g rfl e).trans hg'
theorem MapB.goL {κ ν:Type} {mk:κ->Value} {ok:κ->Prop} {fv:ν->Value} {mm:List (κ × ν)} (h:MapB mk ok fv w g mm) (hg:GrL ps w w') (hd:AllP (Dj (some g)) ps):MapB mk ok fv w' g mm:=by
 have hlt:=h.lt
 obtain ⟨es,clock,hb,r⟩:=h
 exact ⟨es,clock,(hg.block g hlt (fun p hp e=>hd p hp g rfl e)).trans hb,r⟩
variable {S:List Nat}
def GB (S:List Nat) (B:Nat) (w:World):Prop:=∃ W,GOK S W/\W.heap.size<=B/\Below W.heap.size W w
theorem GB.ok (h:GB S B w):GOK S w:=by
 obtain ⟨W,h1,_,h3⟩:=h
 exact h1.grown (gr_below h3 none)
theorem GB.of (h:GOK S w):GB S w.heap.size w:=⟨w,h,Nat.le_refl _,Below.refl _ _⟩
theorem belowL {W:World} {n:Nat} (h3:Below n W w) (hn:n<=B) (hg:GrL ps w w') (hp:AllP (fun p=>Ge p B) ps) (hW:n<=W.heap.size):Below n W w':=by
 refine ⟨hg.os.trans h3.os,hg.tape.trans h3.tape,hg.output.trans h3.output,Nat.le_trans h3.size hg.size,fun i hi=>?_⟩
 refine (hg.block i (Nat.lt_of_lt_of_le (Nat.lt_of_lt_of_le hi hW) h3.size) fun p hm e=>?_).trans (h3.block i hi)
 have:=hp p hm i e
 omega
theorem GB.goL (h:GB S B w) (hg:GrL ps w w') (hp:AllP (fun p=>Ge p B) ps):GB S B w':=by
 obtain ⟨W,h1,h2,h3⟩:=h
 exact ⟨W,h1,h2,belowL h3 h2 hg hp (Nat.le_refl _)⟩
theorem GB.g0 (h:GB S B w) (hg:w.grownBy w' none):GB S B w':=h.goL (ps:=[]) (GrL.of0 hg) apN
theorem GB.mono {B':Nat} (h:GB S B w) (hB:B<=B'):GB S B' w:=by
 obtain ⟨W,h1,h2,h3⟩:=h
 exact ⟨W,h1,Nat.le_trans h2 hB,h3⟩
theorem GB.grown {W:World} (h:GOK S W) (hg:W.grownBy w none):GB S W.heap.size w:=⟨W,h,Nat.le_refl _,below_gr hg⟩
def NoAt (w:World) (p:Option Nat):Prop:=∀ g us,p=some g->¬ Bl w g 198 us
theorem NoAt.bl (h:Bl w g e us) (ht:Nat.beq e 198=false):NoAt w (some g):=fun g' us' hg' hB=>by
 cases hg'
 exact Bl.ne h hB (Nat.ne_of_beq_eq_false ht) rfl
theorem NoAt.own (h:Own f w B e A cc xs) (ht:Nat.beq e 198=false):NoAt w (blk A):=fun g' us' hg' hB=>by
 rcases h.2 with ⟨hv,_⟩ | ⟨g,cap,cur,hv,_,hb,_⟩
 ·simp only [Value.slice.injEq] at hv
  obtain ⟨rfl,_⟩:=hv
  cases hg'
 ·simp only [Value.slice.injEq] at hv
  obtain ⟨rfl,_⟩:=hv
  cases hg'
  exact Bl.ne (us:=cur.toList) hb hB (Nat.ne_of_beq_eq_false ht) rfl
theorem NoAt.ownK (h:OwnK k fk w B e A cc xs) (ht:Nat.beq e 198=false):NoAt w (blk A):=fun g' us' hg' hB=>by
 rcases h.2.2 with ⟨hv,_⟩ | ⟨g,cap,cur,hv,_,hb,_⟩
 ·simp only [Value.slice.injEq] at hv
  obtain ⟨rfl,_⟩:=hv
  cases hg'
 ·simp only [Value.slice.injEq] at hv
  obtain ⟨rfl,_⟩:=hv
  cases hg'
  exact Bl.ne (us:=cur.toList) hb hB (Nat.ne_of_beq_eq_false ht) rfl
theorem NoAt.map {κ ν:Type} {mk:κ->Value} {ok:κ->Prop} {fv:ν->Value} {mm:List (κ × ν)} (h:MapB mk ok fv w g mm):NoAt w (some g):=fun g' us' hg' hB=>by
 cases hg'
 obtain ⟨es,clock,hb,_⟩:=h
 unfold Bl at hB
 rw [hb] at hB
 cases hB
theorem ErrR.goB {v:Value} {er:Er} (h:ErrR S w v er) (hG:GB S B w) (hg:GrL ps w w') (hp:AllP (fun p=>Ge p B) ps) (hn:AllP (NoAt w) ps):ErrR S w' v er:=by
 have key:∀ {v:Value} {n:Nat},ErV w v n->n∈S->ErV w' v n:=fun {v n} hv hS=>by
  obtain ⟨W,h1,h2,h3⟩:=hG
  obtain ⟨u,hu⟩:=h1.er n hS hv.lt
  rw [ErV.uniq hv (hu.grown (gr_below h3 none))]
  exact hu.grown (gr_below (belowL h3 h2 hg hp (Nat.le_refl _)) none)
 cases er with
 | ok=>exact h
 | e n=>exact ⟨key h.1 h.2,h.2⟩
 | at_ pos n =>
  obtain ⟨b,u,k1,k2,k3,k4⟩:=h
  exact ⟨b,u,k1,k2.goL hg fun p hm g' hg' hpe=>by cases hg'; exact hn p hm _ _ hpe k2,key k3 k4,k4⟩
end
end
 
section
open Go Go.RowKit
section
variable {κ ν μ:Type} [DecidableEq κ]
def mmap (g:ν->μ) (m:List (κ × ν)):List (κ × μ):=m.map fun p=>(p.1,g p.2)
theorem mget_mmap (g:ν->μ) (k:κ):∀ m:List (κ × ν),mget (mmap g m) k=(mget m k).map g
 | []=>rfl
 | p :: m=>by
  show (if p.1=k then some (g p.2) else mget (mmap g m) k)=(if p.1=k then some p.2 else mget m k).map g
  split
  ·rfl
  ·exact mget_mmap g k m
theorem mput_mmap (g:ν->μ) (k:κ) (v:ν):∀ m:List (κ × ν),mput (mmap g m) k (g v)=mmap g (mput m k v)
 | []=>rfl
 | p :: m=>by
  show (if p.1=k then (k,g v) :: mmap g m else (p.1,g p.2) :: mput (mmap g m) k (g v))=mmap g (if p.1=k then (k,v) :: m else p :: mput m k v)
  split
  ·rfl
  ·rw [mput_mmap g k v m]; rfl
theorem mget_keys:∀ {a:List (κ × ν)} {b:List (κ × μ)},a.map (·.1)=b.map (·.1)->∀ k,(mget a k).isSome=(mget b k).isSome
 | [],[],_,_=>rfl
 | [],_ :: _,h,_=>by simp at h
 | _ :: _,[],h,_=>by simp at h
 | p :: a,r :: b,h,k=>by
  simp only [List.map_cons,List.cons.injEq] at h
  unfold mget
  rw [h.1]
  split
  ·rfl
  ·exact mget_keys h.2 k
theorem mput_same {g:ν->μ} {k:κ} {v u:ν} (hg:g v=g u):∀ {m:List (κ × ν)},mget m k=some u->(mput m k v).map (fun p=>(p.1,g p.2))=m.map fun p=>(p.1,g p.2)
 | [],h=>by simp [mget] at h
 | p :: m,h=>by
  unfold mget at h
  unfold mput
  split at h
  ·rename_i e
   simp only [Option.some.injEq] at h
   rw [if_pos e,List.map_cons,List.map_cons,hg,<-h,e]
  ·rename_i e
   rw [if_neg e,List.map_cons,List.map_cons,mput_same hg h]
theorem mget_same (m:List (κ × ν)) (k:κ) (v:ν):mget (mput m k v) k=some v:=by rw [Zv,if_pos rfl]
end
def Lp8 {A0 A1 A2 A3 A4 A5 A6 A7:Type} (b:A0->A1->A2->A3->A4->A5->A6->A7->(A0->A1->A2->A3->A4->A5->A6->A7->Prop)->Prop) (x0:A0) (x1:A1) (x2:A2) (x3:A3) (x4:A4) (x5:A5) (x6:A6) (x7:A7):Prop:=∃ (I:A0->A1->A2->A3->A4->A5->A6->A7->Prop) (mu:A0->A1->A2->A3->A4->A5->A6->A7->Nat),I x0 x1 x2 x3 x4 x5 x6 x7/\∀ x0 x1 x2 x3 x4 x5 x6 x7,I x0 x1 x2 x3 x4 x5 x6 x7->b x0 x1 x2 x3 x4 x5 x6 x7 fun y0 y1 y2 y3 y4 y5 y6 y7=>I y0 y1 y2 y3 y4 y5 y6 y7/\mu y0 y1 y2 y3 y4 y5 y6 y7<mu x0 x1 x2 x3 x4 x5 x6 x7
def Lp12 {A0 A1 A2 A3 A4 A5 A6 A7 A8 A9 A10 A11:Type} (b:A0->A1->A2->A3->A4->A5->A6->A7->A8->A9->A10->A11->(A0->A1->A2->A3->A4->A5->A6->A7->A8->A9->A10->A11->Prop)->Prop) (x0:A0) (x1:A1) (x2:A2) (x3:A3) (x4:A4) (x5:A5) (x6:A6) (x7:A7) (x8:A8) (x9:A9) (x10:A10) (x11:A11):Prop:=∃ (I:A0->A1->A2->A3->A4->A5->A6->A7->A8->A9->A10->A11->Prop) (mu:A0->A1->A2->A3->A4->A5->A6->A7->A8->A9->A10->A11->Nat),I x0 x1 x2 x3 x4 x5 x6 x7 x8 x9 x10 x11/\∀ x0 x1 x2 x3 x4 x5 x6 x7 x8 x9 x10 x11,I x0 x1 x2 x3 x4 x5 x6 x7 x8 x9 x10 x11->b x0 x1 x2 x3 x4 x5 x6 x7 x8 x9 x10 x11 fun y0 y1 y2 y3 y4 y5 y6 y7 y8 y9 y10 y11=>I y0 y1 y2 y3 y4 y5 y6 y7 y8 y9 y10 y11/\mu y0 y1 y2 y3 y4 y5 y6 y7 y8 y9 y10 y11<mu x0 x1 x2 x3 x4 x5 x6 x7 x8 x9 x10 x11
abbrev PH:=Nat × Option Nat
def vP (o:Option PH):Value:=.pointer (o.map fun h=>⟨h.1,0,none⟩)
def pq (hs:List (List UInt8 × PH)) (q:List UInt8):Value:=vP (mget hs q)
theorem pq_some {hs:List (List UInt8 × PH)} {q:List UInt8} {b:Nat} {r:Option Nat} (h:mget hs q=some (b,r)):pq hs q=.pointer (some ⟨b,0,none⟩):=by unfold pq; rw [h]; rfl
def pqo (hs:List (List UInt8 × PH)) (q:List UInt8) (o:Nat):Value:=.pointer ((mget hs q).map fun h=>⟨h.1,o,none⟩)
theorem pqo_some {hs:List (List UInt8 × PH)} {q:List UInt8} {b o:Nat} {r:Option Nat} (h:mget hs q=some (b,r)):pqo hs q o=.pointer (some ⟨b,o,none⟩):=by unfold pqo; rw [h]; rfl
theorem isSome_of {α:Type} {o:Option α} (h:o.isNone=false):o.isSome=true:=by
 cases o with
 | none=>cases h
 | some x=>rfl
theorem getD_some {α:Type} {o:Option α} {z:α} (h:o.isSome=true):o=some (o.getD z):=by
 cases o with
 | none=>cases h
 | some x=>rfl
section
variable {ps:List (Option Nat)} {Q:Option Nat->Prop} {n m:Nat} {F qs:List (Option Nat)} {q row:Option Nat} {w:World}
theorem apH {p:Option Nat} (h:AllP Q (p :: ps)):Q p:=h _ (List.Mem.head _)
theorem apNl:AllP (Dj none) ps:=fun _ _=>Dj.nl
theorem InA.mem (h:∀ p,List.Mem p F->List.Mem p ps):AllP (InP ps n) F:=fun p hp=>InP.mem (h p hp)
theorem InA.ge (h:AllP (fun p=>Ge p n) F):AllP (InP ps n) F:=fun p hp=>InP.ge (h p hp)
theorem InA.trans (h:AllP (InP qs m) F) (k:AllP (InP ps n) qs) (hm:n<=m):AllP (InP ps n) F:=fun p hp=>(h p hp).trans k hm
theorem InA.toGe (h:AllP (InP qs m) F) (k:AllP (fun q=>Ge q n) qs) (hm:n<=m):AllP (fun q=>Ge q n) F:=fun p hp=>(h p hp).toGe k hm
theorem InA.dj (h:AllP (InP qs m) F) (hq:Lt q m) (k:AllP (Dj q) qs):AllP (Dj q) F:=fun p hp=>((h p hp).dj hq k).symm
theorem InA.dn {α:Type} {xs:List α} (h:AllP (InP qs m) F) (hq:xs≠[]->Lt q m) (k:AllP (Dn xs q) qs):AllP (Dn xs q) F:=fun p hp=>(h p hp).dn hq k
end
def FP (m:Nat) (hs:List (List UInt8 × PH)) (q0:Option (List UInt8)):List (Option Nat):=some m :: (hs.filter fun h=>decide (some h.1≠q0)).flatMap fun h=>[some h.2.1,h.2.2]
structure PE (X:Type) where
 rel:World->PH->X->Prop
 goL:∀ {w w':World} {h:PH} {x:X} {ps:List (Option Nat)},rel w h x->GrL ps w w'->AllP (Dj (some h.1)) ps->AllP (Dj h.2) ps->rel w' h x
 lt:∀ {w:World} {h:PH} {x:X},rel w h x->Lt (some h.1) w.heap.size/\Lt h.2 w.heap.size
 isc:Nat->Bool
 sc:X->Nat->Value
 hsc:∀ {w:World} {h:PH} {x:X} {o:Nat},isc o=true->rel w h x->w.cell? ⟨h.1,o,none⟩=some (sc x o)
 noat:∀ {w:World} {h:PH} {x:X},rel w h x->NoAt w (some h.1)/\NoAt w h.2
structure jc {X:Type} (d:PE X) (w:World) (m:Nat) (hs:List (List UInt8 × PH)) (fs:List (List UInt8 × X)) (q0:Option (List UInt8)):Prop where
 map:MapB vs okS vP w m (mmap some hs)
 keys:hs.map (·.1)=fs.map (·.1)
 rel:∀ q h x,mget hs q=some h->mget fs q=some x->some q≠q0->d.rel w h x
 dm:∀ q h,mget hs q=some h->some q≠q0->Dj (some m) (some h.1)/\Dj (some m) h.2
 dd:∀ q q' h h',q≠q'->mget hs q=some h->mget hs q'=some h'->some q≠q0->some q'≠q0->Dj (some h.1) (some h'.1)/\Dj (some h.1) h'.2/\Dj h.2 (some h'.1)/\Dj h.2 h'.2
section
variable {X:Type} {d:PE X} {w w':World} {m:Nat} {hs:List (List UInt8 × PH)} {fs:List (List UInt8 × X)} {q0:Option (List UInt8)} {Q:Option Nat->Prop} {ps:List (Option Nat)} {row p:Option Nat} {q:List UInt8} {x x':X} {b:Nat} {r r':Option Nat}
theorem jc.uq (h:jc d w m hs fs q0):Uq hs:=by
 have:=h.map.uq
 unfold Uq mmap at *
 rw [List.map_map] at this
 exact this
theorem jc.some_iff (h:jc d w m hs fs q0) (q:List UInt8):(mget hs q).isSome=(mget fs q).isSome:=mget_keys h.keys q
theorem allFP (hu:Uq hs):AllP Q (FP m hs q0)↔Q (some m)/\∀ q h,mget hs q=some h->some q≠q0->Q (some h.1)/\Q h.2:=by
 constructor
 ·intro h
  refine ⟨h _ (List.Mem.head _),fun q k hk hq=>?_⟩
  have hm:=(mget_mem hu).1 hk
  have hf:(q,k)∈hs.filter fun h=>decide (some h.1≠q0):=List.mem_filter.2 ⟨hm,by simpa using hq⟩
  exact ⟨h _ (List.Mem.tail _ (List.mem_flatMap.2 ⟨_,hf,by simp⟩)),h _ (List.Mem.tail _ (List.mem_flatMap.2 ⟨_,hf,by simp⟩))⟩
 ·rintro ⟨h1,h2⟩ p hp
  cases hp with
  | head=>exact h1
  | tail _ hp =>
   obtain ⟨k,hk,hp⟩:=List.mem_flatMap.1 hp
   obtain ⟨hm,hq⟩:=List.mem_filter.1 hk
   have h3:=h2 k.1 k.2 ((mget_mem hu).2 hm) (by simpa using hq)
   simp only [List.mem_cons,List.not_mem_nil,or_false] at hp
   rcases hp with rfl | rfl
   ·exact h3.1
   ·exact h3.2
theorem jc.goL (h:jc d w m hs fs q0) (hg:GrL ps w w') (hd:AllP (fun r=>AllP (Dj r) (FP m hs q0)) ps):jc d w' m hs fs q0 :=
 ⟨h.map.goL hg fun p hp=>(((allFP h.uq).1 (hd p hp)).1).symm,h.keys,fun q k x hk hx hq=>d.goL (h.rel q k x hk hx hq) hg (fun p hp=>((((allFP h.uq).1 (hd p hp)).2 q k hk hq).1).symm) (fun p hp=>((((allFP h.uq).1 (hd p hp)).2 q k hk hq).2).symm),h.dm,h.dd⟩
theorem jc.go (h:jc d w m hs fs q0) (hg:w.grownBy w' row) (hd:AllP (Dj row) (FP m hs q0)):jc d w' m hs fs q0:=h.goL (GrL.of1 hg) (apC hd apN)
theorem jc.g0 (h:jc d w m hs fs q0) (hg:w.grownBy w' none):jc d w' m hs fs q0:=h.goL (ps:=[]) (GrL.of0 hg) apN
theorem jc.eqv (hw:Eqv w w') (h:jc d w m hs fs q0):jc d w' m hs fs q0:=h.g0 (jg (jr w none) hw)
theorem jc.lts (h:jc d w m hs fs q0) (hf:(∀ q,(mget hs q).isSome=(mget fs q).isSome)):AllP (fun p=>Lt p w.heap.size) (FP m hs q0):=(allFP h.uq).2 ⟨h.map.lt',fun q k hk hq=>by
 have h1:=hf q
 rw [hk,Option.isSome_some] at h1
 obtain ⟨x,hx⟩:=Option.isSome_iff_exists.1 h1.symm
 exact d.lt (h.rel q k x hk hx hq)⟩
theorem jc.lt' (h:jc d w m hs fs q0):AllP (fun p=>Lt p w.heap.size) (FP m hs q0):=h.lts h.some_iff
theorem jc.new (h:jc d w m hs fs q0) (hp:Ge p w.heap.size):AllP (Dj p) (FP m hs q0):=fun r hr=>(Dj.new (h.lt' r hr) hp).symm
theorem jc.inp (h:jc d w m hs fs q0) (hp:InP ps w.heap.size p) (hd:AllP (fun r=>AllP (Dj r) (FP m hs q0)) ps):AllP (Dj p) (FP m hs q0):=fun r hr=>InP.dj hp (h.lt' r hr) (fun s hs'=>(hd s hs' r hr).symm)
theorem jc.app {p':Option Nat} (h:jc d w m hs fs q0) (k:AllP (Dj p) (FP m hs q0)) (hk:∀ g,p'=some g->p=some g∨w.heap.size<=g):AllP (Dj p') (FP m hs q0):=fun r hr=>Dj.app (k r hr) (h.lt' r hr) hk
theorem jc.open (h:jc d w m hs fs none) (hx:mget fs q=some x):∃ b r,mget hs q=some (b,r)/\d.rel w (b,r) x/\jc d w m hs fs (some q)/\AllP (Dj (some b)) (FP m hs (some q))/\AllP (Dj r) (FP m hs (some q)):=by
 have h1:=h.some_iff q
 rw [hx,Option.isSome_some] at h1
 obtain ⟨⟨b,r⟩,hk⟩:=Option.isSome_iff_exists.1 h1
 have hm:=h.dm q _ hk (by simp)
 refine ⟨b,r,hk,h.rel q _ x hk hx (by simp),⟨h.map,h.keys,fun q' k y hk' hy _=>h.rel q' k y hk' hy (by simp),fun q' k hk' _=>h.dm q' k hk' (by simp),fun q' q2 k k2 hne hk' hk2 _ _=>h.dd q' q2 k k2 hne hk' hk2 (by simp) (by simp)⟩,?_,?_⟩
 ·refine (allFP h.uq).2 ⟨hm.1.symm,fun q' k hk' hq'=>?_⟩
  have:=h.dd q q' _ k (fun e=>hq' (by rw [e])) hk hk' (by simp) (by simp)
  exact ⟨this.1,this.2.1⟩
 ·refine (allFP h.uq).2 ⟨hm.2.symm,fun q' k hk' hq'=>?_⟩
  have:=h.dd q q' _ k (fun e=>hq' (by rw [e])) hk hk' (by simp) (by simp)
  exact ⟨this.2.2.1,this.2.2.2⟩
theorem jc.peek (h:jc d w m hs fs none) (hx:mget fs q=some x):∃ b r,mget hs q=some (b,r)/\d.rel w (b,r) x:=by
 obtain ⟨b,r,h1,h2,_⟩:=h.open hx
 exact ⟨b,r,h1,h2⟩
theorem jc.sub (h:jc d w m hs fs q0) (k:AllP Q (FP m hs none)):AllP Q (FP m hs (some q)):=(allFP h.uq).2 ⟨((allFP h.uq).1 k).1,fun q' k' hk' _=>((allFP h.uq).1 k).2 q' k' hk' (by simp)⟩
theorem jc.at1 (h:jc d w m hs fs q0) (hk:mget hs q=some (b,r)) (k:AllP Q (FP m hs none)):Q (some b):=(((allFP h.uq).1 k).2 q _ hk (by simp)).1
theorem jc.at2 (h:jc d w m hs fs q0) (hk:mget hs q=some (b,r)) (k:AllP Q (FP m hs none)):Q r:=(((allFP h.uq).1 k).2 q _ hk (by simp)).2
theorem jc.close (h:jc d w m hs fs (some q)) (hk:mget hs q=some (b,r)) (hr:d.rel w (b,r') x') (h1:AllP (Dj (some b)) (FP m hs (some q))) (h2:AllP (Dj r') (FP m hs (some q))):jc d w m (mput hs q (b,r')) (mput fs q x') none:=by
 have hu:=h.uq
 have hS:(mget fs q).isSome=true:=by rw [<-h.some_iff,hk]; rfl
 have h1':=(allFP hu).1 h1
 have h2':=(allFP hu).1 h2
 have old:∀ {q' k},mget (mput hs q (b,r')) q'=some k->(q'=q/\k=(b,r'))∨(some q'≠some q/\mget hs q'=some k):=fun {q' k} e=>by
  rw [Zv] at e
  split at e
  ·rename_i e2; simp only [Option.some.injEq] at e; exact .inl ⟨e2.symm,e.symm⟩
  ·rename_i e2; exact .inr ⟨fun e3=>e2 (Option.some.inj e3).symm,e⟩
 refine ⟨?_,?_,?_,?_,?_⟩
 ·obtain ⟨es,clock,hb,hst,hsz,hok,he⟩:=h.map
  refine ⟨es,clock,hb,hst,hsz,?_,?_⟩
  ·intro p hp
   obtain ⟨p',hp',rfl⟩:=List.mem_map.1 hp
   rcases mput_mem hp' with rfl | hp'
   ·exact hok (q,some (b,r)) (List.mem_map.2 ⟨_,(mget_mem hu).1 hk,rfl⟩)
   ·exact hok _ (List.mem_map.2 ⟨_,hp',rfl⟩)
  ·rw [he]
   unfold mmap
   rw [List.map_map,List.map_map]
   have:=mput_same (g:=fun k:PH=>vP (some k)) (v:=(b,r')) (u:=(b,r)) rfl hk
   have h3:=congrArg (List.map fun p=>(vs p.1,p.2)) this
   rw [List.map_map,List.map_map] at h3
   exact h3.symm
 ·rw [mput_keys,mput_keys,hk,hS]
  exact h.keys
 ·intro q' k x hk' hx _
  rw [Zv] at hx
  rcases old hk' with ⟨rfl,rfl⟩ | ⟨hq',hk'⟩
  ·rw [if_pos rfl] at hx
   cases hx; exact hr
  ·rw [if_neg (fun e=>hq' (by rw [e]))] at hx
   exact h.rel q' k x hk' hx hq'
 ·intro q' k hk' _
  rcases old hk' with ⟨rfl,rfl⟩ | ⟨hq',hk'⟩
  ·exact ⟨h1'.1.symm,h2'.1.symm⟩
  ·exact h.dm q' k hk' hq'
 ·intro q1 q2 k1 k2 hne hk1 hk2 _ _
  rcases old hk1 with ⟨rfl,rfl⟩ | ⟨hq1,hj1⟩ <;> rcases old hk2 with ⟨rfl,rfl⟩ | ⟨hq2,hj2⟩
  ·exact absurd rfl hne
  ·have a:=h1'.2 q2 k2 hj2 hq2
   have c:=h2'.2 q2 k2 hj2 hq2
   exact ⟨a.1,a.2,c.1,c.2⟩
  ·have a:=h1'.2 q1 k1 hj1 hq1
   have c:=h2'.2 q1 k1 hj1 hq1
   exact ⟨a.1.symm,c.1.symm,a.2.symm,c.2.symm⟩
  ·exact h.dd q1 q2 k1 k2 hne hj1 hj2 hq1 hq2
theorem jc.back (h:jc d w m hs fs (some q)) (hk:mget hs q=some (b,r)) (hx:mget fs q=some x) (hr:d.rel w (b,r) x) (h1:AllP (Dj (some b)) (FP m hs (some q))) (h2:AllP (Dj r) (FP m hs (some q))):jc d w m hs fs none:=by
 have hu:=h.uq
 have h1':=(allFP hu).1 h1
 have h2':=(allFP hu).1 h2
 refine ⟨h.map,h.keys,fun q' k y hk' hy _=>?_,fun q' k hk' _=>?_,fun q1 q2 k1 k2 hne hk1 hk2 _ _=>?_⟩
 ·by_cases e:q'=q
  ·subst e; rw [hk] at hk'; rw [hx] at hy; cases hk'; cases hy; exact hr
  ·exact h.rel q' k y hk' hy (fun e2=>e (Option.some.inj e2))
 ·by_cases e:q'=q
  ·subst e; rw [hk] at hk'; cases hk'; exact ⟨h1'.1.symm,h2'.1.symm⟩
  ·exact h.dm q' k hk' (fun e2=>e (Option.some.inj e2))
 ·by_cases e1:q1=q
  ·subst e1
   rw [hk] at hk1; cases hk1
   have e2:some q2≠some q1:=fun e=>hne (Option.some.inj e).symm
   have a:=h1'.2 q2 k2 hk2 e2
   have c:=h2'.2 q2 k2 hk2 e2
   exact ⟨a.1,a.2,c.1,c.2⟩
  ·by_cases e2:q2=q
   ·subst e2
    rw [hk] at hk2; cases hk2
    have e3:some q1≠some q2:=fun e=>hne (Option.some.inj e)
    have a:=h1'.2 q1 k1 hk1 e3
    have c:=h2'.2 q1 k1 hk1 e3
    exact ⟨a.1.symm,c.1.symm,a.2.symm,c.2.symm⟩
   ·exact h.dd q1 q2 k1 k2 hne hk1 hk2 (fun e=>e1 (Option.some.inj e)) (fun e=>e2 (Option.some.inj e))
theorem jc.backA (h:jc d w m hs fs q0) (hk:mget hs q=some (b,r)) (k:AllP Q (FP m hs (some q))) (k1:Q (some b)) (k2:Q r):AllP Q (FP m hs none):=by
 have hu:=h.uq
 refine (allFP hu).2 ⟨((allFP hu).1 k).1,fun q' k' hk' _=>?_⟩
 by_cases e:q'=q
 ·subst e; rw [hk] at hk'; cases hk'; exact ⟨k1,k2⟩
 ·exact ((allFP hu).1 k).2 q' k' hk' (fun e2=>e (Option.some.inj e2))
theorem jc.noats (h:jc d w m hs fs q0):AllP (NoAt w) (FP m hs q0):=(allFP h.uq).2 ⟨NoAt.map h.map,fun q k hk hq=>by
 have h1:=h.some_iff q
 rw [hk,Option.isSome_some] at h1
 obtain ⟨x,hx⟩:=Option.isSome_iff_exists.1 h1.symm
 exact d.noat (h.rel q k x hk hx hq)⟩
theorem jc.closeA (h:jc d w m hs fs q0) (k:AllP Q (FP m hs (some q))) (k1:Q (some b)) (k2:Q r'):AllP Q (FP m (mput hs q (b,r')) none):=by
 have hu:=h.uq
 refine (allFP (hu.put q _)).2 ⟨((allFP hu).1 k).1,fun q' k' hk' _=>?_⟩
 rw [Zv] at hk'
 split at hk'
 ·cases hk'; exact ⟨k1,k2⟩
 ·rename_i e
  exact ((allFP hu).1 k).2 q' k' hk' (fun e2=>e (Option.some.inj e2).symm)
theorem jc.putA (h:jc d w m hs fs none) (k:AllP Q (FP m hs none)) (k1:Q (some b)) (k2:Q r'):AllP Q (FP m (mput hs q (b,r')) none):=h.closeA (h.sub k) k1 k2
theorem jc.put (h:jc d w m hs fs none) (hM:MapB vs okS vP w' m (mput (mmap some hs) q (some (b,r)))) (hg:w.grownBy w' (some m)) (hr:d.rel w (b,r) x) (h1:AllP (Dj (some b)) (FP m hs none)) (h2:AllP (Dj r) (FP m hs none)):jc d w' m (mput hs q (b,r)) (mput fs q x) none:=by
 have hu:=h.uq
 have h1':=(allFP hu).1 h1
 have h2':=(allFP hu).1 h2
 have old:∀ {q' k},mget (mput hs q (b,r)) q'=some k->(q'=q/\k=(b,r))∨(q'≠q/\mget hs q'=some k):=fun {q' k} e=>by
  rw [Zv] at e
  split at e
  ·rename_i e2; simp only [Option.some.injEq] at e; exact .inl ⟨e2.symm,e.symm⟩
  ·rename_i e2; exact .inr ⟨fun e3=>e2 e3.symm,e⟩
 have hkeys:(mput hs q (b,r)).map (·.1)=(mput fs q x).map (·.1):=by
  rw [mput_keys,mput_keys,h.some_iff q,h.keys]
 rw [mput_mmap] at hM
 refine ⟨hM,hkeys,?_,?_,?_⟩
 ·intro q' k x0 hk' hx _
  rw [Zv] at hx
  rcases old hk' with ⟨rfl,rfl⟩ | ⟨hq',hk'⟩
  ·rw [if_pos rfl] at hx
   cases hx
   exact d.goL hr (GrL.of1 hg) (apC h1'.1 apN) (apC h2'.1 apN)
  ·rw [if_neg (fun e=>hq' e.symm)] at hx
   have hm:=h.dm q' k hk' (by simp)
   exact d.goL (h.rel q' k x0 hk' hx (by simp)) (GrL.of1 hg) (apC hm.1.symm apN) (apC hm.2.symm apN)
 ·intro q' k hk' _
  rcases old hk' with ⟨rfl,rfl⟩ | ⟨hq',hk'⟩
  ·exact ⟨h1'.1.symm,h2'.1.symm⟩
  ·exact h.dm q' k hk' (by simp)
 ·intro q1 q2 k1 k2 hne hk1 hk2 _ _
  rcases old hk1 with ⟨rfl,rfl⟩ | ⟨hq1,hj1⟩ <;> rcases old hk2 with ⟨rfl,rfl⟩ | ⟨hq2,hj2⟩
  ·exact absurd rfl hne
  ·have a:=h1'.2 q2 k2 hj2 (by simp)
   have c:=h2'.2 q2 k2 hj2 (by simp)
   exact ⟨a.1,a.2,c.1,c.2⟩
  ·have a:=h1'.2 q1 k1 hj1 (by simp)
   have c:=h2'.2 q1 k1 hj1 (by simp)
   exact ⟨a.1.symm,c.1.symm,a.2.symm,c.2.symm⟩
  ·exact h.dd q1 q2 k1 k2 hne hj1 hj2 (by simp) (by simp)
theorem jc.empty (d:PE X) (h:MapB vs okS vP w m ([]:List (List UInt8 × Option PH))):jc d w m [] [] none:=⟨h,rfl,fun q k x hk=>by simp [mget] at hk,fun q k hk=>by simp [mget] at hk,fun q q' k k' _ hk=>by simp [mget] at hk⟩
theorem FP.nil (h:Q (some m)):AllP Q (FP m [] q0):=by
 unfold FP
 exact apC h apN
variable {P:Program} {N:Nat} {L:jj} {ty t t' k e:TypeId} {pos:String} {af:Array Edge} {dd:Option Tmp} {y z u:Operand}
theorem qC (hK:KeyF P k vs okS) (ht:P.underlying t=some (.map k e)) (hz:∀ w,(zeroValue e).run P w=.ok (.pointer none) w) (hm:jc d w m hs fs q0) (hx:opv L y=some (.map (some m))) (hy:opv L z=some (vs q)) (hq:q.length<=maxLen) :
  Yld P N w ⟨dd,.lookup t y z false,ty,pos,af,none⟩ L (pq hs q):=by
 have:=Yld.look (P:=P) (N:=N) (ty:=ty) (pos:=pos) (af:=af) (dd:=dd) (z:=(none:Option PH)) hK ht hz hm.map hx hy hq
 rw [mget_mmap] at this
 have e:((mget hs q).map some).getD none=mget hs q:=by cases mget hs q <;> rfl
 rw [e] at this
 exact this
theorem pq_none (h:jc d w m hs fs q0) (q:List UInt8):pq hs q=.pointer none/\(mget fs q).isNone=true∨(∃ b,pq hs q=.pointer (some ⟨b,0,none⟩))/\(mget fs q).isNone=false:=by
 have h1:=h.some_iff q
 unfold pq vP
 cases e:mget hs q with
 | none =>
  rw [e] at h1
  refine .inl ⟨rfl,?_⟩
  cases f:mget fs q with
  | none=>rfl
  | some x=>rw [f] at h1; cases h1
 | some b =>
  rw [e] at h1
  refine .inr ⟨⟨b.1,rfl⟩,?_⟩
  cases f:mget fs q with
  | none=>rw [f] at h1; cases h1
  | some x=>rfl
theorem Yld.peqP {w0:World} (ht:P.underlying t=some (.pointer e)) (hm:jc d w0 m hs fs q0) (hx:opv L y=some (pq hs q)) (hy:opv L z=some (.pointer none)):Yld P N w ⟨dd,.binOp .eql t y z t',ty,pos,af,none⟩ L (.bool (mget fs q).isNone):=by
 rcases pq_none hm q with ⟨h1,h2⟩ | ⟨⟨b,h1⟩,h2⟩
 ·rw [h1] at hx; rw [h2]; exact qe ht hx hy
 ·rw [h1] at hx; rw [h2]; exact qe ht hx hy
theorem qu {p:Option Addr} (h:P.underlying t=some (.pointer e)) (hx:opv L y=some (.pointer p)) (hy:opv L z=some (.pointer none)):Yld P N w ⟨dd,.binOp .neq t y z t',ty,pos,af,none⟩ L (.bool p.isSome):=fun a w1 _ ha=>by
 refine kz (ha.ev hx) (ha.ev hy) (by unfold eqGuard; rfl) ?_
 have h:(Op.equal t (.pointer p) (.pointer none)).run P w1=.ok p.isNone w1:=jX fun d=>by
  cases p <;> simp [Op.equalIn,run_underlying h]
 simp [binOp,h]
theorem Yld.pneP {w0:World} (ht:P.underlying t=some (.pointer e)) (hm:jc d w0 m hs fs q0) (hx:opv L y=some (pq hs q)) (hy:opv L z=some (.pointer none)):Yld P N w ⟨dd,.binOp .neq t y z t',ty,pos,af,none⟩ L (.bool (mget fs q).isSome):=by
 have e:(mget fs q).isSome = !(mget fs q).isNone:=by cases mget fs q <;> rfl
 rcases pq_none hm q with ⟨h1,h2⟩ | ⟨⟨b,h1⟩,h2⟩
 ·rw [h1] at hx; rw [e,h2]; exact qu ht hx hy
 ·rw [h1] at hx; rw [e,h2]; exact qu ht hx hy
theorem qP {w0:World} (h:jc d w0 m hs fs q0) (hk:(mget fs q).isSome=true) (hx:opv L y=some (pq hs q)):Yld P N w ⟨dd,.nilCheck y,ty,pos,af,none⟩ L (pq hs q):=fun a w1 _ ha=>by
 rw [<-h.some_iff] at hk
 obtain ⟨⟨b,r⟩,hb⟩:=Option.isSome_iff_exists.1 hk
 rw [pq_some hb] at hx |-
 unfold execOp
 simp [ha.ev hx]
theorem qW {w0:World} {T:Tab} {fi o:Nat} {s:TypeId} {os:List Nat} (hT:T.Ok P) (h:jc d w0 m hs fs q0) (hk:(mget fs q).isSome=true) (hos:nk T.off s=some os) (ho:os[fi]? = some o) (hx:opv L y=some (pq hs q)) :
  Yld P N w ⟨dd,.fieldAddr s y fi,ty,pos,af,none⟩ L (pqo hs q o):=fun a w1 _ ha=>by
 rw [<-h.some_iff] at hk
 obtain ⟨⟨b,r⟩,hb⟩:=Option.isSome_iff_exists.1 hk
 rw [pq_some hb] at hx
 rw [pqo_some hb]
 obtain ⟨fs,hfs,hall⟩:=hT.off hos
 obtain ⟨fd,hfd,rfl,i,hi,hi0⟩:=hall _ _ ho
 unfold execOp
 simp [ha.ev hx,Instr.fieldAt,run_underlying hfs,hfd,Instr.sureAddr,fieldPlace,sizeOf,typeInfo,hi,hi0,Addr.add_mid]
theorem Yld.pld {T:Tab} {o:Nat} {z:X} {v:Value} {u0:Unit} (hT:T.Ok P) (h:jc d w m hs fs none) (hk:(mget fs q).isSome=true) (hs1:nk T.one t=some u0) (hx:opv L y=some (pqo hs q o)) (hi:d.isc o=true) (hv:d.sc ((mget fs q).getD z) o=v) :
  Yld P N w ⟨dd,.load t y,ty,pos,af,none⟩ L v:=by
 have hx':=getD_some (z:=z) hk
 obtain ⟨b,r,hb,hr⟩:=h.peek hx'
 rw [pqo_some hb] at hx
 exact Yld.cell hT ((d.hsc hi hr).trans (by rw [hv])) hs1 hx
theorem Ef0.poolPut (hK:KeyF P k vs okS) (ht:P.underlying t=some (.map k e)) (hm:jc d w m hs fs none) (hn:fs.length<maxLen) (hx:opv L y=some (.map (some m))) (hy:opv L z=some (vs q)) (hq:q.length<=maxLen) (hu:opv L u=some (.pointer (some ⟨b,0,none⟩))) (hr:d.rel w (b,r) x) (h1:AllP (Dj (some b)) (FP m hs none)) (h2:AllP (Dj r) (FP m hs none)) :
  Ef0 P N w ⟨none,.mapUpdate t y z u,ty,pos,af,none⟩ L fun w'=>jc d w' m (mput hs q (b,r)) (mput fs q x) none/\w.grownBy w' (some m):=by
 have hl:(mmap some hs).length<maxLen:=by
  have:=congrArg List.length hm.keys
  unfold mmap
  simp only [List.length_map] at this |-
  omega
 have:=Ef0.mapPut (P:=P) (N:=N) (ty:=ty) (pos:=pos) (af:=af) (fv:=vP) (v:=some (b,r)) hK ht hm.map hl hx hy hq hu
 intro a w1 hw ha
 obtain ⟨w',e1,h3,h4⟩:=this a w1 hw ha
 exact ⟨w',e1,hm.put h3 h4 hr h1 h2,h4⟩
end
end
 
section
open Go Go.RowKit Go.MapKept Go.ChangeMaps
theorem setB_same {w:World} {r:Nat} {o0:Obj} (h:w.heap[r]? = some o0) (o:Obj):(setBlock w r o).heap[r]? = some o:=by
 have:=(Array.getElem?_eq_some_iff.1 h).1
 simp [setBlock,this]
theorem setB_other {w:World} {r i:Nat} (o:Obj) (hi:i≠r):(setBlock w r o).heap[i]? = w.heap[i]? := by
 simp [setBlock,Array.getElem?_setIfInBounds,Ne.symm hi]
theorem filter_eraseIdx:∀ (l:List MapEntry) (i:Nat) (hi:i<l.length),(l.map (·.born)).Nodup->l.filter (fun x => !(x.born == l[i].born))=l.eraseIdx i
 | [],i,hi,_=>by simp at hi
 | x :: l,0,_,hn=>by
  have hn':=List.nodup_cons.1 hn
  simp only [List.getElem_cons_zero,List.eraseIdx_zero,List.tail_cons]
  rw [List.filter_cons,if_neg (by simp),List.filter_eq_self]
  intro y hy
  have:y.born≠x.born:=fun e=>hn'.1 (List.mem_map.2 ⟨y,hy,e⟩)
  simp [this]
 | x :: l,i+1,hi,hn=>by
  have hn':=List.nodup_cons.1 hn
  simp only [List.getElem_cons_succ,List.eraseIdx_cons_succ]
  have hi':i<l.length:=by simpa using hi
  have:x.born≠(l[i]).born:=fun e=>hn'.1 (List.mem_map.2 ⟨l[i],List.getElem_mem hi',e.symm⟩)
  rw [List.filter_cons,if_pos (by simp [this]),filter_eraseIdx l i hi' hn'.2]
section
variable {κ ν:Type} {P:Program} {k e t:TypeId} {fk:κ->Value} {ok:κ->Prop} {fv:ν->Value} {w w':World} {b r:Nat} {m todo:List (κ × ν)} {row:Option Nat} {ps:List (Option Nat)}
def RngB (fk:κ->Value) (fv:ν->Value) (w:World) (b r:Nat) (m todo:List (κ × ν)):Prop :=
 ∃ es clock since seen c0,w.heap[b]? = some (.map es clock)/\Stamped es clock/\es.toList.map (fun e=>(e.key,e.val))=m.map (fun p=>(fk p.1,fv p.2))/\w.heap[r]? = some (.mapIter (some b) since seen c0)/\(∀ x∈es.toList,x.born<since)/\since<=c0/\since<=clock /\
  (leftOf es seen).toList.map (fun e=>(e.key,e.val))=todo.map fun p=>(fk p.1,fv p.2)
theorem RngB.lt (h:RngB fk fv w b r m todo):r<w.heap.size:=by
 obtain ⟨_,_,_,_,_,_,_,_,hr,_⟩:=h
 exact (Array.getElem?_eq_some_iff.1 hr).1
theorem RngB.ltm (h:RngB fk fv w b r m todo):b<w.heap.size:=by
 obtain ⟨_,_,_,_,_,hb,_⟩:=h
 exact (Array.getElem?_eq_some_iff.1 hb).1
theorem RngB.lt' (h:RngB fk fv w b r m todo):Lt (some r) w.heap.size:=Lt.box h.lt
theorem RngB.goL (h:RngB fk fv w b r m todo) (hg:GrL ps w w') (h1:AllP (Dj (some r)) ps) (h2:AllP (Dj (some b)) ps):RngB fk fv w' b r m todo:=by
 have hlt:=h.lt
 have hltm:=h.ltm
 obtain ⟨es,clock,since,seen,c0,hb,hs,he,hr,rest⟩:=h
 exact ⟨es,clock,since,seen,c0,(hg.block b hltm (fun p hp e=>h2 p hp b rfl e)).trans hb,hs,he,(hg.block r hlt (fun p hp e=>h1 p hp r rfl e)).trans hr,rest⟩
theorem RngB.g0 (h:RngB fk fv w b r m todo) (hg:w.grownBy w' none):RngB fk fv w' b r m todo:=h.goL (ps:=[]) (GrL.of0 hg) apN apN
theorem RngB.go (h:RngB fk fv w b r m todo) (hg:w.grownBy w' row) (h1:Dj (some r) row) (h2:Dj (some b) row):RngB fk fv w' b r m todo:=h.goL (GrL.of1 hg) (apC h1 apN) (apC h2 apN)
theorem RngB.noat (h:RngB fk fv w b r m todo):NoAt w (some r):=fun g' us' hg' hB=>by
 cases hg'
 obtain ⟨_,_,_,_,_,_,_,_,hr,_⟩:=h
 unfold Bl at hB
 rw [hr] at hB
 cases hB
theorem RngB.eqv (hw:Eqv w w') (h:RngB fk fv w b r m todo):RngB fk fv w' b r m todo:=h.g0 (jg (jr w none) hw)
theorem RngB.start (h:MapB fk ok fv w b m) (ht:P.underlying t=some (.map k e)) :
  ∃ w',(Instr.range t (.map (some b))).run P w=.ok (.pointer (some ⟨w.heap.size,0,none⟩)) w'/\RngB fk fv w' b w.heap.size m m/\w.grownBy w' none:=by
 have hlt:=h.lt
 obtain ⟨es,clock,hb,hst,hsz,hok,he⟩:=h
 refine ⟨_,run_range_map w t k e b es clock ht hb,⟨es,clock,clock,#[],clock,((MapKept.heap_alloc w _).2 b hlt).trans hb,hst,he,(MapKept.heap_alloc w _).1,hst.1,Nat.le_refl _,Nat.le_refl _,?_⟩,World.grownBy_alloc w _ none⟩
 have:leftOf es #[]=es:=by unfold leftOf; exact Array.filter_eq_self.2 (fun x _=>by simp)
 rw [this,he]
def RngE (w:World) (r:Nat) (u v:Value):Prop:=∃ b es clock since seen x,w.heap[b]? = some (.map es clock)/\w.heap[r]? = some (.mapIter (some b) since (Array.push seen x.born) clock)/\x∈es.toList/\(es.toList.map (·.born)).Nodup/\x.key=u/\x.val=v
theorem RngE.eqv {u v:Value} (hw:Eqv w w') (h:RngE w r u v):RngE w' r u v:=by
 obtain ⟨b,es,clock,since,seen,x,h1,h2,h3⟩:=h
 exact ⟨b,es,clock,since,seen,x,by rw [hw.heap]; exact h1,by rw [hw.heap]; exact h2,h3⟩
theorem RngB.next (h:RngB fk fv w b r m todo) (ty:TypeId) :
  (todo=[]/\(Instr.next (.pointer (some ⟨r,0,none⟩)) false ty).run P w=.ok (.tuple #[.bool false]) w) ∨
  ∃ (i:Nat) (q:κ × ν) (w':World),todo[i]? = some q/\(Instr.next (.pointer (some ⟨r,0,none⟩)) false ty).run P w=.ok (.tuple #[.bool true,fk q.1,fv q.2]) w'/\RngB fk fv w' b r m (todo.eraseIdx i)/\w.grownBy w' (some r)/\RngE w' r (fk q.1) (fv q.2):=by
 have hlt:=h.lt
 obtain ⟨es,clock,since,seen,c0,hb,hst,he,hr,hold,hsc,hcl,htd⟩:=h
 rcases run_next_at (P:=P) w ty r b since c0 seen es clock hr hb hold hsc with ⟨h0,h1⟩ | ⟨x,hx,w1,hal,h1⟩
 ·refine .inl ⟨?_,h1⟩
  have:=congrArg List.length htd
  simp only [List.length_map,Array.length_toList,h0] at this
  exact List.eq_nil_of_length_eq_zero this.symm
 ·obtain ⟨i,hi,rfl⟩:=List.getElem_of_mem hx
  have hi2:i<todo.length:=by have:=congrArg List.length htd; simp only [List.length_map] at this; omega
  have hq:=congrArg (fun l=>l[i]?) htd
  simp only [List.getElem?_map,List.getElem?_eq_getElem hi,List.getElem?_eq_getElem hi2,Option.map_some,Option.some.injEq,Prod.mk.injEq] at hq
  have hne:r≠b:=fun e=>by rw [e,hb] at hr; cases hr
  have hr1:w1.heap[r]? = some (.mapIter (some b) since seen c0):=by rcases hal with rfl | rfl <;> exact hr
  have hb1:w1.heap[b]? = some (.map es clock):=by rcases hal with rfl | rfl <;> exact hb
  refine .inr ⟨i,todo[i],_,List.getElem?_eq_getElem hi2,by rw [<-hq.1,<-hq.2]; exact h1,⟨es,clock,since,seen.push _,clock,(setB_other _ (fun e=>hne e.symm)).trans hb1,hst,he,setB_same hr1 _,hold,hcl,hcl,?_⟩,?_,⟨b,es,clock,since,seen,_,(setB_other _ (fun e=>hne e.symm)).trans hb1,setB_same hr1 _,(mem_left hx).1,hst.2.1,hq.1,hq.2⟩⟩
  ·have hpush:∀ bn,(leftOf es (seen.push bn)).toList=(leftOf es seen).toList.filter (fun y => !(y.born == bn)):=fun bn=>by
    unfold leftOf
    rw [Array.toList_filter,Array.toList_filter,List.filter_filter]
    congr 1
    funext y
    rw [contains_push]
    cases seen.contains y.born <;> simp
   have hnd:((leftOf es seen).toList.map (·.born)).Nodup:=by
    have:=hst.2.1
    unfold leftOf
    rw [Array.toList_filter]
    exact this.sublist (List.Sublist.map _ List.filter_sublist)
   rw [hpush,filter_eraseIdx _ i hi hnd,map_eraseIdx,htd,map_eraseIdx]
  ·have hg1:w.grownBy w1 none:=by
    rcases hal with rfl | rfl
    ·exact jr _ _
    ·exact jg (jr _ _) ⟨rfl,rfl,rfl,rfl⟩
   refine ⟨hg1.os,hg1.tape,hg1.output,?_,fun j hj hjr=>?_⟩
   ·have:=hg1.size; simp [setBlock]; exact this
   ·rw [setB_other _ (fun e=>hjr (by rw [e]))]
    exact hg1.block j hj (by simp)
variable {N:Nat} {L:jj} {ty:TypeId} {pos:String} {af:Array Edge} {dd:Option Tmp} {x:Operand}
theorem Eff.range (hm:MapB fk ok fv w b m) (ht:P.underlying t=some (.map k e)) (hx:opv L x=some (.map (some b))):Eff P N w ⟨dd,.range t x,ty,pos,af,none⟩ L fun v w'=>v=.pointer (some ⟨w.heap.size,0,none⟩)/\RngB fk fv w' b w.heap.size m m/\w.grownBy w' none:=fun a w1 hw ha=>by
 obtain ⟨w',h1,h2,h3⟩:=RngB.start (P:=P) (MapB.eqv hw hm) ht
 rw [hw.heap] at h1 h2
 refine ⟨_,w',?_,rfl,h2,kh hw h3⟩
 unfold execOp
 simp [ha.ev hx,h1]
theorem Eff.next (hm:RngB fk fv w b r m todo) (hx:opv L x=some (.pointer (some ⟨r,0,none⟩))):Eff P N w ⟨dd,.next x false,ty,pos,af,none⟩ L fun v w'=>(todo=[]/\v=.tuple #[.bool false]/\RngB fk fv w' b r m todo/\w.grownBy w' none)∨∃ (i:Nat) (q:κ × ν),todo[i]? = some q/\v=.tuple #[.bool true,fk q.1,fv q.2]/\RngB fk fv w' b r m (todo.eraseIdx i)/\w.grownBy w' (some r)/\RngE w' r (fk q.1) (fv q.2):=fun a w1 hw ha=>by
 rcases RngB.next (P:=P) (hm.eqv hw) ty with ⟨h0,h1⟩ | ⟨i,q,w',h0,h1,h2,h3,h4⟩
 ·refine ⟨_,w1,?_,.inl ⟨h0,rfl,hm.eqv hw,jg (jr _ _) hw⟩⟩
  unfold execOp
  simp [ha.ev hx,h1]
 ·refine ⟨_,w',?_,.inr ⟨i,q,h0,rfl,h2,kh hw h3,h4⟩⟩
  unfold execOp
  simp [ha.ev hx,h1]
end
section
variable {P:Program} {w:World} {r:Nat} {u v:Value} {N:Nat} {L:jj} {ty:TypeId} {pos:String} {af:Array Edge} {dd:Option Tmp} {x:Operand}
theorem Yld.entry (h:RngE w r u v) (hx:opv L x=some (.pointer (some ⟨r,0,none⟩))):Yld P N w ⟨dd,.entry x,ty,pos,af,none⟩ L (.tuple #[u,v]):=fun a w1 hw ha=>by
 obtain ⟨b,es,clock,since,seen,y,h1,h2,h3,h4,rfl,rfl⟩:=h.eqv hw
 unfold execOp
 simp [ha.ev hx,run_entry_at w1 r b since seen es clock y h2 h1 h3 h4]
end
section
variable {X:Type} {d:PE X} {w w':World} {m r:Nat} {hs:List (List UInt8 × PH)} {fs:List (List UInt8 × X)} {q0:Option (List UInt8)} {ks:List (List UInt8)} {row:Option Nat} {ps:List (Option Nat)}
def RngP (w:World) (m r:Nat) (hs:List (List UInt8 × PH)) (ks:List (List UInt8)):Prop:=∃ todo:List (List UInt8 × Option PH),RngB vs vP w m r (mmap some hs) todo/\ks=todo.map (·.1)/\∀ p∈todo,p∈mmap some hs
theorem RngP.lt' (h:RngP w m r hs ks):Lt (some r) w.heap.size:=h.elim fun _ h=>h.1.lt'
theorem RngP.g0 (h:RngP w m r hs ks) (hg:w.grownBy w' none):RngP w' m r hs ks:=h.elim fun t h=>⟨t,h.1.g0 hg,h.2⟩
theorem RngP.go (h:RngP w m r hs ks) (hg:w.grownBy w' row) (h1:Dj (some r) row) (h2:Dj (some m) row):RngP w' m r hs ks:=h.elim fun t h=>⟨t,h.1.go hg h1 h2,h.2⟩
theorem RngP.noat (h:RngP w m r hs ks):NoAt w (some r):=h.elim fun _ h=>h.1.noat
theorem RngP.goL (h:RngP w m r hs ks) (hg:GrL ps w w') (h1:AllP (Dj (some r)) ps) (h2:AllP (Dj (some m)) ps):RngP w' m r hs ks:=h.elim fun t h=>⟨t,h.1.goL hg h1 h2,h.2⟩
variable {P:Program} {k e t:TypeId} {N:Nat} {L:jj} {ty:TypeId} {pos:String} {af:Array Edge} {dd:Option Tmp} {x:Operand}
theorem Eff.rangeP (hm:jc d w m hs fs q0) (ht:P.underlying t=some (.map k e)) (hx:opv L x=some (.map (some m))):Eff P N w ⟨dd,.range t x,ty,pos,af,none⟩ L fun v w'=>v=.pointer (some ⟨w.heap.size,0,none⟩)/\RngP w' m w.heap.size hs (fs.map (·.1))/\w.grownBy w' none :=
 fun a w1 hw ha=>by
  obtain ⟨v,w',h1,h2,h3,h4⟩:=Eff.range (P:=P) (N:=N) (ty:=ty) (pos:=pos) (af:=af) (dd:=dd) hm.map ht hx a w1 hw ha
  exact ⟨v,w',h1,h2,⟨_,h3,by rw [<-hm.keys]; unfold mmap; rw [List.map_map]; rfl,fun p hp=>hp⟩,h4⟩
theorem Eff.nextP (hm:RngP w m r hs ks) (hu:Uq hs) (hx:opv L x=some (.pointer (some ⟨r,0,none⟩))):Eff P N w ⟨dd,.next x false,ty,pos,af,none⟩ L fun v w'=>(ks=[]/\v=.tuple #[.bool false]/\RngP w' m r hs ks/\w.grownBy w' none)∨∃ (i:Nat) (q:List UInt8),ks[i]? = some q/\v=.tuple #[.bool true,vs q,pq hs q]/\(mget hs q).isSome=true/\RngP w' m r hs (ks.eraseIdx i)/\w.grownBy w' (some r)/\RngE w' r (vs q) (pq hs q):=by
 obtain ⟨todo,h1,rfl,h3⟩:=hm
 refine fun a w1 hw ha=>?_
 obtain ⟨v,w',e1,h⟩:=Eff.next (P:=P) (N:=N) (ty:=ty) (pos:=pos) (af:=af) (dd:=dd) h1 hx a w1 hw ha
 refine ⟨v,w',e1,?_⟩
 rcases h with ⟨h4,h5,h6,h7⟩ | ⟨i,q,h4,h5,h6,h7,h8⟩
 ·exact .inl ⟨by rw [h4]; rfl,h5,⟨todo,h6,rfl,h3⟩,h7⟩
 ·have hq:=h3 q (List.mem_of_getElem? h4)
  obtain ⟨p,hp,rfl⟩:=List.mem_map.1 hq
  have hg:mget hs p.1=some p.2:=(mget_mem hu).2 hp
  refine .inr ⟨i,p.1,by rw [List.getElem?_map,h4]; rfl,?_,by rw [hg]; rfl,⟨todo.eraseIdx i,h6,by rw [map_eraseIdx],fun p' hp'=>h3 p' (List.mem_of_mem_eraseIdx hp')⟩,h7,?_⟩
  ·rw [h5]
   unfold pq
   rw [hg]
  ·unfold pq
   rw [hg]
   exact h8
end
end
 
section
open Go Go.RowKit
def enc42 (x:Int × Int × Int × List UInt8):List Value:=[.int .i64 x.1,.int .i64 x.2.1,.int .i64 x.2.2.1,vs x.2.2.2]
theorem enc42_ok:OneK 4 enc42:=⟨by omega,fun _=>rfl,fun _=>(jd rfl (jd rfl (jd rfl (jd rfl kg))))⟩
def enc30 (x:List UInt8 × List UInt8):List Value:=[vs x.1,vs x.2]
theorem kU:OneK 2 enc30:=⟨by omega,fun _=>rfl,fun _=>(jd rfl (jd rfl kg))⟩
def jv (x:List UInt8 × List UInt8):List Value:=a32 x.1++a32 x.2
theorem Zi:OneK 64 jv:=⟨by omega,fun _=>rfl,fun _=>(all1a (jq _) (jq _))⟩
def enc97 (x:List UInt8 × List UInt8):List Value:=a32 x.1++a32 x.2
theorem enc97_ok:OneK 64 enc97:=⟨by omega,fun _=>rfl,fun _=>(all1a (jq _) (jq _))⟩
def enc130 (x:Int × List UInt8):List Value:=[.int .i64 x.1,vs x.2]
theorem enc130_ok:OneK 2 enc130:=⟨by omega,fun _=>rfl,fun _=>(jd rfl (jd rfl kg))⟩
def jw (x:Bool × List UInt8 × Int):List Value:=[.bool x.1,vs x.2.1,.int .i64 x.2.2]
theorem enc127_ok:OneK 3 jw:=⟨by omega,fun _=>rfl,fun _=>(jd rfl (jd rfl (jd rfl kg)))⟩
theorem ow34:ckOwK Tryz.prog 34 30 2 32=true:=by kernel_rfl
theorem ow64:ckOwK Tryz.prog 64 104 64 64=true:=by kernel_rfl
theorem ow68:ckOwK Tryz.prog 68 97 64 64=true:=by kernel_rfl
theorem ow84:ckOwK Tryz.prog 84 130 2 24=true:=by kernel_rfl
theorem ow87:ckOwK Tryz.prog 87 127 3 32=true:=by kernel_rfl
end
 
section
open Go Go.RowKit
abbrev Fil:=List UInt8 × Bool × List UInt8 × Bool × List (Int × List UInt8)
def pe86:PE Fil where
 rel w h x:=∃ A c,blk A=h.2/\Bl w h.1 86 [vs x.1,.bool x.2.1,vs x.2.2.1,.bool x.2.2.2.1,.slice A x.2.2.2.2.length c]/\OwnK 2 enc130 w 0 130 A c x.2.2.2.2/\Dj (some h.1) (blk A)
 goL h hg h1 h2:=by
  obtain ⟨A,c,e,hB,hO,hd⟩:=h
  exact ⟨A,c,e,hB.goL hg h1,hO.goL hg (by rw [e]; exact h2),hd⟩
 lt h:=by
  obtain ⟨A,c,e,hB,hO,hd⟩:=h
  exact ⟨hB.lt',by rw [<-e]; exact hO.lt'⟩
 isc o:=decide (o<4)
 sc x o:=match o with
  | 0=>vs x.1
  | 1=>.bool x.2.1
  | 2=>vs x.2.2.1
  | _=>.bool x.2.2.2.1
 hsc hi h:=by
  obtain ⟨A,c,e,hB,hO,hd⟩:=h
  rename_i o
  have ho:o<4:=of_decide_eq_true hi
  match o,ho with
  | 0,_=>exact hB.cell 0
  | 1,_=>exact hB.cell 1
  | 2,_=>exact hB.cell 2
  | 3,_=>exact hB.cell 3
 noat h:=by
  obtain ⟨A,c,e,hB,hO,hd⟩:=h
  exact ⟨NoAt.bl hB rfl,by rw [<-e]; exact NoAt.ownK hO rfl⟩
end
 end Go.Proofs.YtafpeckmdjplnaaGreatDoor

namespace Go.Proofs
open Go.Shelf
def Tryz.keysit84_ren:Go.Shelf.Ren:=⟨fun | 10=>84 | n=>n,fun | 33=>82 | 23=>79 | 0=>0 | 4=>4 | 26=>9 | 3=>83 | n=>n,fun | n=>n⟩
theorem Tryz.keysit84:Go.Proofs.SlLaysZ.n10 Tryz.prog Tryz.keysit84_ren:={
 mixed:=by kernel_rfl
 f10:=⟨Tryz.f84.name,by decide,Tryz.func84.trans (congrArg some (by kernel_rfl))⟩
 t0:=Tryz.underlying0
 a0:=Tryz.isAgg0
 z0:=Tryz.sizeOf0
 v0:=Tryz.zeroValue0
 t4:=Tryz.underlying4
 a4:=Tryz.isAgg4
 z4:=Tryz.sizeOf4
 v4:=Tryz.zeroValue4
 t23:=Tryz.underlying79
 a23:=Tryz.isAgg79
 z23:=Tryz.sizeOf79
 v23:=Tryz.zeroValue79
 t26:=Tryz.underlying9
 a26:=Tryz.isAgg9
 z26:=Tryz.sizeOf9
 v26:=Tryz.zeroValue9
 t33:=Tryz.underlying82
 a33:=Tryz.isAgg82
 z33:=Tryz.sizeOf82
 v33:=Tryz.zeroValue82 }
end Go.Proofs
 
namespace Go.Proofs.YtafpeckmdjplnaaGreatDoor

section
open Go Go.RowKit Go.Proofs Go.Maps Go.Sort Go.Shelf
def rdum:Value->Option (DataW Unit × List MemPlace):=fun _=>some (.nil,[])
theorem strKeys_pool {X:Type} {d:PE X} {w:World} {m:Nat} {hs:List (List UInt8 × PH)} {fs:List (List UInt8 × X)} {q0:Option (List UInt8)} {P:Program} {k:TypeId} (hk:P.underlying k=some .string) (h:jc d w m hs fs q0) :
  ∃ D:DataW Unit,w.ownsMap P k rdum m fs.length D/\(strKeys D).Perm (fs.map (·.1))/\Maps.size D=fs.length:=by
 obtain ⟨es,clock,hb,hst,hsz,hok,he⟩:=h.map
 have hlen:es.toList.length=fs.length:=by
  have h1:=congrArg List.length he
  have h2:=congrArg List.length h.keys
  simp only [List.length_map,mmap] at h1 h2
  omega
 have hkey:∀ x∈es.toList,∃ q:List UInt8,x.key=vs q/\q.length<=maxLen:=fun x hx=>by
  obtain ⟨j,hj,rfl⟩:=List.getElem_of_mem hx
  have h1:=congrArg (fun l=>l[j]?) he
  simp only [List.getElem?_map,List.getElem?_eq_getElem hj,Option.map_some] at h1
  obtain ⟨p,hp,hpe⟩:=Option.map_eq_some_iff.1 h1.symm
  exact ⟨p.1,(congrArg Prod.fst hpe).symm,hok p (List.mem_of_getElem? hp)⟩
 have hrd:∀ x∈es.toList,∃ q:List UInt8,x.key=vs q/\Go.WideElems.rd P k rdum x=some (.string q,.nil):=fun x hx=>by
  obtain ⟨q,hq,hl⟩:=hkey x hx
  refine ⟨q,hq,?_⟩
  unfold Go.WideElems.rd rdum
  rw [hq]
  have:=Go.WideMaps.keyOf_string_mk hk (s:=⟨⟨q⟩⟩) hl
  unfold vs
  rw [this]
  rfl
 have F:Go.WideElems.Fit P k rdum es clock:=⟨hsz,hst,fun x hx=>by
  obtain ⟨q,_,h2⟩:=hrd x hx
  exact ⟨_,h2⟩⟩
 refine ⟨_,⟨es,clock,hb,F,by simp at hlen; omega,rfl⟩,?_,?_⟩
 ·unfold strKeys
  refine ((Go.WideShapes.sorted_perm _).map _).trans ?_
  rw [List.map_map]
  have e1:es.toList.map ((fun p:Lit × DataW Unit=>strOf p.1) ∘ Go.WideElems.rg P k rdum)=fs.map (·.1):=by
   have e2:(es.toList.map (·.key))=(fs.map (·.1)).map vs:=by
    have h1:=congrArg (List.map Prod.fst) he
    rw [List.map_map,List.map_map] at h1
    rw [<-h.keys,List.map_map]
    simpa [mmap,Function.comp_def] using h1
   have e3:es.toList.map (·.key)=(es.toList.map ((fun p:Lit × DataW Unit=>strOf p.1) ∘ Go.WideElems.rg P k rdum)).map vs:=by
    rw [List.map_map]
    refine List.map_congr_left fun x hx=>?_
    obtain ⟨q,h1,h2⟩:=hrd x hx
    simp only [Function.comp_def,Go.WideElems.rg,h2,Option.getD_some,strOf]
    exact h1
   rw [e3] at e2
   exact List.map_inj_right (fun a b h=>by unfold vs at h; injection h with h; injection h with h; injection h with h) |>.1 e2
  rw [e1]
 ·simp only [Maps.size,length_sorted,List.length_map]
  exact hlen
theorem sortsHereP (m:Nat):AnyZ.SortsIn Tryz.prog Tryz.sorted56_ren Fence.wide m :=
 ⟨fun b o cap ss W hH hb hsz=>callsIn_wide.2 (Tryz.slices_Sort_string b o cap ss W hH hb hsz),fun p cap W=>callsIn_wide.2 (Tryz.slices_Sort_string_none p cap W)⟩
theorem sortedKeys_fn {w:World} {m g:Nat} {hs:List (List UInt8 × PH)} {fs:List (List UInt8 × Fil)} (hM:jc pe86 w m hs fs none) (hB:Bl w g 79 [.map (some m)]) (hl:fs.length<=1000000000) :
  Fn Tryz.prog 56 ⟨[.func (.func 84) #[] #[.pointer (some ⟨g,0,none⟩)]]⟩ w fun v w'=>∃ A' c',v=.slice A' fs.length c'/\Own vs w' w.heap.size 9 A' c' ((fs.map (·.1)).mergeSort fun x y=>decide (x<=y))/\w.grownBy w' none:=by
 refine ⟨by kernel_rfl,fun w1 e=>?_⟩
 have hM1:=hM.eqv e
 have hB1:Bl w1 g 79 [.map (some m)]:=ji e hB
 have hlt:=hB1.lt
 obtain ⟨D,hown,hperm,hsize⟩:=strKeys_pool (P:=Tryz.prog) (k:=9) (by kernel_rfl) hM1
 have hg:=AnyZ.keys_gives Tryz.keysit84 Fence.wide (5 - 1 - 1 - 1) trivial rfl (by omega) g m fs.length D w1 hlt (by rw [hB1.cell]; rfl) hown
 rw [hsize] at hg
 have h:=callsIn_wide.1 (AnyZ.sorted_in (Tryz.sorted56) Fence.wide 5 trivial trivial trivial trivial rfl (by omega) (sortsHereP _) (enters_of Tryz.func83 (by kernel_rfl) rfl) 84 #[.pointer (some ⟨g,0,none⟩)] trivial (enters_of Tryz.func84 (by kernel_rfl) rfl) _ fs.length (by simp only [maxLen]; omega) (by omega) w1 hg)
 refine h.mono ?_
 rintro _ w' ⟨v,ss,rfl,hS,hrow,_,hb⟩
 have hss:ss.Perm (fs.map (·.1)):=hS.trans hperm
 have hlen:ss.length=fs.length:=by rw [hss.length_eq,List.length_map]
 have hsort:(ss.mergeSort fun x y=>decide (x<=y))=(fs.map (·.1)).mergeSort fun x y=>decide (x<=y):=mergeSort_of_perm hss
 have hg2:w.grownBy w' none:=kh e (gr_below hb none)
 have hO:∃ A' c',v=.slice A' fs.length c':=by
  rcases hrow.2 with ⟨rfl,hz⟩ | ⟨gb,cap,cur,rfl,_⟩
  ·exact ⟨none,0,by rw [<-hlen,hz]⟩
  ·exact ⟨_,_,by rw [hlen]⟩
 obtain ⟨A',c',rfl⟩:=hO
 refine ⟨_,w',rfl,Eqv.refl _,A',c',rfl,?_,hg2⟩
 unfold Own
 rw [hlen,hsort] at hrow
 rw [List.length_mergeSort,List.length_map,<-e.heap]
 exact hrow
theorem keysBox_fn {w:World} {m:Nat}:Fn Tryz.prog 57 ⟨[.map (some m)]⟩ w fun v w'=>∃ g,v=.func (.func 84) #[] #[.pointer (some ⟨g,0,none⟩)]/\Bl w' g 79 [.map (some m)]/\w.grownBy w' none/\w.heap.size<=g:=by
 refine Fn.enter (by kernel_rfl) Tryz.func57 rfl Tryz.ntmps57 rfl ?_
 refine zd ?_
 refine zb ?_
 refine qm (us:=[.map (some m)]) rfl rfl rfl (fun g w1 hB1 hg1 hl1=>?_)
 refine zg rfl (zc qY rfl) ?_
 refine zf (za ?_)
 refine zd ?_
 refine zb ?_
 refine zg rfl (Yld.mkf rfl) ?_
 refine zg rfl (zc qY rfl) ?_
 refine zf (za ?_)
 refine zq ?_
 exact zw rfl rfl ⟨g,rfl,hB1,hg1,hl1⟩
def jm (fs:List (List UInt8 × Fil)) (K:List (List UInt8)->Prop):Prop:=fs.length<=1000000000/\K ((fs.map (·.1)).mergeSort fun x y=>decide (x<=y))
theorem jK {w:World} {m g:Nat} {hs:List (List UInt8 × PH)} {fs:List (List UInt8 × Fil)} {K:List (List UInt8)->Prop} (hM:jc pe86 w m hs fs none) (hB:Bl w g 79 [.map (some m)]) (H:jm fs K) :
  Fn Tryz.prog 56 ⟨[.func (.func 84) #[] #[.pointer (some ⟨g,0,none⟩)]]⟩ w (fun v w'=>w.grownBy w' none/\∃ (r:List (List UInt8)) (A:Option Addr) (c:Nat),v=.slice A r.length c/\Own vs w' w.heap.size 9 A c r/\K r):=by
 refine (sortedKeys_fn hM hB H.1).mono ?_
 rintro v w' ⟨A',c',rfl,hO,hg⟩
 exact ⟨hg,_,A',c',by rw [List.length_mergeSort,List.length_map],hO,H.2⟩
end
 
section
open Go Go.RowKit
attribute [local irreducible] WL WC WX WQ WK WJ Yld Eff Ef0 Fn
def kd (d_files:List (List UInt8 × List UInt8 × Bool × List UInt8 × Bool × List (Int × List UInt8))) (d_ops:Int) (d_left:Int) (d_down:Bool) (K:Er->(List (List UInt8 × List UInt8 × Bool × List UInt8 × Bool × List (Int × List UInt8)))->Int->Int->Bool->Prop):Prop :=
 ((d_down=true->K (Er.e 15) d_files d_ops d_left d_down) /\
 (d_down=false->(In .i64 (d_ops+(1:Int))) /\
 ∃ J1:Int->Prop,((((0:Int)<d_left->(In .i64 (d_left - (1:Int))) /\
 (((d_left - (1:Int))=(0:Int)->K (Er.e 15) d_files (d_ops+(1:Int)) (d_left - (1:Int)) true) /\
 (¬ ((d_left - (1:Int))=(0:Int))->J1 (d_left - (1:Int))))) /\
 (¬ ((0:Int)<d_left)->J1 d_left))) /\
 (∀ d2:Int,J1 d2->K Er.ok d_files (d_ops+(1:Int)) d2 d_down)))
def kO (f_text:List UInt8) (f_is:Bool) (_:List UInt8) (_:Bool) (f_since:List (Int × List UInt8)) (K:(List UInt8)->Bool->(List UInt8)->Bool->(List (Int × List UInt8))->Prop):Prop :=
 (f_since.length<=maxLen ->
 K f_text f_is f_text f_is [])
def Zj (_:List UInt8) (_:Bool) (f_synced:List UInt8) (f_was:Bool) (f_since:List (Int × List UInt8)) (keep:Int) (cut:Int) (K:(List UInt8)->Bool->(List UInt8)->Bool->(List (Int × List UInt8))->Prop):Prop :=
 (f_since.length<=maxLen ->
 Lp3 (fun (t28:Int) (f0:List UInt8) (f1:Bool) kont1=>((t28<(f_since.length:Int)->∃ J1:(List UInt8)->Bool->Prop,((0<=t28/\t28<(f_since.length:Nat)) /\
 ((keep<=t28->∃ J2:(List UInt8)->Bool->Prop,((In .i64 ((((f_since.getD t28.toNat (0,[])).2).length:Int) - (1:Int))) /\
 ((((decide (((f_since.getD t28.toNat (0,[])).1)=(1:Int))) && (decide ((0:Int)<(if ((((f_since.getD t28.toNat (0,[])).2).length:Int) - (1:Int))<cut then (((f_since.getD t28.toNat (0,[])).2).length:Int) - (1:Int) else cut))))=true->(0<=(if ((((f_since.getD t28.toNat (0,[])).2).length:Int) - (1:Int))<cut then (((f_since.getD t28.toNat (0,[])).2).length:Int) - (1:Int) else cut)/\(if ((((f_since.getD t28.toNat (0,[])).2).length:Int) - (1:Int))<cut then (((f_since.getD t28.toNat (0,[])).2).length:Int) - (1:Int) else cut)<=((f_since.getD t28.toNat (0,[])).2).length) /\
 (f0.length+(((f_since.getD t28.toNat (0,[])).2).take (if ((((f_since.getD t28.toNat (0,[])).2).length:Int) - (1:Int))<cut then (((f_since.getD t28.toNat (0,[])).2).length:Int) - (1:Int) else cut).toNat).length<=9223372036854775807) /\
 J2 (f0++(((f_since.getD t28.toNat (0,[])).2).take (if ((((f_since.getD t28.toNat (0,[])).2).length:Int) - (1:Int))<cut then (((f_since.getD t28.toNat (0,[])).2).length:Int) - (1:Int) else cut).toNat)) true) /\
 (((decide (((f_since.getD t28.toNat (0,[])).1)=(1:Int))) && (decide ((0:Int)<(if ((((f_since.getD t28.toNat (0,[])).2).length:Int) - (1:Int))<cut then (((f_since.getD t28.toNat (0,[])).2).length:Int) - (1:Int) else cut))))=false->J2 f0 f1))) /\
 (∀ f03:List UInt8,∀ f13:Bool,J2 f03 f13->K f03 f13 f_synced f_was f_since)) /\
 (¬ (keep<=t28)->((((f_since.getD t28.toNat (0,[])).1)=(0:Int)->J1 ((f_since.getD t28.toNat (0,[])).2) true) /\
 (¬ (((f_since.getD t28.toNat (0,[])).1)=(0:Int))->((((f_since.getD t28.toNat (0,[])).1)=(1:Int)->(f0.length+((f_since.getD t28.toNat (0,[])).2).length<=9223372036854775807) /\
 J1 (f0++((f_since.getD t28.toNat (0,[])).2)) true) /\
 (¬ (((f_since.getD t28.toNat (0,[])).1)=(1:Int))->J1 ([]:List UInt8) false))))))) /\
 (∀ f02:List UInt8,∀ f12:Bool,J1 f02 f12->(In .i64 (t28+(1:Int))) /\
 kont1 (t28+(1:Int)) f02 f12)) /\
 (¬ (t28<(f_since.length:Int))->K f0 f1 f_synced f_was f_since))) (0:Int) f_synced f_was)
def j1 (d_files:List (List UInt8 × List UInt8 × Bool × List UInt8 × Bool × List (Int × List UInt8))) (_:Int) (_:Int) (_:Bool) (p:List UInt8) (K:Bool->Prop):Prop :=
 (p.length<=maxLen) /\
 (((mget d_files p).isSome)=true->(p.length<=maxLen)) /\
 (((mget d_files p).isSome)=true->((mget d_files p).isSome=true)) /\
 K (((mget d_files p).isSome) && (((mget d_files p).getD ([],false,[],false,[])).2.1))
def Za (d_files:List (List UInt8 × List UInt8 × Bool × List UInt8 × Bool × List (Int × List UInt8))) (d_ops:Int) (d_left:Int) (d_down:Bool) (p:List UInt8) (K:(List (List UInt8 × List UInt8 × Bool × List UInt8 × Bool × List (Int × List UInt8)))->Int->Int->Bool->Prop):Prop :=
 ∃ J1:(List (List UInt8 × List UInt8 × Bool × List UInt8 × Bool × List (Int × List UInt8)))->Prop,((p.length<=maxLen) /\
 ((((mget d_files p).isNone)=true->(p.length<=maxLen/\d_files.length<maxLen) /\
 J1 (mput d_files p (([]:List UInt8),false,([]:List UInt8),false,[]))) /\
 (((mget d_files p).isNone)=false->J1 d_files))) /\
 (∀ d0:List (List UInt8 × List UInt8 × Bool × List UInt8 × Bool × List (Int × List UInt8)),J1 d0->(p.length<=maxLen) /\
 K d0 d_ops d_left d_down)
def M_pdisk_Disk_Ops (_:List (List UInt8 × List UInt8 × Bool × List UInt8 × Bool × List (Int × List UInt8))) (d_ops:Int) (_:Int) (_:Bool) (K:Int->Prop):Prop :=
 K d_ops
def M_pdisk_Disk_Down (_:List (List UInt8 × List UInt8 × Bool × List UInt8 × Bool × List (Int × List UInt8))) (_:Int) (_:Int) (d_down:Bool) (K:Bool->Prop):Prop :=
 K d_down
def Zr (d_files:List (List UInt8 × List UInt8 × Bool × List UInt8 × Bool × List (Int × List UInt8))) (d_ops:Int) (_:Int) (d_down:Bool) (n:Int) (K:(List (List UInt8 × List UInt8 × Bool × List UInt8 × Bool × List (Int × List UInt8)))->Int->Int->Bool->Prop):Prop :=
 K d_files d_ops (if n<(0:Int) then (0:Int) else n) d_down
def jU (d_files:List (List UInt8 × List UInt8 × Bool × List UInt8 × Bool × List (Int × List UInt8))) (d_ops:Int) (d_left:Int) (d_down:Bool) (p:List UInt8) (K:(List UInt8)->Bool->Er->(List (List UInt8 × List UInt8 × Bool × List UInt8 × Bool × List (Int × List UInt8)))->Int->Int->Bool->Prop):Prop :=
 kd d_files d_ops d_left d_down (fun (err:Er) (d_:List (List UInt8 × List UInt8 × Bool × List UInt8 × Bool × List (Int × List UInt8))) (d_2:Int) (d_3:Int) (d_4:Bool) =>
 ∃ J1:Bool->Prop,((((!decide (err=Er.ok))=true->J1 true) /\
 ((!decide (err=Er.ok))=false->j1 d_ d_2 d_3 d_4 p (fun (t15:Bool) =>
 J1 (!t15))))) /\
 (∀ q1:Bool,J1 q1->((q1=true->K ([]:List UInt8) false err d_ d_2 d_3 d_4) /\
 (q1=false->(p.length<=maxLen) /\
 ((mget d_ p).isSome=true) /\
 K (((mget d_ p).getD ([],false,[],false,[])).1) true Er.ok d_ d_2 d_3 d_4))))
def ku (d_files:List (List UInt8 × List UInt8 × Bool × List UInt8 × Bool × List (Int × List UInt8))) (_:Int) (_:Int) (_:Bool) (K:(List (List UInt8))->Prop):Prop :=
 Lp2 (fun (l:List (List UInt8)) (left:List (List UInt8)) kont1=>((left=[]->Zk l (fun (ys:List (List UInt8)) =>
 K ys)) /\
 (∀ (ix:Nat) (key:List UInt8),left[ix]? = some key->((mget d_files key).isSome=true) /\
 (((((mget d_files key).getD ([],false,[],false,[])).2.1)=true->((l.length+(([key]:List (List UInt8))).length)*16<=140737488355328) /\
 kont1 (l++([key]:List (List UInt8))) (left.eraseIdx ix)) /\
 ((((mget d_files key).getD ([],false,[],false,[])).2.1)=false->kont1 l (left.eraseIdx ix)))))) [] (d_files.map (·.1))
def kZ (d_files:List (List UInt8 × List UInt8 × Bool × List UInt8 × Bool × List (Int × List UInt8))) (d_ops:Int) (d_left:Int) (d_down:Bool) (K:Int->Prop):Prop :=
 ku d_files d_ops d_left d_down (fun (t4:List (List UInt8)) =>
 K (t4.length:Int))
def j0 (d_files:List (List UInt8 × List UInt8 × Bool × List UInt8 × Bool × List (Int × List UInt8))) (d_ops:Int) (d_left:Int) (d_down:Bool) (p:List UInt8) (text:List UInt8) (a6:Int) (a8:List UInt8) (K:Er->(List (List UInt8 × List UInt8 × Bool × List UInt8 × Bool × List (Int × List UInt8)))->Int->Int->Bool->Prop):Prop :=
 kd d_files d_ops d_left d_down (fun (err:Er) (d_:List (List UInt8 × List UInt8 × Bool × List UInt8 × Bool × List (Int × List UInt8))) (d_2:Int) (d_3:Int) (d_4:Bool) =>
 ((¬ (err=Er.ok)->K err d_ d_2 d_3 d_4) /\
 (err=Er.ok->∃ J1:(List UInt8)->Prop,(∃ J3:Bool->Prop,((((decide (a6=(1:Int)))=true->j1 d_ d_2 d_3 d_4 p (fun (t22:Bool) =>
 J3 t22)) /\
 ((decide (a6=(1:Int)))=false->J3 false))) /\
 (∀ q3:Bool,J3 q3->((q3=true->(p.length<=maxLen) /\
 ((mget d_ p).isSome=true) /\
 ((((mget d_ p).getD ([],false,[],false,[])).1).length+text.length<=9223372036854775807) /\
 J1 ((((mget d_ p).getD ([],false,[],false,[])).1)++text)) /\
 (q3=false->J1 text)))) /\
 (∀ text2:List UInt8,J1 text2->kX p (fun (t37:Bool) =>
 ((((!t37) || (decide ((65536:Int)<(text2.length:Int))))=true->K (Er.e 11) d_ d_2 d_3 d_4) /\
 (((!t37) || (decide ((65536:Int)<(text2.length:Int))))=false->j1 d_ d_2 d_3 d_4 p (fun (t48:Bool) =>
 ∃ J2:Bool->Prop,((((!t48)=true->kZ d_ d_2 d_3 d_4 (fun (t52:Int) =>
 J2 (decide ((2000:Int)<=t52)))) /\
 ((!t48)=false->J2 false))) /\
 (∀ q2:Bool,J2 q2->((q2=true->K (Er.e 9) d_ d_2 d_3 d_4) /\
 (q2=false->Za d_ d_2 d_3 d_4 p (fun (d_5:List (List UInt8 × List UInt8 × Bool × List UInt8 × Bool × List (Int × List UInt8))) (d_6:Int) (d_7:Int) (d_8:Bool) =>
 ((mget d_5 p).isSome=true) /\
 (((((mget d_5 p).getD ([],false,[],false,[])).2.2.2.2).length+(([(a6,a8)]:List (Int × List UInt8))).length)*24<=140737488355328) /\
 K Er.ok (mput d_5 p (text2,true,((mget d_5 p).getD ([],false,[],false,[])).2.2.1,((mget d_5 p).getD ([],false,[],false,[])).2.2.2.1,(((mget d_5 p).getD ([],false,[],false,[])).2.2.2.2)++([(a6,a8)]:List (Int × List UInt8)))) d_6 d_7 d_8))))))))))))
def ZC (d_files:List (List UInt8 × List UInt8 × Bool × List UInt8 × Bool × List (Int × List UInt8))) (d_ops:Int) (d_left:Int) (d_down:Bool) (p:List UInt8) (text:List UInt8) (K:Er->(List (List UInt8 × List UInt8 × Bool × List UInt8 × Bool × List (Int × List UInt8)))->Int->Int->Bool->Prop):Prop :=
 j0 d_files d_ops d_left d_down p text (0:Int) text (fun (t6:Er) (d_:List (List UInt8 × List UInt8 × Bool × List UInt8 × Bool × List (Int × List UInt8))) (d_2:Int) (d_3:Int) (d_4:Bool) =>
 K t6 d_ d_2 d_3 d_4)
def kN (d_files:List (List UInt8 × List UInt8 × Bool × List UInt8 × Bool × List (Int × List UInt8))) (d_ops:Int) (d_left:Int) (d_down:Bool) (p:List UInt8) (text:List UInt8) (K:Er->(List (List UInt8 × List UInt8 × Bool × List UInt8 × Bool × List (Int × List UInt8)))->Int->Int->Bool->Prop):Prop :=
 j0 d_files d_ops d_left d_down p text (1:Int) text (fun (t6:Er) (d_:List (List UInt8 × List UInt8 × Bool × List UInt8 × Bool × List (Int × List UInt8))) (d_2:Int) (d_3:Int) (d_4:Bool) =>
 K t6 d_ d_2 d_3 d_4)
def jV (d_files:List (List UInt8 × List UInt8 × Bool × List UInt8 × Bool × List (Int × List UInt8))) (d_ops:Int) (d_left:Int) (d_down:Bool) (p:List UInt8) (K:Er->(List (List UInt8 × List UInt8 × Bool × List UInt8 × Bool × List (Int × List UInt8)))->Int->Int->Bool->Prop):Prop :=
 kd d_files d_ops d_left d_down (fun (err:Er) (d_:List (List UInt8 × List UInt8 × Bool × List UInt8 × Bool × List (Int × List UInt8))) (d_2:Int) (d_3:Int) (d_4:Bool) =>
 ((¬ (err=Er.ok)->K err d_ d_2 d_3 d_4) /\
 (err=Er.ok->kX p (fun (t13:Bool) =>
 (((!t13)=true->K (Er.e 11) d_ d_2 d_3 d_4) /\
 ((!t13)=false->∃ J1:(List (List UInt8 × List UInt8 × Bool × List UInt8 × Bool × List (Int × List UInt8)))->Prop,((p.length<=maxLen) /\
 ((((mget d_ p).isSome)=true->kO (((mget d_ p).getD ([],false,[],false,[])).1) (((mget d_ p).getD ([],false,[],false,[])).2.1) (((mget d_ p).getD ([],false,[],false,[])).2.2.1) (((mget d_ p).getD ([],false,[],false,[])).2.2.2.1) (((mget d_ p).getD ([],false,[],false,[])).2.2.2.2) (fun (pl_:List UInt8) (pl_2:Bool) (pl_3:List UInt8) (pl_4:Bool) (pl_5:List (Int × List UInt8)) =>
 J1 (mput d_ p (pl_,pl_2,pl_3,pl_4,pl_5)))) /\
 (((mget d_ p).isSome)=false->J1 d_))) /\
 (∀ d0:List (List UInt8 × List UInt8 × Bool × List UInt8 × Bool × List (Int × List UInt8)),J1 d0->K Er.ok d0 d_2 d_3 d_4)))))))
def kG (d_files:List (List UInt8 × List UInt8 × Bool × List UInt8 × Bool × List (Int × List UInt8))) (d_ops:Int) (d_left:Int) (d_down:Bool) (K:(List (List UInt8 × List UInt8))->Prop):Prop :=
 ku d_files d_ops d_left d_down (fun (t7:List (List UInt8)) =>
 Lp2 (fun (l:List (List UInt8 × List UInt8)) (t9:Int) kont1=>((t9<(t7.length:Int)->(0<=t9/\t9<(t7.length:Nat)) /\
 ((t7.getD t9.toNat []).length<=maxLen) /\
 ((mget d_files (t7.getD t9.toNat [])).isSome=true) /\
 ((l.length+(([(t7.getD t9.toNat [],((mget d_files (t7.getD t9.toNat [])).getD ([],false,[],false,[])).1)]:List (List UInt8 × List UInt8))).length)*32<=140737488355328) /\
 (In .i64 (t9+(1:Int))) /\
 kont1 (l++([(t7.getD t9.toNat [],((mget d_files (t7.getD t9.toNat [])).getD ([],false,[],false,[])).1)]:List (List UInt8 × List UInt8))) (t9+(1:Int))) /\
 (¬ (t9<(t7.length:Int))->K l))) [] (0:Int))
def kH (d_files:List (List UInt8 × List UInt8 × Bool × List UInt8 × Bool × List (Int × List UInt8))) (d_ops:Int) (d_left:Int) (d_down:Bool) (keep:Int) (cut:Int) (K:(List (List UInt8 × List UInt8 × Bool × List UInt8 × Bool × List (Int × List UInt8)))->Int->Int->Bool->Prop):Prop :=
 (((!d_down)=true->K d_files d_ops d_left d_down) /\
 ((!d_down)=false->jm d_files (fun (t21:List (List UInt8)) =>
 Lp3 (fun (keep2:Int) (t23:Int) (d0:List (List UInt8 × List UInt8 × Bool × List UInt8 × Bool × List (Int × List UInt8))) kont1=>((t23<(t21.length:Int)->(0<=t23/\t23<(t21.length:Nat)) /\
 ((t21.getD t23.toNat []).length<=maxLen) /\
 ∃ J1:Int->(List (List UInt8 × List UInt8 × Bool × List UInt8 × Bool × List (Int × List UInt8)))->Prop,(((mget d0 (t21.getD t23.toNat [])).isSome=true) /\
 (((0:Int)<((((mget d0 (t21.getD t23.toNat [])).getD ([],false,[],false,[])).2.2.2.2).length:Int)->(0<=keep2/\0<(4:Int)) /\
 Zj (((mget d0 (t21.getD t23.toNat [])).getD ([],false,[],false,[])).1) (((mget d0 (t21.getD t23.toNat [])).getD ([],false,[],false,[])).2.1) (((mget d0 (t21.getD t23.toNat [])).getD ([],false,[],false,[])).2.2.1) (((mget d0 (t21.getD t23.toNat [])).getD ([],false,[],false,[])).2.2.2.1) (((mget d0 (t21.getD t23.toNat [])).getD ([],false,[],false,[])).2.2.2.2) (keep2 % (4:Int)) (if cut<(0:Int) then (0:Int) else cut) (fun (pl_6:List UInt8) (pl_7:Bool) (pl_8:List UInt8) (pl_9:Bool) (pl_10:List (Int × List UInt8)) =>
 (0<=keep2/\0<(4:Int)/\In .i64 keep2) /\
 J1 (keep2 / (4:Int)) (mput d0 (t21.getD t23.toNat []) (pl_6,pl_7,pl_8,pl_9,pl_10)))) /\
 (¬ ((0:Int)<((((mget d0 (t21.getD t23.toNat [])).getD ([],false,[],false,[])).2.2.2.2).length:Int))->J1 keep2 d0))) /\
 (∀ keep3:Int,∀ d02:List (List UInt8 × List UInt8 × Bool × List UInt8 × Bool × List (Int × List UInt8)),J1 keep3 d02->((mget d02 (t21.getD t23.toNat [])).isSome=true) /\
 kO (((mget d02 (t21.getD t23.toNat [])).getD ([],false,[],false,[])).1) (((mget d02 (t21.getD t23.toNat [])).getD ([],false,[],false,[])).2.1) (((mget d02 (t21.getD t23.toNat [])).getD ([],false,[],false,[])).2.2.1) (((mget d02 (t21.getD t23.toNat [])).getD ([],false,[],false,[])).2.2.2.1) (((mget d02 (t21.getD t23.toNat [])).getD ([],false,[],false,[])).2.2.2.2) (fun (pl_:List UInt8) (pl_2:Bool) (pl_3:List UInt8) (pl_4:Bool) (pl_5:List (Int × List UInt8)) =>
 (In .i64 (t23+(1:Int))) /\
 kont1 keep3 (t23+(1:Int)) (mput d02 (t21.getD t23.toNat []) (pl_,pl_2,pl_3,pl_4,pl_5))))) /\
 (¬ (t23<(t21.length:Int))->K d0 d_ops (0:Int) false))) (if keep<(0:Int) then (0:Int) else keep) (0:Int) d_files)))
def M_disk_New (files:List (List UInt8 × List UInt8)) (K0:Er->Prop) (K:(List (List UInt8 × List UInt8 × Bool × List UInt8 × Bool × List (Int × List UInt8)))->Int->Int->Bool->Er->Prop):Prop :=
 (files.length<=maxLen ->
 Lp2 (fun (t12:Int) (t90:List (List UInt8 × List UInt8 × Bool × List UInt8 × Bool × List (Int × List UInt8))) kont1=>((t12<(files.length:Int)->(0<=t12/\t12<(files.length:Nat)) /\
 kX ((files.getD t12.toNat ([],[])).1) (fun (t18:Bool) =>
 ((!t18)=false->(((files.getD t12.toNat ([],[])).1).length<=maxLen)) /\
 (((((!t18) || ((mget t90 ((files.getD t12.toNat ([],[])).1)).isSome)) || (decide ((65536:Int)<(((files.getD t12.toNat ([],[])).2).length:Int))))=true->K0 (Er.e 11)) /\
 ((((!t18) || ((mget t90 ((files.getD t12.toNat ([],[])).1)).isSome)) || (decide ((65536:Int)<(((files.getD t12.toNat ([],[])).2).length:Int))))=false->(((files.getD t12.toNat ([],[])).1).length<=maxLen/\t90.length<maxLen) /\
 (In .i64 (t12+(1:Int))) /\
 kont1 (t12+(1:Int)) (mput t90 ((files.getD t12.toNat ([],[])).1) ((files.getD t12.toNat ([],[])).2,true,(files.getD t12.toNat ([],[])).2,true,[])))))) /\
 (¬ (t12<(files.length:Int))->(((2000:Int)<(files.length:Int)->K0 (Er.e 9)) /\
 (¬ ((2000:Int)<(files.length:Int))->K t90 (0:Int) (0:Int) false Er.ok))))) (0:Int) ([]:List (List UInt8 × List UInt8 × Bool × List UInt8 × Bool × List (Int × List UInt8))))
set_option maxHeartbeats 8000000 in
theorem W_pdisk_Disk_call {S:List Nat} {B:Nat} {w:World} {g_d:Nat} {a0:Nat} {a1:List (List UInt8 × PH)} {d_files:List (List UInt8 × List UInt8 × Bool × List UInt8 × Bool × List (Int × List UInt8))} {d_ops:Int} {d_left:Int} {d_down:Bool} {K:Er->(List (List UInt8 × List UInt8 × Bool × List UInt8 × Bool × List (Int × List UInt8)))->Int->Int->Bool->Prop} (hG:GB S B w) (hB:B<=w.heap.size) (hP:AllP (fun p=>Ge p B) ((some g_d) :: (FP a0 a1 none))) (hS15:15∈S) (hd_files:jc pe86 w a0 a1 d_files none) (hd:Bl w g_d 81 [.map (some a0),.int .i64 d_ops,.int .i64 d_left,.bool d_down]) (hdj0_1:AllP (Dj (some g_d)) (FP a0 a1 none)) (H:kd d_files d_ops d_left d_down K):Fn Tryz.prog 67 ⟨[.pointer (some ⟨g_d,0,none⟩)]⟩ w (fun v w'=>GrL ((some g_d) :: (FP a0 a1 none)) w w'/\∃ (v_r:Value),∃ (r:Er),∃ (a3:List (List UInt8 × PH)),∃ (d_files2:List (List UInt8 × List UInt8 × Bool × List UInt8 × Bool × List (Int × List UInt8))),∃ (d_ops2:Int),∃ (d_left2:Int),∃ (d_down2:Bool),v=v_r/\ErrR S w' v_r r/\Bl w' g_d 81 [.map (some a0),.int .i64 d_ops2,.int .i64 d_left2,.bool d_down2]/\jc pe86 w' a0 a3 d_files2 none/\AllP (InP ((some g_d) :: (FP a0 a1 none)) w.heap.size) (FP a0 a3 none)/\AllP (Dj (some g_d)) (FP a0 a3 none)/\K r d_files2 d_ops2 d_left2 d_down2):=by
 unfold kd at H
 refine Fn.enter (by kernel_rfl) Tryz.func67 rfl Tryz.ntmps67 rfl ?_
 have hNoAt:AllP (NoAt w) ((some g_d) :: (FP a0 a1 none)):=(apC (NoAt.bl hd rfl) hd_files.noats)
 refine zd (zb (yp (h:=(zf (za (zd (zd (zb (yp (h:=(yp (h:=(yp (h:=(zg rfl (zk qY hd rfl rfl rfl) (zf (za (zp rfl (fun b1=>?_) (fun b1=>?_)))))))))))))))))))
 ·replace H:=H.1 (b1)
  refine zd (zb ?_)
  obtain ⟨vE1,_,hE1⟩:=GOK.get hG.ok 15 2 hS15 rfl rfl
  exact zg rfl (Yld.cell qY (ErrR.cell hE1 rfl) rfl rfl) (yp (h:=(zf (za (zq (zh (zw rfl rfl ⟨(GrL.refl _),vE1,(Er.e 15),a1,d_files,d_ops,d_left,d_down,rfl,hE1,hd,hd_files,(InA.mem (fun _ hp=>List.Mem.tail _ (hp))),hdj0_1,H⟩)))))))
 ·replace H:=H.2 (b1)
  refine zo (za (zd (zb (yp (h:=(yp (h:=(yp (h:=(zg rfl (zk qY hd rfl rfl rfl) ?_))))))))))
  obtain ⟨h1,H⟩:=H
  refine zg rfl (Yld.add rfl rfl h1) (yp (h:=(yp (h:=(zR one3 rfl rfl rfl hd (by simp) (fun w1 hB2 hg1=>?_))))))
  have hB1:Bl w1 g_d 81 [.map (some a0),.int .i64 (d_ops+(1:Int)),.int .i64 d_left,.bool d_down]:=hB2
  have gr1:GrL ((some g_d) :: (FP a0 a1 none)) w w1:=GrL.mod (GrL.refl _) hg1 (InP.mem (List.Mem.head _))
  have k1:=hd_files.go hg1 hdj0_1
  refine zf (za (zd ?_))
  obtain ⟨J1,H,hJ1⟩:=H
  refine qd (fun L' w'=>∃ (d2:Int),L'=[]/\J1 d2/\GrL ((some g_d) :: (FP a0 a1 none)) w w'/\jc pe86 w' a0 a1 d_files none/\Bl w' g_d 81 [.map (some a0),.int .i64 (d_ops+(1:Int)),.int .i64 d2,.bool d_down]/\AllP (Dj (some g_d)) (FP a0 a1 none)/\AllP (InP ((some g_d) :: (FP a0 a1 none)) w.heap.size) (FP a0 a1 none)) ?_ (fun hQ=>?_)
  ·clear H
   rintro _ w2 ⟨d2,rfl,H,gr2,k2,k3,dj1,hi1⟩
   replace H:=hJ1 d2 H
   exact za (zd (zb (yp (h:=(zf (za (zq (zw rfl rfl ⟨gr2,.nilIface,Er.ok,a1,d_files,d_ops+(1:Int),d2,d_down,rfl,(ErrR.okR (S:=S) (w:=w2)),k3,k2,hi1,dj1,H⟩))))))))
  ·clear hJ1
   refine zd (zb (yp (h:=(yp (h:=(yp (h:=(zg rfl (zk qY hB1 rfl rfl rfl) (yp (h:=(zf (za (zp rfl (fun b2=>?_) (fun b2=>?_))))))))))))))
   ·replace H:=H.1 (of_decide_eq_true b2)
    refine zd (zb (yp (h:=(yp (h:=(yp (h:=(zg rfl (zk qY hB1 rfl rfl rfl) ?_))))))))
    obtain ⟨h2,H⟩:=H
    refine zg rfl (Yld.sub rfl rfl h2) (yp (h:=(yp (h:=(zR one3 rfl rfl rfl hB1 (by simp) (fun w3 hB4 hg2=>?_))))))
    have hB3:Bl w3 g_d 81 [.map (some a0),.int .i64 (d_ops+(1:Int)),.int .i64 (d_left - (1:Int)),.bool d_down]:=hB4
    have gr3:GrL ((some g_d) :: (FP a0 a1 none)) w w3:=GrL.mod gr1 hg2 (InP.mem (List.Mem.head _))
    have k4:=k1.go hg2 hdj0_1
    refine zf (za (zd (zb (yp (h:=(yp (h:=(yp (h:=(zg rfl (zk qY hB3 rfl rfl rfl) (yp (h:=(zf (za (zp rfl (fun b3=>?_) (fun b3=>?_))))))))))))))))
    ·replace H:=H.1 (of_decide_eq_true b3)
     refine zd (zb (yp (h:=(yp (h:=(yp (h:=(zR one4 rfl rfl rfl hB3 (by simp) (fun w4 hB6 hg3=>?_)))))))))
     have hB5:Bl w4 g_d 81 [.map (some a0),.int .i64 (d_ops+(1:Int)),.int .i64 (d_left - (1:Int)),.bool true]:=hB6
     have gr4:GrL ((some g_d) :: (FP a0 a1 none)) w w4:=GrL.mod gr3 hg3 (InP.mem (List.Mem.head _))
     refine zf (za (zd (zb ?_)))
     obtain ⟨vE2,_,hE2⟩:=GOK.get (hG.goL gr4 hP).ok 15 2 hS15 rfl rfl
     exact zg rfl (Yld.cell qY (ErrR.cell hE2 rfl) rfl rfl) (yp (h:=(zf (za (zq (zh (zw rfl rfl ⟨gr4,vE2,(Er.e 15),a1,d_files,d_ops+(1:Int),d_left - (1:Int),true,rfl,hE2,hB5,(k4.go hg3 hdj0_1),(InA.mem (fun _ hp=>List.Mem.tail _ (hp))),hdj0_1,H⟩)))))))
    ·replace H:=H.2 (of_decide_eq_false b3)
     exact zo (WX.weaken sb (hQ _ _ ⟨d_left - (1:Int),rfl,H,gr3,k4,hB3,hdj0_1,(InA.mem (fun _ hp=>List.Mem.tail _ (hp)))⟩))
   ·replace H:=H.2 (of_decide_eq_false b2)
    exact zo (WX.weaken sb (hQ _ _ ⟨d_left,rfl,H,gr1,k1,hB1,hdj0_1,(InA.mem (fun _ hp=>List.Mem.tail _ (hp)))⟩))
set_option maxHeartbeats 8000000 in
theorem W_pdisk_file_settle {w:World} {g_f:Nat} {f_text:List UInt8} {f_is:Bool} {f_synced:List UInt8} {f_was:Bool} {f_since:List (Int × List UInt8)} {a2:Option Addr} {a4:Nat} {c0:Nat} {K:(List UInt8)->Bool->(List UInt8)->Bool->(List (Int × List UInt8))->Prop} (hf_since:OwnK 2 enc130 w 0 130 a2 a4 f_since) (c3:c0=f_since.length) (hf:Bl w g_f 86 [vs f_text,.bool f_is,vs f_synced,.bool f_was,.slice a2 c0 a4]) (hdj0_1:Dj (some g_f) (blk a2)) (H:kO f_text f_is f_synced f_was f_since K):Fn Tryz.prog 59 ⟨[.pointer (some ⟨g_f,0,none⟩)]⟩ w (fun v w'=>GrL [(some g_f),(blk a2)] w w'/\∃ (f_text2:List UInt8),∃ (f_is2:Bool),∃ (f_synced2:List UInt8),∃ (f_was2:Bool),∃ (f_since2:List (Int × List UInt8)),∃ (a5:Option Addr),∃ (b0:Nat),v=.tuple #[]/\Bl w' g_f 86 [vs f_text2,.bool f_is2,vs f_synced2,.bool f_was2,.slice a5 f_since2.length b0]/\OwnK 2 enc130 w' 0 130 a5 b0 f_since2/\InP [(some g_f),(blk a2)] w.heap.size (blk a5)/\Dj (some g_f) (blk a5)/\K f_text2 f_is2 f_synced2 f_was2 f_since2):=by
 subst c3
 unfold kO at H
 refine Fn.enter (by kernel_rfl) Tryz.func59 rfl Tryz.ntmps59 rfl ?_
 replace H:=H (Nat.le_trans hf_since.rd.cap hf_since.rd.max)
 have hNoAt:AllP (NoAt w) [(some g_f),(blk a2)]:=(apC (NoAt.bl hf rfl) (apC (NoAt.ownK hf_since rfl) apN))
 refine zO (fun k => !(Nat.beq k 13 || Nat.beq k 16 || Nat.beq k 19)) (LD [6,10] (fun w'=>Bl w' g_f 86 [vs f_text,.bool f_is,vs f_synced,.bool f_was,.slice a2 f_since.length a4])) mixed (by kernel_rfl) (fun k w' h _=>(ji h hf)) (zl rfl rfl (fun w' hw'=>zc qY rfl) (zl rfl rfl (fun w' hw'=>zc qY rfl) (zl rfl rfl (fun w' hw'=>zc qY rfl) (zl rfl rfl (fun w' hw'=>zc qY rfl) (zl rfl rfl (fun w' hw'=>zc qY rfl) (zl rfl rfl (fun w' hw'=>zc qY rfl) (zl rfl rfl (fun w' hw'=>zk qY (hw' rfl) rfl rfl rfl) (zl rfl rfl (fun w' hw'=>zc qY rfl) (zl rfl rfl (fun w' hw'=>zc qY rfl) (zl rfl rfl (fun w' hw'=>zc qY rfl) (zl rfl rfl (fun w' hw'=>zk qY (hw' rfl) rfl rfl rfl) (zl rfl rfl (fun w' hw'=>zc qY rfl) (zl rfl rfl (fun w' hw'=>zc qY rfl) (qh rfl (qc one9 rfl rfl rfl hf (by simp)) (fun w' h=>qf (by kernel_rfl)) ?_))))))))))))))
 rintro w1 ⟨hB2,hg1⟩
 have hB1:Bl w1 g_f 86 [vs f_text,.bool f_is,vs f_text,.bool f_was,.slice a2 f_since.length a4]:=hB2
 have gr1:GrL [(some g_f),(blk a2)] w w1:=GrL.mod (GrL.refl _) hg1 (InP.mem (List.Mem.head _))
 refine zl rfl rfl (fun w' hw'=>zc qY rfl) (zl rfl rfl (fun w' hw'=>zc qY rfl) (qh rfl (qc one4 rfl rfl rfl hB1 (by simp)) (fun w' h=>qf (by kernel_rfl)) ?_))
 rintro w2 ⟨hB4,hg2⟩
 have hB3:Bl w2 g_f 86 [vs f_text,.bool f_is,vs f_text,.bool f_is,.slice a2 f_since.length a4]:=hB4
 have gr2:GrL [(some g_f),(blk a2)] w w2:=GrL.mod gr1 hg2 (InP.mem (List.Mem.head _))
 have k2:=(hf_since.go hg1 hdj0_1.symm).go hg2 hdj0_1.symm
 refine zl rfl rfl (fun w' hw'=>zc qY rfl) (zl rfl rfl (fun w' hw'=>zc qY rfl) (qh rfl (qc one84 rfl rfl rfl hB3 (by simp)) (fun w' h=>qf (by kernel_rfl)) ?_))
 rintro w3 ⟨hB6,hg3⟩
 have hB5:Bl w3 g_f 86 [vs f_text,.bool f_is,vs f_text,.bool f_is,.slice none 0 0]:=hB6
 have gr3:GrL [(some g_f),(blk a2)] w w3:=GrL.mod gr2 hg3 (InP.mem (List.Mem.head _))
 exact z8 (qM rfl ⟨gr3,f_text,f_is,f_text,f_is,[],none,0,rfl,hB5,((OwnK.nil enc130_ok w3 w.heap.size 130).base (fun _ _=>Nat.zero_le _)),InP.none,Dj.nr,H⟩)
set_option maxHeartbeats 8000000 in
theorem W_pdisk_file_rise {w:World} {g_f:Nat} {f_text:List UInt8} {f_is:Bool} {f_synced:List UInt8} {f_was:Bool} {f_since:List (Int × List UInt8)} {a2:Option Addr} {a4:Nat} {keep:Int} {cut:Int} {c0:Nat} {K:(List UInt8)->Bool->(List UInt8)->Bool->(List (Int × List UInt8))->Prop} (hf_since:OwnK 2 enc130 w 0 130 a2 a4 f_since) (c3:c0=f_since.length) (hf:Bl w g_f 86 [vs f_text,.bool f_is,vs f_synced,.bool f_was,.slice a2 c0 a4]) (hdj0_1:Dj (some g_f) (blk a2)) (H:Zj f_text f_is f_synced f_was f_since keep cut K):Fn Tryz.prog 58 ⟨[.pointer (some ⟨g_f,0,none⟩),.int .i64 keep,.int .i64 cut]⟩ w (fun v w'=>GrL [(some g_f),(blk a2)] w w'/\∃ (f_text2:List UInt8),∃ (f_is2:Bool),∃ (f_synced2:List UInt8),∃ (f_was2:Bool),∃ (f_since2:List (Int × List UInt8)),∃ (a5:Option Addr),∃ (b0:Nat),v=.tuple #[]/\Bl w' g_f 86 [vs f_text2,.bool f_is2,vs f_synced2,.bool f_was2,.slice a5 f_since2.length b0]/\OwnK 2 enc130 w' 0 130 a5 b0 f_since2/\InP [(some g_f),(blk a2)] w.heap.size (blk a5)/\Dj (some g_f) (blk a5)/\K f_text2 f_is2 f_synced2 f_was2 f_since2):=by
 subst c3
 unfold Zj at H
 refine Fn.enter (by kernel_rfl) Tryz.func58 rfl Tryz.ntmps58 rfl ?_
 replace H:=H (Nat.le_trans hf_since.rd.cap hf_since.rd.max)
 have hNoAt:AllP (NoAt w) [(some g_f),(blk a2)]:=(apC (NoAt.bl hf rfl) (apC (NoAt.ownK hf_since rfl) apN))
 refine zd (zO (fun k => !(Nat.beq k 12 || Nat.beq k 15)) (LD [5,9] (fun w'=>Bl w' g_f 86 [vs f_text,.bool f_is,vs f_synced,.bool f_was,.slice a2 f_since.length a4])) mixed (by kernel_rfl) (fun k w' h _=>(ji h hf)) (zl rfl rfl (fun w' hw'=>zc qY rfl) (zl rfl rfl (fun w' hw'=>zc qY rfl) (zl rfl rfl (fun w' hw'=>zc qY rfl) (zl rfl rfl (fun w' hw'=>zc qY rfl) (zl rfl rfl (fun w' hw'=>zc qY rfl) (zl rfl rfl (fun w' hw'=>zk qY (hw' rfl) rfl rfl rfl) (zl rfl rfl (fun w' hw'=>zc qY rfl) (zl rfl rfl (fun w' hw'=>zc qY rfl) (zl rfl rfl (fun w' hw'=>zc qY rfl) (zl rfl rfl (fun w' hw'=>zk qY (hw' rfl) rfl rfl rfl) (zl rfl rfl (fun w' hw'=>zc qY rfl) (zl rfl rfl (fun w' hw'=>zc qY rfl) (qh rfl (qc one9 rfl rfl rfl hf (by simp)) (fun w' h=>qf (by kernel_rfl)) ?_))))))))))))))
 rintro w1 ⟨hB2,hg1⟩
 have hB1:Bl w1 g_f 86 [vs f_synced,.bool f_is,vs f_synced,.bool f_was,.slice a2 f_since.length a4]:=hB2
 have gr1:GrL [(some g_f),(blk a2)] w w1:=GrL.mod (GrL.refl _) hg1 (InP.mem (List.Mem.head _))
 refine zl rfl rfl (fun w' hw'=>zc qY rfl) (zl rfl rfl (fun w' hw'=>zc qY rfl) (qh rfl (qc one4 rfl rfl rfl hB1 (by simp)) (fun w' h=>qf (by kernel_rfl)) ?_))
 rintro w2 ⟨hB4,hg2⟩
 have hB3:Bl w2 g_f 86 [vs f_synced,.bool f_was,vs f_synced,.bool f_was,.slice a2 f_since.length a4]:=hB4
 have gr2:GrL [(some g_f),(blk a2)] w w2:=GrL.mod gr1 hg2 (InP.mem (List.Mem.head _))
 refine z8 (za (zd (zb (yp (h:=(yp (h:=(yp (h:=(zg rfl (zk qY hB3 rfl rfl rfl) (yp (h:=(yp (h:=(zf (za (WC.block ?_)))))))))))))))))
 obtain ⟨I1,mu1,c6,HR1⟩:=H
 refine zW (fun n' L' w'=>∃ (t28:Int),∃ (f0:List UInt8),∃ (f1:Bool),n'=mu1 t28 f0 f1/\L'=[(0,.pointer (some ⟨g_f,0,none⟩)),(1,.int .i64 keep),(2,.int .i64 cut),(26,.slice a2 f_since.length a4),(27,.int .i64 (f_since.length:Int)),(28,.int .i64 t28)]/\I1 t28 f0 f1/\GrL [(some g_f),(blk a2)] w w'/\OwnK 2 enc130 w' 0 130 a2 a4 f_since/\Bl w' g_f 86 [vs f0,.bool f1,vs f_synced,.bool f_was,.slice a2 f_since.length a4]) _ _ ⟨(0:Int),f_synced,f_was,rfl,rfl,c6,gr2,((hf_since.go hg1 hdj0_1.symm).go hg2 hdj0_1.symm),hB3⟩ sb ?_
 clear c6
 rintro _ _ w3 ⟨t28,f0,f1,rfl,rfl,hI1,gr3,k3,k4⟩
 have H:=HR1 t28 f0 f1 hI1
 refine zd (zb (yp (h:=(zf (za (zd (zp rfl (fun b1=>?_) (fun b1=>?_))))))))
 ·replace H:=H.1 (of_decide_eq_true b1)
  refine zo (za (zd ?_))
  obtain ⟨J1,H,hJ1⟩:=H
  refine qd (fun L' w'=>∃ (f02:List UInt8),∃ (f12:Bool),L'=[(0,.pointer (some ⟨g_f,0,none⟩)),(1,.int .i64 keep),(2,.int .i64 cut),(26,.slice a2 f_since.length a4),(27,.int .i64 (f_since.length:Int)),(28,.int .i64 t28)]/\J1 f02 f12/\GrL [(some g_f),(blk a2)] w w'/\OwnK 2 enc130 w' 0 130 a2 a4 f_since/\Bl w' g_f 86 [vs f02,.bool f12,vs f_synced,.bool f_was,.slice a2 f_since.length a4]) ?_ (fun hQ=>?_)
  ·clear H
   rintro _ w4 ⟨f02,f12,rfl,H,gr4,k5,k6⟩
   replace H:=hJ1 f02 f12 H
   refine za (zb ?_)
   obtain ⟨h1,H⟩:=H
   exact zg rfl (Yld.add rfl rfl h1) (yp (h:=(zf (zS _ ⟨t28+(1:Int),f02,f12,rfl,rfl,H.1,gr4,k5,k6⟩ sb H.2))))
  ·clear hJ1
   refine WC.block (zd (zb (yp (h:=?_))))
   obtain ⟨h2,H⟩:=H
   refine zg rfl (qa qY k3.rd rfl rfl rfl rfl h2.1 h2.2) (zg rfl (qt (0,[]) qY k3.rd rfl rfl (iltN h2 rfl)) (WL.alloc rfl zero130 (fun g1 w5 hB5 hg3 hl1=>yp (h:=(zP (vs:=[.int .i64 ((f_since.getD t28.toNat (0,[])).1),vs ((f_since.getD t28.toNat (0,[])).2)]) qY rfl rfl rfl (jd rfl (jd rfl kg)) hB5 rfl rfl (fun w6 hB6 hg4=>?_))))))
   have gr6:GrL [(some g_f),(blk a2)] w w6:=GrL.mod (GrL.add0 gr3 hg3) hg4 (InP.ge (Ge.le (Ge.box hl1) (GrL.sizeL gr3)))
   have k9:=(k3.grown hg3).go hg4 (Dj.new k3.lt' (Ge.box hl1))
   have k10:=(k4.g0 hg3).go hg4 (Dj.new k4.lt' (Ge.box hl1))
   refine zf (za (zd (zd (zb (yp (h:=(yp (h:=(yp (h:=(zf (za (zp rfl (fun b2=>?_) (fun b2=>?_))))))))))))))
   ·replace H:=H.1 (of_decide_eq_true b2)
    refine zd ?_
    obtain ⟨J2,H,hJ2⟩:=H
    refine qd (fun L' w'=>∃ (f03:List UInt8),∃ (f13:Bool),L'=[]/\J2 f03 f13/\GrL [(some g_f),(blk a2)] w w'/\OwnK 2 enc130 w' 0 130 a2 a4 f_since/\Bl w' g_f 86 [vs f03,.bool f13,vs f_synced,.bool f_was,.slice a2 f_since.length a4]) ?_ (fun hQ1=>?_)
    ·clear H
     rintro _ w7 ⟨f03,f13,rfl,H,gr7,k11,k12⟩
     replace H:=hJ2 f03 f13 H
     exact za (zq (zh (zn (zh (zh (zn (WX.ret0 rfl ⟨gr7,f03,f13,f_synced,f_was,f_since,a2,a4,rfl,k12,k11,(InP.mem (List.Mem.tail _ (List.Mem.head _))),hdj0_1,H⟩)))))))
    ·clear hJ2
     refine zd (zb (yp (h:=(yp (h:=(zg rfl (zk qY hB6 rfl rfl rfl) (yp (h:=?_))))))))
     obtain ⟨h3,H⟩:=H
     refine zg rfl (Yld.sub rfl rfl h3) (zg rfl (zC rfl rfl) (yp (h:=(zf (za (zd (zb (yp (h:=(zg rfl (zk qY hB6 rfl rfl rfl) (yp (h:=(yp (h:=(zL 3 (fun L' w'=>∃ q1:Bool,L'=[(48,.bool q1),(0,.pointer (some ⟨g_f,0,none⟩)),(7,.pointer (some ⟨g1,0,none⟩)),(8,.int .i64 (if ((((f_since.getD t28.toNat (0,[])).2).length:Int) - (1:Int))<cut then (((f_since.getD t28.toNat (0,[])).2).length:Int) - (1:Int) else cut))]/\((decide (((f_since.getD t28.toNat (0,[])).1)=(1:Int))) && (decide ((0:Int)<(if ((((f_since.getD t28.toNat (0,[])).2).length:Int) - (1:Int))<cut then (((f_since.getD t28.toNat (0,[])).2).length:Int) - (1:Int) else cut))))=q1/\w6=w') ?_ (fun hQ=>?_))))))))))))))))
     ·rintro _ _ ⟨q1,rfl,rfl,rfl⟩
      refine zf (za (zp rfl (fun b3=>?_) (fun b3=>?_)))
      ·replace H:=H.1 (b3)
       refine zO (fun k => !(Nat.beq k 13 || Nat.beq k 16)) (LD [5,7] (fun w'=>Bl w' g_f 86 [vs f0,.bool f1,vs f_synced,.bool f_was,.slice a2 f_since.length a4]/\Bl w' g1 130 [.int .i64 ((f_since.getD t28.toNat (0,[])).1),vs ((f_since.getD t28.toNat (0,[])).2)])) mixed (by kernel_rfl) (fun k w' h _=>⟨(ji h k10),(ji h hB6)⟩) (zl rfl rfl (fun w' hw'=>zc qY rfl) (zl rfl rfl (fun w' hw'=>zc qY rfl) (zl rfl rfl (fun w' hw'=>zc qY rfl) (zl rfl rfl (fun w' hw'=>zc qY rfl) (zl rfl rfl (fun w' hw'=>zc qY rfl) (zl rfl rfl (fun w' hw'=>zk qY (hw' rfl).1 rfl rfl rfl) (zl rfl rfl (fun w' hw'=>zc qY rfl) (zl rfl rfl (fun w' hw'=>zk qY (hw' rfl).2 rfl rfl rfl) (zl rfl rfl (fun w' hw'=>zc qY rfl) ?_)))))))))
       obtain ⟨h4,H⟩:=H
       refine zl rfl rfl (fun w' hw'=>qB qY rfl rfl rfl rfl (Int.le_refl 0) h4.1 h4.2) ?_
       obtain ⟨h5,H⟩:=H
       refine zl rfl rfl (fun w' hw'=>qn rfl rfl h5) (zl rfl rfl (fun w' hw'=>zc qY rfl) (zl rfl rfl (fun w' hw'=>zc qY rfl) (qh rfl (qc one9 rfl rfl rfl k10 (by simp)) (fun w' h=>qf (by kernel_rfl)) ?_)))
       rintro w8 ⟨hB8,hg5⟩
       have hB7:Bl w8 g_f 86 [vs (f0++(((f_since.getD t28.toNat (0,[])).2).take (if ((((f_since.getD t28.toNat (0,[])).2).length:Int) - (1:Int))<cut then (((f_since.getD t28.toNat (0,[])).2).length:Int) - (1:Int) else cut).toNat)),.bool f1,vs f_synced,.bool f_was,.slice a2 f_since.length a4]:=hB8
       have gr8:GrL [(some g_f),(blk a2)] w w8:=GrL.mod gr6 hg5 (InP.mem (List.Mem.head _))
       refine zl rfl rfl (fun w' hw'=>zc qY rfl) (zl rfl rfl (fun w' hw'=>zc qY rfl) (qh rfl (qc one4 rfl rfl rfl hB7 (by simp)) (fun w' h=>qf (by kernel_rfl)) ?_))
       rintro w9 ⟨hB10,hg6⟩
       have hB9:Bl w9 g_f 86 [vs (f0++(((f_since.getD t28.toNat (0,[])).2).take (if ((((f_since.getD t28.toNat (0,[])).2).length:Int) - (1:Int))<cut then (((f_since.getD t28.toNat (0,[])).2).length:Int) - (1:Int) else cut).toNat)),.bool true,vs f_synced,.bool f_was,.slice a2 f_since.length a4]:=hB10
       have gr9:GrL [(some g_f),(blk a2)] w w9:=GrL.mod gr8 hg6 (InP.mem (List.Mem.head _))
       have k16:=(hB6.go hg5 ((Dj.new k4.lt' (Ge.box hl1)).symm)).go hg6 ((Dj.new k4.lt' (Ge.box hl1)).symm)
       exact z8 (WX.weaken sb (hQ1 _ _ ⟨f0++(((f_since.getD t28.toNat (0,[])).2).take (if ((((f_since.getD t28.toNat (0,[])).2).length:Int) - (1:Int))<cut then (((f_since.getD t28.toNat (0,[])).2).length:Int) - (1:Int) else cut).toNat),true,rfl,H,gr9,((k9.go hg5 hdj0_1.symm).go hg6 hdj0_1.symm),hB9⟩))
      ·replace H:=H.2 (b3)
       exact zo (WX.weaken sb (hQ1 _ _ ⟨f0,f1,rfl,H,gr6,k9,k10⟩))
     ·clear H
      rcases Bool.eq_false_or_eq_true (decide (((f_since.getD t28.toNat (0,[])).1)=(1:Int))) with b4 | b4
      ·exact gp b4 (h:=(gp b4 (h:=(zg rfl (zt (okb b4) rfl) (wk (hQ _ _ ⟨decide ((0:Int)<(if ((((f_since.getD t28.toNat (0,[])).2).length:Int) - (1:Int))<cut then (((f_since.getD t28.toNat (0,[])).2).length:Int) - (1:Int) else cut)),rfl,by rw [b4] <;> rfl,rfl⟩))))))
      ·exact gn b4 (h:=(gn b4 (h:=(zg rfl (zr (okb b4) rfl) (wk (hQ _ _ ⟨false,rfl,by rw [b4] <;> rfl,rfl⟩))))))
   ·replace H:=H.2 (of_decide_eq_false b2)
    refine zo (za (zd (zb (yp (h:=(zg rfl (zk qY hB6 rfl rfl rfl) (zf (za (WC.block (zd (zb (yp (h:=(yp (h:=(zf (za (zp rfl (fun b5=>?_) (fun b5=>?_)))))))))))))))))))
    ·replace H:=H.1 (of_decide_eq_true b5)
     refine zb (yp (h:=(yp (h:=(yp (h:=(zg rfl (zk qY hB6 rfl rfl rfl) (yp (h:=(yp (h:=(zR one9 rfl rfl rfl k10 (by simp) (fun w10 hB12 hg7=>?_)))))))))))))
     have hB11:Bl w10 g_f 86 [vs ((f_since.getD t28.toNat (0,[])).2),.bool f1,vs f_synced,.bool f_was,.slice a2 f_since.length a4]:=hB12
     have gr10:GrL [(some g_f),(blk a2)] w w10:=GrL.mod gr6 hg7 (InP.mem (List.Mem.head _))
     refine yp (h:=(yp (h:=(zR one4 rfl rfl rfl hB11 (by simp) (fun w11 hB14 hg8=>?_)))))
     have hB13:Bl w11 g_f 86 [vs ((f_since.getD t28.toNat (0,[])).2),.bool true,vs f_synced,.bool f_was,.slice a2 f_since.length a4]:=hB14
     have gr11:GrL [(some g_f),(blk a2)] w w11:=GrL.mod gr10 hg8 (InP.mem (List.Mem.head _))
     exact zf (zi (zi (WX.weaken sb (hQ _ _ ⟨(f_since.getD t28.toNat (0,[])).2,true,rfl,H,gr11,((k9.go hg7 hdj0_1.symm).go hg8 hdj0_1.symm),hB13⟩))))
    ·replace H:=H.2 (of_decide_eq_false b5)
     refine zd (zb (yp (h:=(yp (h:=(zf (za (zp rfl (fun b6=>?_) (fun b6=>?_)))))))))
     ·replace H:=H.1 (of_decide_eq_true b6)
      refine zO (fun k => !(Nat.beq k 11 || Nat.beq k 14)) (LD [5,7] (fun w'=>Bl w' g_f 86 [vs f0,.bool f1,vs f_synced,.bool f_was,.slice a2 f_since.length a4]/\Bl w' g1 130 [.int .i64 ((f_since.getD t28.toNat (0,[])).1),vs ((f_since.getD t28.toNat (0,[])).2)])) mixed (by kernel_rfl) (fun k w' h _=>⟨(ji h k10),(ji h hB6)⟩) (zl rfl rfl (fun w' hw'=>zc qY rfl) (zl rfl rfl (fun w' hw'=>zc qY rfl) (zl rfl rfl (fun w' hw'=>zc qY rfl) (zl rfl rfl (fun w' hw'=>zc qY rfl) (zl rfl rfl (fun w' hw'=>zc qY rfl) (zl rfl rfl (fun w' hw'=>zk qY (hw' rfl).1 rfl rfl rfl) (zl rfl rfl (fun w' hw'=>zc qY rfl) (zl rfl rfl (fun w' hw'=>zk qY (hw' rfl).2 rfl rfl rfl) ?_))))))))
      obtain ⟨h6,H⟩:=H
      refine zl rfl rfl (fun w' hw'=>qn rfl rfl h6) (zl rfl rfl (fun w' hw'=>zc qY rfl) (zl rfl rfl (fun w' hw'=>zc qY rfl) (qh rfl (qc one9 rfl rfl rfl k10 (by simp)) (fun w' h=>qf (by kernel_rfl)) ?_)))
      rintro w12 ⟨hB16,hg9⟩
      have hB15:Bl w12 g_f 86 [vs (f0++((f_since.getD t28.toNat (0,[])).2)),.bool f1,vs f_synced,.bool f_was,.slice a2 f_since.length a4]:=hB16
      have gr12:GrL [(some g_f),(blk a2)] w w12:=GrL.mod gr6 hg9 (InP.mem (List.Mem.head _))
      refine zl rfl rfl (fun w' hw'=>zc qY rfl) (zl rfl rfl (fun w' hw'=>zc qY rfl) (qh rfl (qc one4 rfl rfl rfl hB15 (by simp)) (fun w' h=>qf (by kernel_rfl)) ?_))
      rintro w13 ⟨hB18,hg10⟩
      have hB17:Bl w13 g_f 86 [vs (f0++((f_since.getD t28.toNat (0,[])).2)),.bool true,vs f_synced,.bool f_was,.slice a2 f_since.length a4]:=hB18
      have gr13:GrL [(some g_f),(blk a2)] w w13:=GrL.mod gr12 hg10 (InP.mem (List.Mem.head _))
      have k22:=(hB6.go hg9 ((Dj.new k4.lt' (Ge.box hl1)).symm)).go hg10 ((Dj.new k4.lt' (Ge.box hl1)).symm)
      exact z8 (zi (zi (WX.weaken sb (hQ _ _ ⟨f0++((f_since.getD t28.toNat (0,[])).2),true,rfl,H,gr13,((k9.go hg9 hdj0_1.symm).go hg10 hdj0_1.symm),hB17⟩))))
     ·replace H:=H.2 (of_decide_eq_false b6)
      refine zb (yp (h:=(yp (h:=(yp (h:=(yp (h:=(zR one9 rfl rfl rfl k10 (by simp) (fun w14 hB20 hg11=>?_))))))))))
      have hB19:Bl w14 g_f 86 [vs ([]:List UInt8),.bool f1,vs f_synced,.bool f_was,.slice a2 f_since.length a4]:=hB20
      have gr14:GrL [(some g_f),(blk a2)] w w14:=GrL.mod gr6 hg11 (InP.mem (List.Mem.head _))
      refine yp (h:=(yp (h:=(zR one4 rfl rfl rfl hB19 (by simp) (fun w15 hB22 hg12=>?_)))))
      have hB21:Bl w15 g_f 86 [vs ([]:List UInt8),.bool false,vs f_synced,.bool f_was,.slice a2 f_since.length a4]:=hB22
      have gr15:GrL [(some g_f),(blk a2)] w w15:=GrL.mod gr14 hg12 (InP.mem (List.Mem.head _))
      exact zf (zi (zi (WX.weaken sb (hQ _ _ ⟨([]:List UInt8),false,rfl,H,gr15,((k9.go hg11 hdj0_1.symm).go hg12 hdj0_1.symm),hB21⟩))))
 ·replace H:=H.2 (of_decide_eq_false b1)
  exact zD (zj (zj (zm (qM rfl ⟨gr3,f0,f1,f_synced,f_was,f_since,a2,a4,rfl,k4,k3,(InP.mem (List.Mem.tail _ (List.Mem.head _))),hdj0_1,H⟩))))
set_option maxHeartbeats 8000000 in
theorem ZE {w:World} {g_d:Nat} {a0:Nat} {a1:List (List UInt8 × PH)} {d_files:List (List UInt8 × List UInt8 × Bool × List UInt8 × Bool × List (Int × List UInt8))} {d_ops:Int} {d_left:Int} {d_down:Bool} {p:List UInt8} {K:Bool->Prop} (hd_files:jc pe86 w a0 a1 d_files none) (hd:Bl w g_d 81 [.map (some a0),.int .i64 d_ops,.int .i64 d_left,.bool d_down]) (H:j1 d_files d_ops d_left d_down p K):Fn Tryz.prog 68 ⟨[.pointer (some ⟨g_d,0,none⟩),vs p]⟩ w (fun v w'=>w=w'/\∃ (r:Bool),v=.bool r/\K r):=by
 unfold j1 at H
 refine Fn.enter (by kernel_rfl) Tryz.func68 rfl Tryz.ntmps68 rfl ?_
 refine zd (zb (yp (h:=(zf (za (zd (zb (yp (h:=(yp (h:=(yp (h:=(zg rfl (zk qY hd rfl rfl rfl) (yp (h:=?_))))))))))))))))
 obtain ⟨h1,H⟩:=H
 refine zg rfl (qC (keyF_s Tryz.underlying9) Tryz.underlying79 (fun _=>by kernel_rfl) hd_files rfl rfl h1) (zg rfl (Yld.pneP Tryz.underlying83 hd_files rfl rfl) (yp (h:=?_)))
 obtain ⟨h2,H⟩:=H
 obtain ⟨h3,H⟩:=H
 refine zL 10 (fun L' w'=>∃ q1:Bool,L'=[(22,.bool q1)]/\(((mget d_files p).isSome) && (((mget d_files p).getD ([],false,[],false,[])).2.1))=q1/\w=w') ?_ (fun hQ=>?_)
 ·rintro _ _ ⟨q1,rfl,rfl,rfl⟩
  exact yp (h:=(zf (za (zq (zw rfl rfl ⟨rfl,((mget d_files p).isSome) && (((mget d_files p).getD ([],false,[],false,[])).2.1),rfl,H⟩)))))
 ·clear H
  rcases Bool.eq_false_or_eq_true ((mget d_files p).isSome) with b1 | b1
  ·exact gp b1 (h:=(gp b1 (h:=(gp b1 (h:=(ze rfl rfl (okb b1) rfl (zk qY hd rfl rfl rfl) (gp b1 (h:=(ze rfl rfl (okb b1) rfl (qC (keyF_s Tryz.underlying9) Tryz.underlying79 (fun _=>by kernel_rfl) hd_files rfl rfl (h2 b1)) (ze rfl rfl (okb b1) rfl (qP hd_files (h3 b1) rfl) (ze rfl rfl (okb b1) rfl (qW qY hd_files (h3 b1) rfl rfl rfl) (ze rfl rfl (okb b1) rfl (Yld.pld (z:=([],false,[],false,[])) (v:=.bool (((mget d_files p).getD ([],false,[],false,[])).2.1)) qY hd_files (h3 b1) rfl rfl rfl rfl) (zg rfl (zt (okb b1) rfl) (wk (hQ _ _ ⟨((mget d_files p).getD ([],false,[],false,[])).2.1,rfl,by rw [b1] <;> rfl,rfl⟩)))))))))))))))
  ·exact gn b1 (h:=(gn b1 (h:=(gn b1 (h:=(gn b1 (h:=(gn b1 (h:=(gn b1 (h:=(gn b1 (h:=(gn b1 (h:=(gn b1 (h:=(zg rfl (zr (okb b1) rfl) (wk (hQ _ _ ⟨false,rfl,by rw [b1] <;> rfl,rfl⟩))))))))))))))))))))
set_option maxHeartbeats 8000000 in
theorem W_pdisk_Disk_known {w:World} {g_d:Nat} {a0:Nat} {a1:List (List UInt8 × PH)} {d_files:List (List UInt8 × List UInt8 × Bool × List UInt8 × Bool × List (Int × List UInt8))} {d_ops:Int} {d_left:Int} {d_down:Bool} {p:List UInt8} {K:(List (List UInt8 × List UInt8 × Bool × List UInt8 × Bool × List (Int × List UInt8)))->Int->Int->Bool->Prop} (hd_files:jc pe86 w a0 a1 d_files none) (hd:Bl w g_d 81 [.map (some a0),.int .i64 d_ops,.int .i64 d_left,.bool d_down]) (hdj0_1:AllP (Dj (some g_d)) (FP a0 a1 none)) (H:Za d_files d_ops d_left d_down p K):Fn Tryz.prog 86 ⟨[.pointer (some ⟨g_d,0,none⟩),vs p]⟩ w (fun v w'=>GrL ((some g_d) :: (FP a0 a1 none)) w w'/\∃ (a3:List (List UInt8 × PH)),∃ (d_files2:List (List UInt8 × List UInt8 × Bool × List UInt8 × Bool × List (Int × List UInt8))),∃ (d_ops2:Int),∃ (d_left2:Int),∃ (d_down2:Bool),v=pq a3 p/\Bl w' g_d 81 [.map (some a0),.int .i64 d_ops2,.int .i64 d_left2,.bool d_down2]/\jc pe86 w' a0 a3 d_files2 none/\AllP (InP ((some g_d) :: (FP a0 a1 none)) w.heap.size) (FP a0 a3 none)/\AllP (Dj (some g_d)) (FP a0 a3 none)/\K d_files2 d_ops2 d_left2 d_down2):=by
 unfold Za at H
 refine Fn.enter (by kernel_rfl) Tryz.func86 rfl Tryz.ntmps86 rfl ?_
 have hNoAt:AllP (NoAt w) ((some g_d) :: (FP a0 a1 none)):=(apC (NoAt.bl hd rfl) hd_files.noats)
 refine zd (zb (yp (h:=(zf (za (zd ?_))))))
 obtain ⟨J1,H,hJ1⟩:=H
 refine qd (fun L' w'=>∃ (d0:List (List UInt8 × List UInt8 × Bool × List UInt8 × Bool × List (Int × List UInt8))),∃ (a7:List (List UInt8 × PH)),L'=[(0,.pointer (some ⟨g_d,0,none⟩)),(1,vs p)]/\J1 d0/\GrL ((some g_d) :: (FP a0 a1 none)) w w'/\Bl w' g_d 81 [.map (some a0),.int .i64 d_ops,.int .i64 d_left,.bool d_down]/\jc pe86 w' a0 a7 d0 none/\AllP (Dj (some g_d)) (FP a0 a7 none)/\AllP (InP ((some g_d) :: (FP a0 a1 none)) w.heap.size) (FP a0 a7 none)) ?_ (fun hQ=>?_)
 ·clear H
  rintro _ w1 ⟨d0,a7,rfl,H,gr1,k1,k2,dj1,hi1⟩
  replace H:=hJ1 d0 H
  refine za (zd (zb (yp (h:=(yp (h:=(yp (h:=(zg rfl (zk qY k1 rfl rfl rfl) (yp (h:=?_)))))))))))
  obtain ⟨h1,H⟩:=H
  exact zg rfl (qC (keyF_s Tryz.underlying9) Tryz.underlying79 (fun _=>by kernel_rfl) k2 rfl rfl h1) (yp (h:=(zf (za (zq (zw rfl rfl ⟨gr1,a7,d0,d_ops,d_left,d_down,rfl,k1,k2,hi1,dj1,H⟩))))))
 ·clear hJ1
  refine zd (zb (yp (h:=(yp (h:=(yp (h:=(zg rfl (zk qY hd rfl rfl rfl) (yp (h:=?_))))))))))
  obtain ⟨h2,H⟩:=H
  refine zg rfl (qC (keyF_s Tryz.underlying9) Tryz.underlying79 (fun _=>by kernel_rfl) hd_files rfl rfl h2) (zg rfl (Yld.peqP Tryz.underlying83 hd_files rfl rfl) (zf (za (zp rfl (fun b1=>?_) (fun b1=>?_)))))
  ·replace H:=H.1 (b1)
   refine zb (yp (h:=(yp (h:=(yp (h:=(zg rfl (zk qY hd rfl rfl rfl) (yp (h:=(zg rfl (z6 (us:=[vs ([]:List UInt8),.bool false,vs ([]:List UInt8),.bool false,.slice none 0 0]) zero86 places86 rfl rfl) (qm (us:=[vs ([]:List UInt8),.bool false,vs ([]:List UInt8),.bool false,.slice none 0 0]) rfl rfl rfl (fun g1 w2 hB1 hg1 hl1=>?_))))))))))))
   have k3:=hd_files.g0 hg1
   obtain ⟨h3,H⟩:=H
   have hr1:pe86.rel w2 (g1,blk none) (([]:List UInt8),false,([]:List UInt8),false,[]):=⟨_,_,rfl,hB1,((OwnK.nil enc130_ok w2 w.heap.size 130).base (fun _ _=>Nat.zero_le _)),Dj.nr⟩
   refine WL.ef0 (Ef0.poolPut (keyF_s Tryz.underlying9) Tryz.underlying79 k3 h3.2 rfl rfl h3.1 rfl hr1 (hd_files.new (Ge.box hl1)) apNl) ?_
   rintro w3 ⟨k5,hg2⟩
   have gr3:GrL ((some g_d) :: (FP a0 a1 none)) w w3:=GrL.mod ((GrL.of0 (ps:=((some g_d) :: (FP a0 a1 none))) hg1)) hg2 (apH (InA.mem (fun _ hp=>List.Mem.tail _ (hp))))
   exact zf (WX.weaken sb (hQ _ _ ⟨mput d_files p (([]:List UInt8),false,([]:List UInt8),false,[]),mput a1 p (g1,blk none),rfl,H,gr3,((hd.g0 hg1).go hg2 (apH hdj0_1)),k5,(jc.putA k3 hdj0_1 (Dj.new hd.lt' (Ge.box hl1)) Dj.nr),(jc.putA k3 (InA.mem (fun _ hp=>List.Mem.tail _ (hp))) (InP.ge (Ge.le (Ge.box hl1) (Nat.le_refl _))) InP.none)⟩))
  ·replace H:=H.2 (b1)
   exact zo (WX.weaken sb (hQ _ _ ⟨d_files,a1,rfl,H,(GrL.refl _),hd,hd_files,hdj0_1,(InA.mem (fun _ hp=>List.Mem.tail _ (hp)))⟩))
set_option maxHeartbeats 8000000 in
theorem W_pdisk_Disk_Ops {w:World} {g_d:Nat} {a0:Nat} {a1:List (List UInt8 × PH)} {d_files:List (List UInt8 × List UInt8 × Bool × List UInt8 × Bool × List (Int × List UInt8))} {d_ops:Int} {d_left:Int} {d_down:Bool} {K:Int->Prop} (hd_files:jc pe86 w a0 a1 d_files none) (hd:Bl w g_d 81 [.map (some a0),.int .i64 d_ops,.int .i64 d_left,.bool d_down]) (H:M_pdisk_Disk_Ops d_files d_ops d_left d_down K):Fn Tryz.prog 32 ⟨[.pointer (some ⟨g_d,0,none⟩)]⟩ w (fun v w'=>w=w'/\∃ (r:Int),v=.int .i64 r/\K r):=by
 unfold M_pdisk_Disk_Ops at H
 refine Fn.enter (by kernel_rfl) Tryz.func32 rfl Tryz.ntmps32 rfl ?_
 exact zd (zb (yp (h:=(zf (za (zd (zb (yp (h:=(yp (h:=(yp (h:=(zg rfl (zk qY hd rfl rfl rfl) (yp (h:=(zf (za (zq (zw rfl rfl ⟨rfl,d_ops,rfl,H⟩))))))))))))))))))))
set_option maxHeartbeats 8000000 in
theorem W_pdisk_Disk_Down {w:World} {g_d:Nat} {a0:Nat} {a1:List (List UInt8 × PH)} {d_files:List (List UInt8 × List UInt8 × Bool × List UInt8 × Bool × List (Int × List UInt8))} {d_ops:Int} {d_left:Int} {d_down:Bool} {K:Bool->Prop} (hd_files:jc pe86 w a0 a1 d_files none) (hd:Bl w g_d 81 [.map (some a0),.int .i64 d_ops,.int .i64 d_left,.bool d_down]) (H:M_pdisk_Disk_Down d_files d_ops d_left d_down K):Fn Tryz.prog 31 ⟨[.pointer (some ⟨g_d,0,none⟩)]⟩ w (fun v w'=>w=w'/\∃ (r:Bool),v=.bool r/\K r):=by
 unfold M_pdisk_Disk_Down at H
 refine Fn.enter (by kernel_rfl) Tryz.func31 rfl Tryz.ntmps31 rfl ?_
 exact zd (zb (yp (h:=(zf (za (zd (zb (yp (h:=(yp (h:=(yp (h:=(zg rfl (zk qY hd rfl rfl rfl) (yp (h:=(zf (za (zq (zw rfl rfl ⟨rfl,d_down,rfl,H⟩))))))))))))))))))))
set_option maxHeartbeats 8000000 in
theorem W_pdisk_Disk_Arm {w:World} {g_d:Nat} {a0:Nat} {a1:List (List UInt8 × PH)} {d_files:List (List UInt8 × List UInt8 × Bool × List UInt8 × Bool × List (Int × List UInt8))} {d_ops:Int} {d_left:Int} {d_down:Bool} {n:Int} {K:(List (List UInt8 × List UInt8 × Bool × List UInt8 × Bool × List (Int × List UInt8)))->Int->Int->Bool->Prop} (hd_files:jc pe86 w a0 a1 d_files none) (hd:Bl w g_d 81 [.map (some a0),.int .i64 d_ops,.int .i64 d_left,.bool d_down]) (hdj0_1:AllP (Dj (some g_d)) (FP a0 a1 none)) (H:Zr d_files d_ops d_left d_down n K):Fn Tryz.prog 20 ⟨[.pointer (some ⟨g_d,0,none⟩),.int .i64 n]⟩ w (fun v w'=>GrL ((some g_d) :: (FP a0 a1 none)) w w'/\∃ (a3:List (List UInt8 × PH)),∃ (d_files2:List (List UInt8 × List UInt8 × Bool × List UInt8 × Bool × List (Int × List UInt8))),∃ (d_ops2:Int),∃ (d_left2:Int),∃ (d_down2:Bool),v=.tuple #[]/\Bl w' g_d 81 [.map (some a0),.int .i64 d_ops2,.int .i64 d_left2,.bool d_down2]/\jc pe86 w' a0 a3 d_files2 none/\AllP (InP ((some g_d) :: (FP a0 a1 none)) w.heap.size) (FP a0 a3 none)/\AllP (Dj (some g_d)) (FP a0 a3 none)/\K d_files2 d_ops2 d_left2 d_down2):=by
 unfold Zr at H
 refine Fn.enter (by kernel_rfl) Tryz.func20 rfl Tryz.ntmps20 rfl ?_
 have hNoAt:AllP (NoAt w) ((some g_d) :: (FP a0 a1 none)):=(apC (NoAt.bl hd rfl) hd_files.noats)
 refine zb (yp (h:=(yp (h:=(zg rfl (zB rfl rfl) (yp (h:=(yp (h:=(zR one3 rfl rfl rfl hd (by simp) (fun w1 hB2 hg1=>?_)))))))))))
 have hB1:Bl w1 g_d 81 [.map (some a0),.int .i64 d_ops,.int .i64 (if n<(0:Int) then (0:Int) else n),.bool d_down]:=hB2
 have gr1:GrL ((some g_d) :: (FP a0 a1 none)) w w1:=GrL.mod (GrL.refl _) hg1 (InP.mem (List.Mem.head _))
 exact zf (qM rfl ⟨gr1,a1,d_files,d_ops,(if n<(0:Int) then (0:Int) else n),d_down,rfl,hB1,(hd_files.go hg1 hdj0_1),(InA.mem (fun _ hp=>List.Mem.tail _ (hp))),hdj0_1,H⟩)
set_option maxHeartbeats 8000000 in
theorem W_pdisk_Disk_Read {S:List Nat} {B:Nat} {w:World} {g_d:Nat} {a0:Nat} {a1:List (List UInt8 × PH)} {d_files:List (List UInt8 × List UInt8 × Bool × List UInt8 × Bool × List (Int × List UInt8))} {d_ops:Int} {d_left:Int} {d_down:Bool} {p:List UInt8} {K:(List UInt8)->Bool->Er->(List (List UInt8 × List UInt8 × Bool × List UInt8 × Bool × List (Int × List UInt8)))->Int->Int->Bool->Prop} (hG:GB S B w) (hB:B<=w.heap.size) (hP:AllP (fun p=>Ge p B) ((some g_d) :: (FP a0 a1 none))) (hS15:15∈S) (hd_files:jc pe86 w a0 a1 d_files none) (hd:Bl w g_d 81 [.map (some a0),.int .i64 d_ops,.int .i64 d_left,.bool d_down]) (hdj0_1:AllP (Dj (some g_d)) (FP a0 a1 none)) (H:jU d_files d_ops d_left d_down p K):Fn Tryz.prog 36 ⟨[.pointer (some ⟨g_d,0,none⟩),vs p]⟩ w (fun v w'=>GrL ((some g_d) :: (FP a0 a1 none)) w w'/\∃ (r0:List UInt8),∃ (r1:Bool),∃ (v_r2:Value),∃ (r2:Er),∃ (a3:List (List UInt8 × PH)),∃ (d_files2:List (List UInt8 × List UInt8 × Bool × List UInt8 × Bool × List (Int × List UInt8))),∃ (d_ops2:Int),∃ (d_left2:Int),∃ (d_down2:Bool),v=.tuple #[vs r0,.bool r1,v_r2]/\ErrR S w' v_r2 r2/\Bl w' g_d 81 [.map (some a0),.int .i64 d_ops2,.int .i64 d_left2,.bool d_down2]/\jc pe86 w' a0 a3 d_files2 none/\AllP (InP ((some g_d) :: (FP a0 a1 none)) w.heap.size) (FP a0 a3 none)/\AllP (Dj (some g_d)) (FP a0 a3 none)/\K r0 r1 r2 d_files2 d_ops2 d_left2 d_down2):=by
 unfold jU at H
 refine Fn.enter (by kernel_rfl) Tryz.func36 rfl Tryz.ntmps36 rfl ?_
 have hNoAt:AllP (NoAt w) ((some g_d) :: (FP a0 a1 none)):=(apC (NoAt.bl hd rfl) hd_files.noats)
 refine zd (zb (yp (h:=(yp (h:=(yp (h:=(zf (za (zd (zd (zb (yp (h:=(WL.call rfl rfl (W_pdisk_Disk_call hG (Nat.le_trans hB (Nat.le_refl _)) (apC (InP.toGe (InP.mem (List.Mem.head _)) hP hB) (InA.toGe (InA.mem (fun _ hp=>List.Mem.tail _ (hp))) hP hB)) hS15 hd_files hd hdj0_1 H) ?_)))))))))))))))
 rintro v_err w1 ⟨hgl1,_,err,a9,d_,d_2,d_3,d_4,rfl,herr,hB1,hM1,hi1,dj1,H⟩
 have gr1:GrL ((some g_d) :: (FP a0 a1 none)) w w1:=GrL.modL (GrL.refl _) hgl1 (apC (InP.mem (List.Mem.head _)) (InA.mem (fun _ hp=>List.Mem.tail _ (hp))))
 refine yp (h:=(zf (za (zd (zb (yp (h:=(zg rfl (qj Tryz.underlying26 herr rfl) (yp (h:=?_))))))))))
 obtain ⟨J1,H,hJ1⟩:=H
 refine zL 5 (fun L' w'=>∃ q1:Bool,L'=[(17,.bool q1),(0,.pointer (some ⟨g_d,0,none⟩)),(1,vs p),(7,v_err)]/\J1 q1/\w1=w') ?_ (fun hQ=>?_)
 ·clear H
  rintro _ _ ⟨q1,rfl,H,rfl⟩
  replace H:=hJ1 q1 H
  refine zf (za (zp rfl (fun b1=>?_) (fun b1=>?_)))
  ·replace H:=H.1 (b1)
   exact zd (zb (yp (h:=(yp (h:=(yp (h:=(yp (h:=(zf (za (zq (zh (WX.ret3 rfl rfl rfl rfl ⟨gr1,([]:List UInt8),false,v_err,err,a9,d_,d_2,d_3,d_4,rfl,herr,hB1,hM1,(InA.trans hi1 (apC (InP.mem (List.Mem.head _)) (InA.mem (fun _ hp=>List.Mem.tail _ (hp)))) (Nat.le_refl _)),dj1,H⟩))))))))))))))
  ·replace H:=H.2 (b1)
   refine zo (za (zd (zb (yp (h:=(yp (h:=(yp (h:=(zg rfl (zk qY hB1 rfl rfl rfl) (yp (h:=?_))))))))))))
   obtain ⟨h1,H⟩:=H
   refine zg rfl (qC (keyF_s Tryz.underlying9) Tryz.underlying79 (fun _=>by kernel_rfl) hM1 rfl rfl h1) ?_
   obtain ⟨h2,H⟩:=H
   exact zg rfl (qP hM1 h2 rfl) (zg rfl (qW qY hM1 h2 rfl rfl rfl) (zg rfl (Yld.pld (z:=([],false,[],false,[])) (v:=vs (((mget d_ p).getD ([],false,[],false,[])).1)) qY hM1 h2 rfl rfl rfl rfl) (yp (h:=(yp (h:=(yp (h:=(zf (za (zq (WX.ret3 rfl rfl rfl rfl ⟨gr1,((mget d_ p).getD ([],false,[],false,[])).1,true,.nilIface,Er.ok,a9,d_,d_2,d_3,d_4,rfl,(ErrR.okR (S:=S) (w:=w1)),hB1,hM1,(InA.trans hi1 (apC (InP.mem (List.Mem.head _)) (InA.mem (fun _ hp=>List.Mem.tail _ (hp)))) (Nat.le_refl _)),dj1,H⟩))))))))))))
 ·clear hJ1
  rcases Bool.eq_false_or_eq_true (!decide (err=Er.ok)) with b2 | b2
  ·replace H:=H.1 b2
   exact gn b2 (h:=(gn b2 (h:=(gn b2 (h:=(gn b2 (h:=(zg rfl (zt (okb b2) rfl) (wk (hQ _ _ ⟨true,rfl,H,rfl⟩))))))))))
  ·replace H:=H.2 b2
   refine gp b2 (h:=(gp b2 (h:=(qN (jb rfl rfl (okb b2)) rfl rfl (ZE hM1 hB1 H) ?_))))
   rintro _ _ ⟨rfl,t15,rfl,H⟩
   exact gp b2 (h:=(zg rfl (zr (okb b2) rfl) (wk (hQ _ _ ⟨!t15,rfl,H,rfl⟩))))
set_option maxHeartbeats 8000000 in
theorem W_pdisk_Disk_paths {w:World} {g_d:Nat} {a0:Nat} {a1:List (List UInt8 × PH)} {d_files:List (List UInt8 × List UInt8 × Bool × List UInt8 × Bool × List (Int × List UInt8))} {d_ops:Int} {d_left:Int} {d_down:Bool} {K:(List (List UInt8))->Prop} (hd_files:jc pe86 w a0 a1 d_files none) (hd:Bl w g_d 81 [.map (some a0),.int .i64 d_ops,.int .i64 d_left,.bool d_down]) (H:ku d_files d_ops d_left d_down K):Fn Tryz.prog 66 ⟨[.pointer (some ⟨g_d,0,none⟩)]⟩ w (fun v w'=>w.grownBy w' none/\∃ (r:List (List UInt8)),∃ (A_r:Option Addr),∃ (c_r:Nat),v=.slice A_r r.length c_r/\Own vs w' w.heap.size 9 A_r c_r r/\K r):=by
 unfold ku at H
 refine Fn.enter (by kernel_rfl) Tryz.func66 rfl Tryz.ntmps66 rfl ?_
 refine zd (zb (yp (h:=(zf (za (zd (zb (yp (h:=(zf (za (zd (zd (zb (yp (h:=(yp (h:=(yp (h:=(zg rfl (zk qY hd rfl rfl rfl) (qQ je rfl (Eff.rangeP hd_files Tryz.underlying79 rfl) ?_))))))))))))))))))))))
 rintro _ w1 ⟨rfl,k1,hg1⟩
 refine zf (za (WC.block ?_))
 obtain ⟨I1,mu1,c6,HR1⟩:=H
 refine zW (fun n' L' w'=>∃ (l:List (List UInt8)),∃ (A_l:Option Addr),∃ (c_l:Nat),∃ (n_l:Nat),∃ (left:List (List UInt8)),n'=mu1 l left/\L'=[(3,.slice A_l n_l c_l),(10,.pointer (some ⟨w.heap.size,0,none⟩))]/\I1 l left/\n_l=l.length/\w.grownBy w' none/\RngP w' a0 w.heap.size a1 left/\Own vs w' w.heap.size 9 A_l c_l l/\Dj (some w.heap.size) (blk A_l)) _ _ ⟨[],none,0,0,d_files.map (·.1),rfl,rfl,c6,rfl,hg1,k1,(Own.nil vs w1 w.heap.size 9),Dj.nr⟩ sb ?_
 clear c6
 rintro _ _ w2 ⟨l,A_l,c_l,n_l,left,rfl,rfl,hI1,rfl,gr2,k2,k3,dj1⟩
 have H:=HR1 l left hI1
 refine zd (zb (qQ je rfl (Eff.nextP k2 (hd_files.g0 gr2).uq rfl) ?_))
 rintro _ w3 (⟨hks1,rfl,k4,hg2⟩ | ⟨ix,key,hq1,rfl,hsm1,k4,hg2,hE1⟩)
 ·replace H:=H.1 hks1
  have k5:=k3.grown hg2
  refine yp (h:=(zf (za (zd (zp rfl (fun h=>by cases h) (fun _=>zD (zj (zj (zm (za (zd (zb (yp (h:=(WL.call rfl rfl (W_slices_Sort_string_string k5 rfl H) ?_)))))))))))))))
  rintro _ w4 ⟨ys,rfl,hO1,hg3,hl2,H⟩
  exact zf (za (zd (zb (yp (h:=(yp (h:=(zf (za (zq (zw rfl rfl ⟨(jk (ja gr2 hg2) hg3 k5.ge'),ys,A_l,c_l,(by rw [((rfl:l.length=l.length).trans hl2.symm)]),hO1,H⟩)))))))))))
 ·replace H:=H.2 ix key hq1
  have gr5:=jk gr2 hg2 (Ge.le (Ge.box (Nat.le_refl _)) (Nat.le_refl _))
  have k6:=k3.go hg2 dj1.symm
  refine yp (h:=(zf (za (zd (zp rfl (fun _=>zo (za (WC.block (zd (zb (zg rfl (Yld.entry hE1 rfl) (yp (h:=(yp (h:=(yp (h:=(yp (h:=(zf (za (zd (zb (yp (h:=?_)))))))))))))))))))) (fun h=>by cases h))))))
  obtain ⟨h1,H⟩:=H
  refine zg rfl (qP (hd_files.g0 gr5) h1 rfl) (zg rfl (qW qY (hd_files.g0 gr5) h1 rfl rfl rfl) (zg rfl (Yld.pld (z:=([],false,[],false,[])) (v:=.bool (((mget d_files key).getD ([],false,[],false,[])).2.1)) qY (hd_files.g0 gr5) h1 rfl rfl rfl rfl) (zf (za (zp rfl (fun b1=>?_) (fun b1=>?_))))))
  ·replace H:=H.1 (b1)
   refine zb (yp (h:=(yp (h:=(qD qY rfl rfl rfl (jd rfl kg) rfl (by omega) (fun g1 w5 hB1 hg4 hl3=>?_))))))
   have hO2:Own vs w5 w.heap.size 9 (some ⟨g1,0,none⟩) 1 ([key]:List (List UInt8)):=Own.ofBl hB1 (Nat.le_trans (qZ gr5) hl3) (by simp [maxLen]) rfl
   have gr6:=ja gr5 hg4
   have k7:=k4.g0 hg4
   have k8:=k6.grown hg4
   obtain ⟨h2,H⟩:=H
   exact qp qY rfl rfl One.s k8 rfl rfl hO2.rd rfl rfl h2 (kF h2) (qZ gr6) (fun e3 e5 w6 hO3 hg5 hk1=>yp (h:=(zf (zi (zS _ ⟨l++([key]:List (List UInt8)),e3,e5,(l++([key]:List (List UInt8))).length,left.eraseIdx ix,rfl,rfl,H.1,rfl,(jk gr6 hg5 k8.ge'),(k7.go hg5 dj1 (apH (hd_files.inp (InP.ge k8.ge') apN)).symm),hO3,(Dj.app dj1.symm k7.lt' hk1).symm⟩ sb H.2)))))
  ·replace H:=H.2 (b1)
   exact zo (zi (zS _ ⟨l,A_l,c_l,l.length,left.eraseIdx ix,rfl,rfl,H.1,rfl,gr5,k4,k6,dj1⟩ sb H.2))
set_option maxHeartbeats 8000000 in
theorem W_pdisk_Disk_count {w:World} {g_d:Nat} {a0:Nat} {a1:List (List UInt8 × PH)} {d_files:List (List UInt8 × List UInt8 × Bool × List UInt8 × Bool × List (Int × List UInt8))} {d_ops:Int} {d_left:Int} {d_down:Bool} {K:Int->Prop} (hd_files:jc pe86 w a0 a1 d_files none) (hd:Bl w g_d 81 [.map (some a0),.int .i64 d_ops,.int .i64 d_left,.bool d_down]) (H:kZ d_files d_ops d_left d_down K):Fn Tryz.prog 85 ⟨[.pointer (some ⟨g_d,0,none⟩)]⟩ w (fun v w'=>w.grownBy w' none/\∃ (r:Int),v=.int .i64 r/\K r):=by
 unfold kZ at H
 refine Fn.enter (by kernel_rfl) Tryz.func85 rfl Tryz.ntmps85 rfl ?_
 refine zd (zb (yp (h:=(zf (za (zd (zb (yp (h:=(WL.call rfl rfl (W_pdisk_Disk_paths hd_files hd H) ?_))))))))))
 rintro _ w1 ⟨hg1,t4,f6,f7,rfl,ht4,H⟩
 have hb1:=ht4.ge'
 have k1:=ht4.base (fun g hg=>Nat.le_trans (Nat.le_refl _) (hb1 g hg))
 exact yp (h:=(yp (h:=(zf (za (zq (zw rfl rfl ⟨hg1,(t4.length:Int),rfl,H⟩)))))))
set_option maxHeartbeats 8000000 in
theorem W_pdisk_Disk_put {S:List Nat} {B:Nat} {w:World} {g_d:Nat} {a0:Nat} {a1:List (List UInt8 × PH)} {d_files:List (List UInt8 × List UInt8 × Bool × List UInt8 × Bool × List (Int × List UInt8))} {d_ops:Int} {d_left:Int} {d_down:Bool} {p:List UInt8} {text:List UInt8} {a6:Int} {a8:List UInt8} {K:Er->(List (List UInt8 × List UInt8 × Bool × List UInt8 × Bool × List (Int × List UInt8)))->Int->Int->Bool->Prop} (hG:GB S B w) (hB:B<=w.heap.size) (hP:AllP (fun p=>Ge p B) ((some g_d) :: (FP a0 a1 none))) (hS9:9∈S) (hS11:11∈S) (hS15:15∈S) (hS100:100∈S) (hd_files:jc pe86 w a0 a1 d_files none) (hd:Bl w g_d 81 [.map (some a0),.int .i64 d_ops,.int .i64 d_left,.bool d_down]) (hdj0_1:AllP (Dj (some g_d)) (FP a0 a1 none)) (H:j0 d_files d_ops d_left d_down p text a6 a8 K):Fn Tryz.prog 60 ⟨[.pointer (some ⟨g_d,0,none⟩),vs p,vs text,.agg ⟨[.int .i64 a6,vs a8]⟩]⟩ w (fun v w'=>GrL ((some g_d) :: (FP a0 a1 none)) w w'/\∃ (v_r:Value),∃ (r:Er),∃ (a3:List (List UInt8 × PH)),∃ (d_files2:List (List UInt8 × List UInt8 × Bool × List UInt8 × Bool × List (Int × List UInt8))),∃ (d_ops2:Int),∃ (d_left2:Int),∃ (d_down2:Bool),v=v_r/\ErrR S w' v_r r/\Bl w' g_d 81 [.map (some a0),.int .i64 d_ops2,.int .i64 d_left2,.bool d_down2]/\jc pe86 w' a0 a3 d_files2 none/\AllP (InP ((some g_d) :: (FP a0 a1 none)) w.heap.size) (FP a0 a3 none)/\AllP (Dj (some g_d)) (FP a0 a3 none)/\K r d_files2 d_ops2 d_left2 d_down2):=by
 unfold j0 at H
 refine Fn.enter (by kernel_rfl) Tryz.func60 rfl Tryz.ntmps60 rfl ?_
 have hNoAt:AllP (NoAt w) ((some g_d) :: (FP a0 a1 none)):=(apC (NoAt.bl hd rfl) hd_files.noats)
 refine zd (zb (qm (us:=[.int .i64 a6,vs a8]) rfl rfl rfl (fun g1 w1 hB1 hg1 hl1=>?_)))
 have gr1:=(GrL.of0 (ps:=((some g_d) :: (FP a0 a1 none))) hg1)
 have k1:=hd_files.g0 hg1
 have k2:=hd.g0 hg1
 refine yp (h:=(zf (za (zd (zd (zb (yp (h:=(WL.call rfl rfl (W_pdisk_Disk_call (hG.goL gr1 hP) (Nat.le_trans hB (GrL.sizeL gr1)) (apC (InP.toGe (InP.mem (List.Mem.head _)) hP hB) (InA.toGe (InA.mem (fun _ hp=>List.Mem.tail _ (hp))) hP hB)) hS15 k1 k2 hdj0_1 H) ?_)))))))))
 rintro v_err w2 ⟨hgl1,_,err,a9,d_,d_2,d_3,d_4,rfl,herr,hB2,hM1,hi1,dj1,H⟩
 have gr2:GrL ((some g_d) :: (FP a0 a1 none)) w w2:=GrL.modL gr1 hgl1 (apC (InP.mem (List.Mem.head _)) (InA.mem (fun _ hp=>List.Mem.tail _ (hp))))
 have k3:=hB1.goL hgl1 (apC (Dj.new hd.lt' (Ge.box hl1)).symm (hd_files.new (Ge.box hl1)))
 refine yp (h:=(zf (za (zd (zb (yp (h:=(zg rfl (qj Tryz.underlying26 herr rfl) (zf (za (zp rfl (fun b1=>?_) (fun b1=>?_))))))))))))
 ·replace H:=H.1 (Zp b1)
  exact zd (zb (yp (h:=(yp (h:=(zf (za (zq (zh (zw rfl rfl ⟨gr2,v_err,err,a9,d_,d_2,d_3,d_4,rfl,herr,hB2,hM1,(InA.trans hi1 (apC (InP.mem (List.Mem.head _)) (InA.mem (fun _ hp=>List.Mem.tail _ (hp)))) (GrL.sizeL gr1)),dj1,H⟩))))))))))
 ·replace H:=H.2 (kL b1)
  refine zo (za (zd ?_))
  obtain ⟨J1,H,hJ1⟩:=H
  refine qd (fun L' w'=>∃ (text2:List UInt8),L'=[(0,.pointer (some ⟨g_d,0,none⟩)),(1,vs p),(2,vs text2),(7,.pointer (some ⟨g1,0,none⟩))]/\J1 text2/\w2=w') ?_ (fun hQ=>?_)
  ·clear H
   rintro _ _ ⟨text2,rfl,H,rfl⟩
   replace H:=hJ1 text2 H
   refine za (zd (WC.block (zd (zb (yp (h:=(WL.call rfl rfl (W_path_Valid (hG.goL gr2 hP).ok hS100 H) ?_)))))))
   rintro _ w3 ⟨hg2,t37,rfl,H⟩
   have gr3:=GrL.add0 gr2 hg2
   have k4:=hM1.g0 hg2
   have k5:=hB2.g0 hg2
   have k6:=k3.g0 hg2
   refine yp (h:=(yp (h:=(zL 4 (fun L' w'=>∃ q1:Bool,L'=[(43,.bool q1),(0,.pointer (some ⟨g_d,0,none⟩)),(1,vs p),(2,vs text2),(7,.pointer (some ⟨g1,0,none⟩))]/\((!t37) || (decide ((65536:Int)<(text2.length:Int))))=q1/\w3=w') ?_ (fun hQ=>?_)))))
   ·rintro _ _ ⟨q1,rfl,rfl,rfl⟩
    refine yp (h:=(zf (za (zp rfl (fun b2=>?_) (fun b2=>?_)))))
    ·replace H:=H.1 (b2)
     refine zd (zb ?_)
     obtain ⟨vE1,_,hE1⟩:=GOK.get (hG.goL gr3 hP).ok 11 0 hS11 rfl rfl
     exact zg rfl (Yld.cell qY (ErrR.cell hE1 rfl) rfl rfl) (yp (h:=(zf (za (zq (zn (zh (zw rfl rfl ⟨gr3,vE1,(Er.e 11),a9,d_,d_2,d_3,d_4,rfl,hE1,k5,k4,(InA.trans hi1 (apC (InP.mem (List.Mem.head _)) (InA.mem (fun _ hp=>List.Mem.tail _ (hp)))) (GrL.sizeL gr1)),dj1,H⟩))))))))
    ·replace H:=H.2 (b2)
     refine zd (zb (yp (h:=(yp (h:=(WL.call rfl rfl (ZE k4 k5 H) ?_))))))
     rintro _ _ ⟨rfl,t48,rfl,H⟩
     refine yp (h:=(yp (h:=?_)))
     obtain ⟨J2,H,hJ2⟩:=H
     refine zL 4 (fun L' w'=>∃ q2:Bool,L'=[(54,.bool q2),(0,.pointer (some ⟨g_d,0,none⟩)),(1,vs p),(2,vs text2),(7,.pointer (some ⟨g1,0,none⟩))]/\J2 q2/\GrL ((some g_d) :: (FP a0 a1 none)) w w'/\jc pe86 w' a0 a9 d_ none/\Bl w' g_d 81 [.map (some a0),.int .i64 d_2,.int .i64 d_3,.bool d_4]/\Bl w' g1 130 [.int .i64 a6,vs a8]) ?_ (fun hQ=>?_)
     ·clear H
      rintro _ w4 ⟨q2,rfl,H,gr4,k7,k8,k9⟩
      replace H:=hJ2 q2 H
      refine yp (h:=(zf (za (zp rfl (fun b3=>?_) (fun b3=>?_)))))
      ·replace H:=H.1 (b3)
       refine zd (zb ?_)
       obtain ⟨vE2,_,hE2⟩:=GOK.get (hG.goL gr4 hP).ok 9 1 hS9 rfl rfl
       exact zg rfl (Yld.cell qY (ErrR.cell hE2 rfl) rfl rfl) (yp (h:=(zf (za (zq (zn (zh (zw rfl rfl ⟨gr4,vE2,(Er.e 9),a9,d_,d_2,d_3,d_4,rfl,hE2,k8,k7,(InA.trans hi1 (apC (InP.mem (List.Mem.head _)) (InA.mem (fun _ hp=>List.Mem.tail _ (hp)))) (GrL.sizeL gr1)),dj1,H⟩))))))))
      ·replace H:=H.2 (b3)
       refine zo (zi (za (zd (zb (yp (h:=(yp (h:=(WL.call rfl rfl (W_pdisk_Disk_known k7 k8 dj1 H) ?_)))))))))
       rintro _ w5 ⟨hgl2,e6,d_5,d_6,d_7,d_8,rfl,hB3,hM2,hi2,dj2,H⟩
       have gr5:GrL ((some g_d) :: (FP a0 a1 none)) w w5:=GrL.modL gr4 hgl2 (apC (InP.mem (List.Mem.head _)) (InA.trans hi1 (apC (InP.mem (List.Mem.head _)) (InA.mem (fun _ hp=>List.Mem.tail _ (hp)))) (GrL.sizeL gr1)))
       refine yp (h:=(zf (za (zd (zb (yp (h:=(yp (h:=(yp (h:=?_)))))))))))
       obtain ⟨h1,H⟩:=H
       refine zg rfl (qP hM2 h1 rfl) (zg rfl (qW qY hM2 h1 rfl rfl rfl) ?_)
       have hx1:mget d_5 p=some ((mget d_5 p).getD ([],false,[],false,[])):=getD_some h1
       obtain ⟨b_pl,r1,hm1,hr1,k11,dj4,dj5⟩:=jc.open hM2 hx1
       obtain ⟨d7,d9,r1e,hB4,hO1,dj3⟩:=hr1
       subst r1e
       simp only [pq_some hm1,pqo_some hm1]
       refine zR one9 rfl rfl rfl hB4 (by simp) (fun w6 hB6 hg3=>?_)
       have hB5:Bl w6 b_pl 86 [vs text2,.bool (((mget d_5 p).getD ([],false,[],false,[])).2.1),vs (((mget d_5 p).getD ([],false,[],false,[])).2.2.1),.bool (((mget d_5 p).getD ([],false,[],false,[])).2.2.2.1),.slice d7 ((((mget d_5 p).getD ([],false,[],false,[])).2.2.2.2).length) d9]:=hB6
       have gr6:GrL ((some g_d) :: (FP a0 a1 none)) w w6:=GrL.mod gr5 hg3 (jc.at1 hM2 hm1 (InA.trans hi2 (apC (InP.mem (List.Mem.head _)) (InA.trans hi1 (apC (InP.mem (List.Mem.head _)) (InA.mem (fun _ hp=>List.Mem.tail _ (hp)))) (GrL.sizeL gr1))) (GrL.sizeL gr4)))
       refine yp (h:=(yp (h:=(zR one4 rfl rfl rfl hB5 (by simp) (fun w7 hB8 hg4=>?_)))))
       have hB7:Bl w7 b_pl 86 [vs text2,.bool true,vs (((mget d_5 p).getD ([],false,[],false,[])).2.2.1),.bool (((mget d_5 p).getD ([],false,[],false,[])).2.2.2.1),.slice d7 ((((mget d_5 p).getD ([],false,[],false,[])).2.2.2.2).length) d9]:=hB8
       have gr7:GrL ((some g_d) :: (FP a0 a1 none)) w w7:=GrL.mod gr6 hg4 (jc.at1 hM2 hm1 (InA.trans hi2 (apC (InP.mem (List.Mem.head _)) (InA.trans hi1 (apC (InP.mem (List.Mem.head _)) (InA.mem (fun _ hp=>List.Mem.tail _ (hp)))) (GrL.sizeL gr1))) (GrL.sizeL gr4)))
       have k18:=((k9.goL hgl2 (apC (Dj.new hd.lt' (Ge.box hl1)).symm (InA.dj hi1 hB1.lt' (apC (Dj.new hd.lt' (Ge.box hl1)).symm (hd_files.new (Ge.box hl1)))))).go hg3 (jc.at1 hM2 hm1 (InA.dj hi2 k9.lt' (apC (Dj.new hd.lt' (Ge.box hl1)).symm (InA.dj hi1 hB1.lt' (apC (Dj.new hd.lt' (Ge.box hl1)).symm (hd_files.new (Ge.box hl1)))))))).go hg4 (jc.at1 hM2 hm1 (InA.dj hi2 k9.lt' (apC (Dj.new hd.lt' (Ge.box hl1)).symm (InA.dj hi1 hB1.lt' (apC (Dj.new hd.lt' (Ge.box hl1)).symm (hd_files.new (Ge.box hl1)))))))
       refine zf (za (zd (zO (fun k => !(Nat.beq k 6 || Nat.beq k 7 || Nat.beq k 10)) (LD [4,5] (fun w'=>Bl w' b_pl 86 [vs text2,.bool true,vs (((mget d_5 p).getD ([],false,[],false,[])).2.2.1),.bool (((mget d_5 p).getD ([],false,[],false,[])).2.2.2.1),.slice d7 ((((mget d_5 p).getD ([],false,[],false,[])).2.2.2.2).length) d9]/\Bl w' g1 130 [.int .i64 a6,vs a8])) mixed (by kernel_rfl) (fun k w' h _=>⟨(ji h hB7),(ji h k18)⟩) (zl rfl rfl (fun w' hw'=>zc qY rfl) (zl rfl rfl (fun w' hw'=>zc qY rfl) (zl rfl rfl (fun w' hw'=>zc qY rfl) (zl rfl rfl (fun w' hw'=>zc qY rfl) (zl rfl rfl (fun w' hw'=>zk qY (hw' rfl).1 rfl rfl rfl) (zl rfl rfl (fun w' hw'=>zQ (vs:=[.int .i64 a6,vs a8]) qY (hw' rfl).2 rfl rfl rfl rfl) (qr rfl (je) rfl (Eff.litK (f:=enc130) (xs:=([(a6,a8)]:List (Int × List UInt8))) enc130_ok ow84 rfl rfl rfl) (fun v w' ⟨_,_,h⟩=>DD.keep (⟨(Bl.g0 hB7 (jg h (Eqv.refl _))),(Bl.g0 k18 (jg h (Eqv.refl _)))⟩)) ?_))))))))))
       rintro _ w8 ⟨rfl,hB9,hg5⟩
       obtain ⟨f3,hl2⟩:∃ g,g=w7.heap.size:=⟨_,rfl⟩
       rw [<-hl2] at hB9
       rw [<-hl2]
       have hO2:OwnK 2 enc130 w8 w.heap.size 130 (some ⟨f3,0,none⟩) 1 ([(a6,a8)]:List (Int × List UInt8)):=OwnK.ofBl enc130_ok hB9 (Nat.le_trans (GrL.sizeL gr7) (Nat.le_of_eq hl2.symm)) (by simp [maxLen]) rfl
       have gr8:=GrL.add0 gr7 hg5
       have k20:=((k11.go hg3 dj4).go hg4 dj4).g0 hg5
       have k21:=((hB3.go hg3 (jc.at1 hM2 hm1 dj2)).go hg4 (jc.at1 hM2 hm1 dj2)).g0 hg5
       have k22:=k18.g0 hg5
       have k24:=hB7.g0 hg5
       obtain ⟨h2,H⟩:=H
       refine qr rfl (je) rfl (qJ ow84 (((hO1.go hg3 dj3.symm).go hg4 dj3.symm).grown hg5) rfl rfl hO2.rd rfl rfl h2 (kF h2) (Nat.zero_le _)) (fun v w' ⟨_,_,_,_,h,_⟩=>DD.keep (⟨(Bl.go k24 (jg h (Eqv.refl _)) dj3),(Bl.go k22 (jg h (Eqv.refl _)) (jc.at2 hM2 hm1 (InA.dj hi2 k9.lt' (apC (Dj.new hd.lt' (Ge.box hl1)).symm (InA.dj hi1 hB1.lt' (apC (Dj.new hd.lt' (Ge.box hl1)).symm (hd_files.new (Ge.box hl1))))))))⟩)) ?_
       rintro _ w9 ⟨d8,f2,rfl,hO3,hg6,hk1⟩
       have gr9:GrL ((some g_d) :: (FP a0 a1 none)) w w9:=GrL.mod gr8 hg6 (jc.at2 hM2 hm1 (InA.trans hi2 (apC (InP.mem (List.Mem.head _)) (InA.trans hi1 (apC (InP.mem (List.Mem.head _)) (InA.mem (fun _ hp=>List.Mem.tail _ (hp)))) (GrL.sizeL gr1))) (GrL.sizeL gr4)))
       refine zl rfl rfl (fun w' hw'=>zc qY rfl) (zl rfl rfl (fun w' hw'=>zc qY rfl) (qh rfl (qc one84 rfl rfl rfl (k24.go hg6 dj3) (by simp)) (fun w' h=>qf (by kernel_rfl)) ?_))
       rintro w10 ⟨hB11,hg7⟩
       have hB10:Bl w10 b_pl 86 [vs text2,.bool true,vs (((mget d_5 p).getD ([],false,[],false,[])).2.2.1),.bool (((mget d_5 p).getD ([],false,[],false,[])).2.2.2.1),.slice d8 (((((mget d_5 p).getD ([],false,[],false,[])).2.2.2.2)++([(a6,a8)]:List (Int × List UInt8))).length) f2]:=hB11
       have gr10:GrL ((some g_d) :: (FP a0 a1 none)) w w10:=GrL.mod gr9 hg7 (jc.at1 hM2 hm1 (InA.trans hi2 (apC (InP.mem (List.Mem.head _)) (InA.trans hi1 (apC (InP.mem (List.Mem.head _)) (InA.mem (fun _ hp=>List.Mem.tail _ (hp)))) (GrL.sizeL gr1))) (GrL.sizeL gr4)))
       have k29:=(k20.go hg6 dj5).go hg7 dj4
       have k31:=(k22.go hg6 (jc.at2 hM2 hm1 (InA.dj hi2 k9.lt' (apC (Dj.new hd.lt' (Ge.box hl1)).symm (InA.dj hi1 hB1.lt' (apC (Dj.new hd.lt' (Ge.box hl1)).symm (hd_files.new (Ge.box hl1)))))))).go hg7 (jc.at1 hM2 hm1 (InA.dj hi2 k9.lt' (apC (Dj.new hd.lt' (Ge.box hl1)).symm (InA.dj hi1 hB1.lt' (apC (Dj.new hd.lt' (Ge.box hl1)).symm (hd_files.new (Ge.box hl1)))))))
       refine z8 (za (zd (zb (yp (h:=(zf (za (zq ?_))))))))
       have hr2:pe86.rel w10 (b_pl,blk d8) (text2,true,((mget d_5 p).getD ([],false,[],false,[])).2.2.1,((mget d_5 p).getD ([],false,[],false,[])).2.2.2.1,(((mget d_5 p).getD ([],false,[],false,[])).2.2.2.2)++([(a6,a8)]:List (Int × List UInt8))):=⟨_,_,rfl,hB10,(hO3.go hg7 (Dj.app dj3.symm k24.lt' hk1)),(Dj.app dj3.symm k24.lt' hk1).symm⟩
       exact zw rfl rfl ⟨gr10,.nilIface,Er.ok,mput e6 p (b_pl,blk d8),mput d_5 p (text2,true,((mget d_5 p).getD ([],false,[],false,[])).2.2.1,((mget d_5 p).getD ([],false,[],false,[])).2.2.2.1,(((mget d_5 p).getD ([],false,[],false,[])).2.2.2.2)++([(a6,a8)]:List (Int × List UInt8))),d_6,d_7,d_8,rfl,(ErrR.okR (S:=S) (w:=w10)),((k21.go hg6 (jc.at2 hM2 hm1 dj2)).go hg7 (jc.at1 hM2 hm1 dj2)),(jc.close k29 hm1 hr2 dj4 (jc.app k20 dj5 hk1)),(jc.closeA k29 (jc.sub hM2 (InA.trans hi2 (apC (InP.mem (List.Mem.head _)) (InA.trans hi1 (apC (InP.mem (List.Mem.head _)) (InA.mem (fun _ hp=>List.Mem.tail _ (hp)))) (GrL.sizeL gr1))) (GrL.sizeL gr4))) (jc.at1 hM2 hm1 (InA.trans hi2 (apC (InP.mem (List.Mem.head _)) (InA.trans hi1 (apC (InP.mem (List.Mem.head _)) (InA.mem (fun _ hp=>List.Mem.tail _ (hp)))) (GrL.sizeL gr1))) (GrL.sizeL gr4))) (InP.app (jc.at2 hM2 hm1 (InA.trans hi2 (apC (InP.mem (List.Mem.head _)) (InA.trans hi1 (apC (InP.mem (List.Mem.head _)) (InA.mem (fun _ hp=>List.Mem.tail _ (hp)))) (GrL.sizeL gr1))) (GrL.sizeL gr4))) hk1 (GrL.sizeL gr8))),(jc.closeA k29 (jc.sub hM2 dj2) (jc.at1 hM2 hm1 dj2) (Dj.app (jc.at2 hM2 hm1 dj2).symm k21.lt' hk1).symm),H⟩
     ·clear hJ2
      rcases Bool.eq_false_or_eq_true (!t48) with b4 | b4
      ·replace H:=H.1 b4
       refine gp b4 (h:=(qN (jb rfl rfl (okb b4)) rfl rfl (W_pdisk_Disk_count k4 k5 H) ?_))
       rintro _ w11 ⟨hg8,t52,rfl,H⟩
       exact gp b4 (h:=(zg rfl (zt (okb b4) rfl) (wk (hQ _ _ ⟨decide ((2000:Int)<=t52),rfl,H,(GrL.add0 gr3 hg8),(k4.g0 hg8),(k5.g0 hg8),(k6.g0 hg8)⟩))))
      ·replace H:=H.2 b4
       exact gn b4 (h:=(gn b4 (h:=(gn b4 (h:=(zg rfl (zr (okb b4) rfl) (wk (hQ _ _ ⟨false,rfl,H,gr3,k4,k5,k6⟩))))))))
   ·clear H
    rcases Bool.eq_false_or_eq_true (!t37) with b5 | b5
    ·exact gn b5 (h:=(gn b5 (h:=(gn b5 (h:=(zg rfl (zt (okb b5) rfl) (wk (hQ _ _ ⟨true,rfl,by rw [b5] <;> rfl,rfl⟩))))))))
    ·exact gp b5 (h:=(gp b5 (h:=(gp b5 (h:=(zg rfl (zr (okb b5) rfl) (wk (hQ _ _ ⟨decide ((65536:Int)<(text2.length:Int)),rfl,by rw [b5] <;> rfl,rfl⟩))))))))
  ·clear hJ1
   refine zd (zb (yp (h:=(zg rfl (zk qY k3 rfl rfl rfl) (yp (h:=(yp (h:=?_))))))))
   obtain ⟨J3,H,hJ3⟩:=H
   refine zL 4 (fun L' w'=>∃ q3:Bool,L'=[(23,.bool q3),(0,.pointer (some ⟨g_d,0,none⟩)),(1,vs p),(2,vs text),(7,.pointer (some ⟨g1,0,none⟩))]/\J3 q3/\w2=w') ?_ (fun hQ=>?_)
   ·clear H
    rintro _ _ ⟨q3,rfl,H,rfl⟩
    replace H:=hJ3 q3 H
    refine zf (za (zp rfl (fun b6=>?_) (fun b6=>?_)))
    ·replace H:=H.1 (b6)
     refine zb (yp (h:=(yp (h:=(yp (h:=(zg rfl (zk qY hB2 rfl rfl rfl) (yp (h:=?_)))))))))
     obtain ⟨h3,H⟩:=H
     refine zg rfl (qC (keyF_s Tryz.underlying9) Tryz.underlying79 (fun _=>by kernel_rfl) hM1 rfl rfl h3) ?_
     obtain ⟨h4,H⟩:=H
     refine zg rfl (qP hM1 h4 rfl) (zg rfl (qW qY hM1 h4 rfl rfl rfl) (zg rfl (Yld.pld (z:=([],false,[],false,[])) (v:=vs (((mget d_ p).getD ([],false,[],false,[])).1)) qY hM1 h4 rfl rfl rfl rfl) (yp (h:=?_))))
     obtain ⟨h5,H⟩:=H
     exact zg rfl (qn rfl rfl h5) (yp (h:=(zf (WX.weaken sb (hQ _ _ ⟨(((mget d_ p).getD ([],false,[],false,[])).1)++text,rfl,H,rfl⟩)))))
    ·replace H:=H.2 (b6)
     exact zo (WX.weaken sb (hQ _ _ ⟨text,rfl,H,rfl⟩))
   ·clear hJ3
    rcases Bool.eq_false_or_eq_true (decide (a6=(1:Int))) with b7 | b7
    ·replace H:=H.1 b7
     refine gp b7 (h:=(gp b7 (h:=(qN (jb rfl rfl (okb b7)) rfl rfl (ZE hM1 hB2 H) ?_))))
     rintro _ _ ⟨rfl,t22,rfl,H⟩
     exact zg rfl (zt (okb b7) rfl) (wk (hQ _ _ ⟨t22,rfl,H,rfl⟩))
    ·replace H:=H.2 b7
     exact gn b7 (h:=(gn b7 (h:=(gn b7 (h:=(zg rfl (zr (okb b7) rfl) (wk (hQ _ _ ⟨false,rfl,H,rfl⟩))))))))
set_option maxHeartbeats 8000000 in
theorem W_pdisk_Disk_Write {S:List Nat} {B:Nat} {w:World} {g_d:Nat} {a0:Nat} {a1:List (List UInt8 × PH)} {d_files:List (List UInt8 × List UInt8 × Bool × List UInt8 × Bool × List (Int × List UInt8))} {d_ops:Int} {d_left:Int} {d_down:Bool} {p:List UInt8} {text:List UInt8} {K:Er->(List (List UInt8 × List UInt8 × Bool × List UInt8 × Bool × List (Int × List UInt8)))->Int->Int->Bool->Prop} (hG:GB S B w) (hB:B<=w.heap.size) (hP:AllP (fun p=>Ge p B) ((some g_d) :: (FP a0 a1 none))) (hS9:9∈S) (hS11:11∈S) (hS15:15∈S) (hS100:100∈S) (hd_files:jc pe86 w a0 a1 d_files none) (hd:Bl w g_d 81 [.map (some a0),.int .i64 d_ops,.int .i64 d_left,.bool d_down]) (hdj0_1:AllP (Dj (some g_d)) (FP a0 a1 none)) (H:ZC d_files d_ops d_left d_down p text K):Fn Tryz.prog 42 ⟨[.pointer (some ⟨g_d,0,none⟩),vs p,vs text]⟩ w (fun v w'=>GrL ((some g_d) :: (FP a0 a1 none)) w w'/\∃ (v_r:Value),∃ (r:Er),∃ (a3:List (List UInt8 × PH)),∃ (d_files2:List (List UInt8 × List UInt8 × Bool × List UInt8 × Bool × List (Int × List UInt8))),∃ (d_ops2:Int),∃ (d_left2:Int),∃ (d_down2:Bool),v=v_r/\ErrR S w' v_r r/\Bl w' g_d 81 [.map (some a0),.int .i64 d_ops2,.int .i64 d_left2,.bool d_down2]/\jc pe86 w' a0 a3 d_files2 none/\AllP (InP ((some g_d) :: (FP a0 a1 none)) w.heap.size) (FP a0 a3 none)/\AllP (Dj (some g_d)) (FP a0 a3 none)/\K r d_files2 d_ops2 d_left2 d_down2):=by
 unfold ZC at H
 refine Fn.enter (by kernel_rfl) Tryz.func42 rfl Tryz.ntmps42 rfl ?_
 have hNoAt:AllP (NoAt w) ((some g_d) :: (FP a0 a1 none)):=(apC (NoAt.bl hd rfl) hd_files.noats)
 refine zd (zb (yp (h:=(zf (za (zd (zb (yp (h:=(yp (h:=(yp (h:=(yp (h:=(zg rfl (z6 (us:=[.int .i64 (0:Int),vs text]) zero130 places130 rfl rfl) (WL.call rfl rfl (W_pdisk_Disk_put hG (Nat.le_trans hB (Nat.le_refl _)) (apC (InP.toGe (InP.mem (List.Mem.head _)) hP hB) (InA.toGe (InA.mem (fun _ hp=>List.Mem.tail _ (hp))) hP hB)) hS9 hS11 hS15 hS100 hd_files hd hdj0_1 H) ?_)))))))))))))))))
 rintro v_t6 w1 ⟨hgl1,_,t6,a9,d_,d_2,d_3,d_4,rfl,ht6,hB1,hM1,hi1,dj1,H⟩
 have gr1:GrL ((some g_d) :: (FP a0 a1 none)) w w1:=GrL.modL (GrL.refl _) hgl1 (apC (InP.mem (List.Mem.head _)) (InA.mem (fun _ hp=>List.Mem.tail _ (hp))))
 exact yp (h:=(zf (za (zq (zw rfl rfl ⟨gr1,v_t6,t6,a9,d_,d_2,d_3,d_4,rfl,ht6,hB1,hM1,(InA.trans hi1 (apC (InP.mem (List.Mem.head _)) (InA.mem (fun _ hp=>List.Mem.tail _ (hp)))) (Nat.le_refl _)),dj1,H⟩)))))
set_option maxHeartbeats 8000000 in
theorem W_pdisk_Disk_Append {S:List Nat} {B:Nat} {w:World} {g_d:Nat} {a0:Nat} {a1:List (List UInt8 × PH)} {d_files:List (List UInt8 × List UInt8 × Bool × List UInt8 × Bool × List (Int × List UInt8))} {d_ops:Int} {d_left:Int} {d_down:Bool} {p:List UInt8} {text:List UInt8} {K:Er->(List (List UInt8 × List UInt8 × Bool × List UInt8 × Bool × List (Int × List UInt8)))->Int->Int->Bool->Prop} (hG:GB S B w) (hB:B<=w.heap.size) (hP:AllP (fun p=>Ge p B) ((some g_d) :: (FP a0 a1 none))) (hS9:9∈S) (hS11:11∈S) (hS15:15∈S) (hS100:100∈S) (hd_files:jc pe86 w a0 a1 d_files none) (hd:Bl w g_d 81 [.map (some a0),.int .i64 d_ops,.int .i64 d_left,.bool d_down]) (hdj0_1:AllP (Dj (some g_d)) (FP a0 a1 none)) (H:kN d_files d_ops d_left d_down p text K):Fn Tryz.prog 25 ⟨[.pointer (some ⟨g_d,0,none⟩),vs p,vs text]⟩ w (fun v w'=>GrL ((some g_d) :: (FP a0 a1 none)) w w'/\∃ (v_r:Value),∃ (r:Er),∃ (a3:List (List UInt8 × PH)),∃ (d_files2:List (List UInt8 × List UInt8 × Bool × List UInt8 × Bool × List (Int × List UInt8))),∃ (d_ops2:Int),∃ (d_left2:Int),∃ (d_down2:Bool),v=v_r/\ErrR S w' v_r r/\Bl w' g_d 81 [.map (some a0),.int .i64 d_ops2,.int .i64 d_left2,.bool d_down2]/\jc pe86 w' a0 a3 d_files2 none/\AllP (InP ((some g_d) :: (FP a0 a1 none)) w.heap.size) (FP a0 a3 none)/\AllP (Dj (some g_d)) (FP a0 a3 none)/\K r d_files2 d_ops2 d_left2 d_down2):=by
 unfold kN at H
 refine Fn.enter (by kernel_rfl) Tryz.func25 rfl Tryz.ntmps25 rfl ?_
 have hNoAt:AllP (NoAt w) ((some g_d) :: (FP a0 a1 none)):=(apC (NoAt.bl hd rfl) hd_files.noats)
 refine zd (zb (yp (h:=(zf (za (zd (zb (yp (h:=(yp (h:=(yp (h:=(yp (h:=(zg rfl (z6 (us:=[.int .i64 (1:Int),vs text]) zero130 places130 rfl rfl) (WL.call rfl rfl (W_pdisk_Disk_put hG (Nat.le_trans hB (Nat.le_refl _)) (apC (InP.toGe (InP.mem (List.Mem.head _)) hP hB) (InA.toGe (InA.mem (fun _ hp=>List.Mem.tail _ (hp))) hP hB)) hS9 hS11 hS15 hS100 hd_files hd hdj0_1 H) ?_)))))))))))))))))
 rintro v_t6 w1 ⟨hgl1,_,t6,a9,d_,d_2,d_3,d_4,rfl,ht6,hB1,hM1,hi1,dj1,H⟩
 have gr1:GrL ((some g_d) :: (FP a0 a1 none)) w w1:=GrL.modL (GrL.refl _) hgl1 (apC (InP.mem (List.Mem.head _)) (InA.mem (fun _ hp=>List.Mem.tail _ (hp))))
 exact yp (h:=(zf (za (zq (zw rfl rfl ⟨gr1,v_t6,t6,a9,d_,d_2,d_3,d_4,rfl,ht6,hB1,hM1,(InA.trans hi1 (apC (InP.mem (List.Mem.head _)) (InA.mem (fun _ hp=>List.Mem.tail _ (hp)))) (Nat.le_refl _)),dj1,H⟩)))))
set_option maxHeartbeats 8000000 in
theorem W_pdisk_Disk_Sync {S:List Nat} {B:Nat} {w:World} {g_d:Nat} {a0:Nat} {a1:List (List UInt8 × PH)} {d_files:List (List UInt8 × List UInt8 × Bool × List UInt8 × Bool × List (Int × List UInt8))} {d_ops:Int} {d_left:Int} {d_down:Bool} {p:List UInt8} {K:Er->(List (List UInt8 × List UInt8 × Bool × List UInt8 × Bool × List (Int × List UInt8)))->Int->Int->Bool->Prop} (hG:GB S B w) (hB:B<=w.heap.size) (hP:AllP (fun p=>Ge p B) ((some g_d) :: (FP a0 a1 none))) (hS11:11∈S) (hS15:15∈S) (hS100:100∈S) (hd_files:jc pe86 w a0 a1 d_files none) (hd:Bl w g_d 81 [.map (some a0),.int .i64 d_ops,.int .i64 d_left,.bool d_down]) (hdj0_1:AllP (Dj (some g_d)) (FP a0 a1 none)) (H:jV d_files d_ops d_left d_down p K):Fn Tryz.prog 43 ⟨[.pointer (some ⟨g_d,0,none⟩),vs p]⟩ w (fun v w'=>GrL ((some g_d) :: (FP a0 a1 none)) w w'/\∃ (v_r:Value),∃ (r:Er),∃ (a3:List (List UInt8 × PH)),∃ (d_files2:List (List UInt8 × List UInt8 × Bool × List UInt8 × Bool × List (Int × List UInt8))),∃ (d_ops2:Int),∃ (d_left2:Int),∃ (d_down2:Bool),v=v_r/\ErrR S w' v_r r/\Bl w' g_d 81 [.map (some a0),.int .i64 d_ops2,.int .i64 d_left2,.bool d_down2]/\jc pe86 w' a0 a3 d_files2 none/\AllP (InP ((some g_d) :: (FP a0 a1 none)) w.heap.size) (FP a0 a3 none)/\AllP (Dj (some g_d)) (FP a0 a3 none)/\K r d_files2 d_ops2 d_left2 d_down2):=by
 unfold jV at H
 refine Fn.enter (by kernel_rfl) Tryz.func43 rfl Tryz.ntmps43 rfl ?_
 have hNoAt:AllP (NoAt w) ((some g_d) :: (FP a0 a1 none)):=(apC (NoAt.bl hd rfl) hd_files.noats)
 refine zd (zb (yp (h:=(zf (za (zd (zd (zb (yp (h:=(WL.call rfl rfl (W_pdisk_Disk_call hG (Nat.le_trans hB (Nat.le_refl _)) (apC (InP.toGe (InP.mem (List.Mem.head _)) hP hB) (InA.toGe (InA.mem (fun _ hp=>List.Mem.tail _ (hp))) hP hB)) hS15 hd_files hd hdj0_1 H) ?_)))))))))))
 rintro v_err w1 ⟨hgl1,_,err,a9,d_,d_2,d_3,d_4,rfl,herr,hB1,hM1,hi1,dj1,H⟩
 have gr1:GrL ((some g_d) :: (FP a0 a1 none)) w w1:=GrL.modL (GrL.refl _) hgl1 (apC (InP.mem (List.Mem.head _)) (InA.mem (fun _ hp=>List.Mem.tail _ (hp))))
 refine yp (h:=(zf (za (zd (zb (yp (h:=(zg rfl (qj Tryz.underlying26 herr rfl) (zf (za (zp rfl (fun b1=>?_) (fun b1=>?_))))))))))))
 ·replace H:=H.1 (Zp b1)
  exact zd (zb (yp (h:=(yp (h:=(zf (za (zq (zh (zw rfl rfl ⟨gr1,v_err,err,a9,d_,d_2,d_3,d_4,rfl,herr,hB1,hM1,(InA.trans hi1 (apC (InP.mem (List.Mem.head _)) (InA.mem (fun _ hp=>List.Mem.tail _ (hp)))) (Nat.le_refl _)),dj1,H⟩))))))))))
 ·replace H:=H.2 (kL b1)
  refine zo (za (zd (zd (zb (yp (h:=(WL.call rfl rfl (W_path_Valid (hG.goL gr1 hP).ok hS100 H) ?_)))))))
  rintro _ w2 ⟨hg1,t13,rfl,H⟩
  have gr2:=GrL.add0 gr1 hg1
  have k1:=hM1.g0 hg1
  have k2:=hB1.g0 hg1
  refine yp (h:=(zf (za (zp rfl (fun b2=>?_) (fun b2=>?_)))))
  ·replace H:=H.1 (b2)
   refine zd (zb ?_)
   obtain ⟨vE1,_,hE1⟩:=GOK.get (hG.goL gr2 hP).ok 11 0 hS11 rfl rfl
   exact zg rfl (Yld.cell qY (ErrR.cell hE1 rfl) rfl rfl) (yp (h:=(zf (za (zq (zh (zw rfl rfl ⟨gr2,vE1,(Er.e 11),a9,d_,d_2,d_3,d_4,rfl,hE1,k2,k1,(InA.trans hi1 (apC (InP.mem (List.Mem.head _)) (InA.mem (fun _ hp=>List.Mem.tail _ (hp)))) (Nat.le_refl _)),dj1,H⟩)))))))
  ·replace H:=H.2 (b2)
   refine zo (za (zd ?_))
   obtain ⟨J1,H,hJ1⟩:=H
   refine qd (fun L' w'=>∃ (d0:List (List UInt8 × List UInt8 × Bool × List UInt8 × Bool × List (Int × List UInt8))),∃ (a7:List (List UInt8 × PH)),L'=[]/\J1 d0/\GrL ((some g_d) :: (FP a0 a1 none)) w w'/\Bl w' g_d 81 [.map (some a0),.int .i64 d_2,.int .i64 d_3,.bool d_4]/\jc pe86 w' a0 a7 d0 none/\AllP (Dj (some g_d)) (FP a0 a7 none)/\AllP (InP ((some g_d) :: (FP a0 a1 none)) w.heap.size) (FP a0 a7 none)) ?_ (fun hQ=>?_)
   ·clear H
    rintro _ w3 ⟨d0,a7,rfl,H,gr3,k3,k4,dj2,hi2⟩
    replace H:=hJ1 d0 H
    exact za (zd (zb (yp (h:=(zf (za (zq (zw rfl rfl ⟨gr3,.nilIface,Er.ok,a7,d0,d_2,d_3,d_4,rfl,(ErrR.okR (S:=S) (w:=w3)),k3,k4,hi2,dj2,H⟩))))))))
   ·clear hJ1
    refine zd (zb (yp (h:=(yp (h:=(yp (h:=(zg rfl (zk qY k2 rfl rfl rfl) (yp (h:=?_))))))))))
    obtain ⟨h1,H⟩:=H
    refine zg rfl (qC (keyF_s Tryz.underlying9) Tryz.underlying79 (fun _=>by kernel_rfl) k1 rfl rfl h1) (yp (h:=(zf (za (zd (zb (yp (h:=(zg rfl (Yld.pneP Tryz.underlying83 k1 rfl rfl) (zf (za (zp rfl (fun b3=>?_) (fun b3=>?_)))))))))))))
    ·replace H:=H.1 (b3)
     refine zb (yp (h:=?_))
     have hx1:mget d_ p=some ((mget d_ p).getD ([],false,[],false,[])):=getD_some b3
     obtain ⟨b_pl,r1,hm1,hr1,k5,dj4,dj5⟩:=jc.open k1 hx1
     obtain ⟨d7,d9,r1e,hB2,hO1,dj3⟩:=hr1
     subst r1e
     simp only [pq_some hm1,pqo_some hm1]
     refine WL.call rfl rfl (W_pdisk_file_settle hO1 rfl hB2 dj3 H) ?_
     rintro _ w4 ⟨hgl2,pl_,pl_2,pl_3,pl_4,pl_5,c7,e8,rfl,hB3,hO2,hi3,dj6,H⟩
     have hi4:InP ((some g_d) :: (FP a0 a1 none)) w.heap.size (blk c7):=InP.trans hi3 (apC (jc.at1 k1 hm1 (InA.trans hi1 (apC (InP.mem (List.Mem.head _)) (InA.mem (fun _ hp=>List.Mem.tail _ (hp)))) (Nat.le_refl _))) (apC (jc.at2 k1 hm1 (InA.trans hi1 (apC (InP.mem (List.Mem.head _)) (InA.mem (fun _ hp=>List.Mem.tail _ (hp)))) (Nat.le_refl _))) apN)) (GrL.sizeL gr2)
     have gr4:GrL ((some g_d) :: (FP a0 a1 none)) w w4:=GrL.modL gr2 hgl2 (apC (jc.at1 k1 hm1 (InA.trans hi1 (apC (InP.mem (List.Mem.head _)) (InA.mem (fun _ hp=>List.Mem.tail _ (hp)))) (Nat.le_refl _))) (apC (jc.at2 k1 hm1 (InA.trans hi1 (apC (InP.mem (List.Mem.head _)) (InA.mem (fun _ hp=>List.Mem.tail _ (hp)))) (Nat.le_refl _))) apN))
     have k6:=k5.goL hgl2 (apC dj4 (apC dj5 apN))
     refine zf ?_
     have hr2:pe86.rel w4 (b_pl,blk c7) (pl_,pl_2,pl_3,pl_4,pl_5):=⟨_,_,rfl,hB3,hO2,dj6⟩
     exact WX.weaken sb (hQ _ _ ⟨mput d_ p (pl_,pl_2,pl_3,pl_4,pl_5),mput a9 p (b_pl,blk c7),rfl,H,gr4,(k2.goL hgl2 (apC (jc.at1 k1 hm1 dj1) (apC (jc.at2 k1 hm1 dj1) apN))),(jc.close k6 hm1 hr2 dj4 (k5.inp hi3 (apC dj4 (apC dj5 apN)))),(jc.closeA k6 (jc.sub k1 dj1) (jc.at1 k1 hm1 dj1) (InP.dj hi3 k2.lt' (apC (jc.at1 k1 hm1 dj1) (apC (jc.at2 k1 hm1 dj1) apN))).symm),(jc.closeA k6 (jc.sub k1 (InA.trans hi1 (apC (InP.mem (List.Mem.head _)) (InA.mem (fun _ hp=>List.Mem.tail _ (hp)))) (Nat.le_refl _))) (jc.at1 k1 hm1 (InA.trans hi1 (apC (InP.mem (List.Mem.head _)) (InA.mem (fun _ hp=>List.Mem.tail _ (hp)))) (Nat.le_refl _))) hi4)⟩)
    ·replace H:=H.2 (b3)
     exact zo (WX.weaken sb (hQ _ _ ⟨d_,a9,rfl,H,gr2,k2,k1,dj1,(InA.trans hi1 (apC (InP.mem (List.Mem.head _)) (InA.mem (fun _ hp=>List.Mem.tail _ (hp)))) (Nat.le_refl _))⟩))
set_option maxHeartbeats 8000000 in
theorem W_pdisk_Disk_Dump {w:World} {g_d:Nat} {a0:Nat} {a1:List (List UInt8 × PH)} {d_files:List (List UInt8 × List UInt8 × Bool × List UInt8 × Bool × List (Int × List UInt8))} {d_ops:Int} {d_left:Int} {d_down:Bool} {K:(List (List UInt8 × List UInt8))->Prop} (hd_files:jc pe86 w a0 a1 d_files none) (hd:Bl w g_d 81 [.map (some a0),.int .i64 d_ops,.int .i64 d_left,.bool d_down]) (H:kG d_files d_ops d_left d_down K):Fn Tryz.prog 34 ⟨[.pointer (some ⟨g_d,0,none⟩)]⟩ w (fun v w'=>w.grownBy w' none/\∃ (r:List (List UInt8 × List UInt8)),∃ (A_r:Option Addr),∃ (c_r:Nat),v=.slice A_r r.length c_r/\OwnK 2 enc30 w' w.heap.size 30 A_r c_r r/\K r):=by
 unfold kG at H
 refine Fn.enter (by kernel_rfl) Tryz.func34 rfl Tryz.ntmps34 rfl ?_
 refine zd (zb (yp (h:=(zf (za (zd (zb (yp (h:=(zf (za (zd (zd (zb (yp (h:=(WL.call rfl rfl (W_pdisk_Disk_paths hd_files hd H) ?_)))))))))))))))))
 rintro _ w1 ⟨hg1,t7,e4,e9,rfl,ht7,H⟩
 have hb1:=ht7.ge'
 refine yp (h:=(yp (h:=(zf (za (WC.block ?_))))))
 obtain ⟨I1,mu1,c6,HR1⟩:=H
 refine zW (fun n' L' w'=>∃ (l:List (List UInt8 × List UInt8)),∃ (A_l:Option Addr),∃ (c_l:Nat),∃ (n_l:Nat),∃ (t9:Int),n'=mu1 l t9/\L'=[(0,.pointer (some ⟨g_d,0,none⟩)),(3,.slice A_l n_l c_l),(7,.slice e4 t7.length e9),(8,.int .i64 (t7.length:Int)),(9,.int .i64 t9)]/\I1 l t9/\n_l=l.length/\w.grownBy w' none/\Own vs w' w.heap.size 9 e4 e9 t7/\OwnK 2 enc30 w' w.heap.size 30 A_l c_l l/\Dj (blk e4) (blk A_l)) _ _ ⟨[],none,0,0,(0:Int),rfl,rfl,c6,rfl,hg1,(ht7.base (fun g hg=>Nat.le_trans (Nat.le_refl _) (hb1 g hg))),(OwnK.nil kU w1 w.heap.size 30),Dj.nr⟩ sb ?_
 clear c6
 rintro _ _ w2 ⟨l,A_l,c_l,n_l,t9,rfl,rfl,hI1,rfl,gr2,k2,k3,dj1⟩
 have H:=HR1 l t9 hI1
 refine zd (zb (yp (h:=(zf (za (zd (zp rfl (fun b1=>?_) (fun b1=>?_))))))))
 ·replace H:=H.1 (of_decide_eq_true b1)
  refine zo (za (zd (WC.block (zd (zb ?_)))))
  obtain ⟨h1,H⟩:=H
  refine zg rfl (zK qY k2.rd rfl rfl rfl rfl h1.1 h1.2) (zg rfl (zN [] qY k2.rd rfl rfl (iltN h1 rfl)) (yp (h:=(zf (za (zb (yp (h:=(yp (h:=(yp (h:=(yp (h:=(yp (h:=(zg rfl (zk qY (hd.g0 gr2) rfl rfl rfl) (yp (h:=?_)))))))))))))))))))
  obtain ⟨h2,H⟩:=H
  refine zg rfl (qC (keyF_s Tryz.underlying9) Tryz.underlying79 (fun _=>by kernel_rfl) (hd_files.g0 gr2) rfl rfl h2) ?_
  obtain ⟨h3,H⟩:=H
  refine zg rfl (qP (hd_files.g0 gr2) h3 rfl) (zg rfl (qW qY (hd_files.g0 gr2) h3 rfl rfl rfl) (zg rfl (Yld.pld (z:=([],false,[],false,[])) (v:=vs (((mget d_files (t7.getD t9.toNat [])).getD ([],false,[],false,[])).1)) qY (hd_files.g0 gr2) h3 rfl rfl rfl rfl) (zg rfl (z6 (us:=[vs (t7.getD t9.toNat []),vs (((mget d_files (t7.getD t9.toNat [])).getD ([],false,[],false,[])).1)]) zero30 places30 rfl rfl) (qO (f:=enc30) ([(t7.getD t9.toNat [],((mget d_files (t7.getD t9.toNat [])).getD ([],false,[],false,[])).1)]:List (List UInt8 × List UInt8)) kU rfl ow34 rfl rfl rfl (fun g1 w3 hB1 hg2 hl1=>?_)))))
  have hO1:OwnK 2 enc30 w3 w.heap.size 30 (some ⟨g1,0,none⟩) 1 ([(t7.getD t9.toNat [],((mget d_files (t7.getD t9.toNat [])).getD ([],false,[],false,[])).1)]:List (List UInt8 × List UInt8)):=OwnK.ofBl kU hB1 (Nat.le_trans (qZ gr2) hl1) (by simp [maxLen]) rfl
  have gr3:=ja gr2 hg2
  have k4:=k2.grown hg2
  have k5:=k3.grown hg2
  obtain ⟨h4,H⟩:=H
  refine qL rfl ow34 k5 rfl rfl hO1.rd rfl rfl h4 (kF h4) (qZ gr3) (fun e3 e5 w4 hO2 hg3 hk1=>yp (h:=(zf (zi (za (zb ?_))))))
  obtain ⟨h5,H⟩:=H
  exact zg rfl (Yld.add rfl rfl h5) (yp (h:=(zf (zS _ ⟨l++([(t7.getD t9.toNat [],((mget d_files (t7.getD t9.toNat [])).getD ([],false,[],false,[])).1)]:List (List UInt8 × List UInt8)),e3,e5,(l++([(t7.getD t9.toNat [],((mget d_files (t7.getD t9.toNat [])).getD ([],false,[],false,[])).1)]:List (List UInt8 × List UInt8))).length,t9+(1:Int),rfl,rfl,H.1,rfl,(jk gr3 hg3 k5.ge'),(k4.go hg3 dj1),hO2,(Dj.app dj1.symm k4.lt' hk1).symm⟩ sb H.2))))
 ·replace H:=H.2 (of_decide_eq_false b1)
  exact zD (zj (zj (zm (za (zd (zb (yp (h:=(yp (h:=(zf (za (zq (zw rfl rfl ⟨gr2,l,A_l,c_l,rfl,k3,H⟩))))))))))))))
set_option maxHeartbeats 8000000 in
theorem W_pdisk_Disk_Rise {w:World} {g_d:Nat} {a0:Nat} {a1:List (List UInt8 × PH)} {d_files:List (List UInt8 × List UInt8 × Bool × List UInt8 × Bool × List (Int × List UInt8))} {d_ops:Int} {d_left:Int} {d_down:Bool} {keep:Int} {cut:Int} {K:(List (List UInt8 × List UInt8 × Bool × List UInt8 × Bool × List (Int × List UInt8)))->Int->Int->Bool->Prop} (hd_files:jc pe86 w a0 a1 d_files none) (hd:Bl w g_d 81 [.map (some a0),.int .i64 d_ops,.int .i64 d_left,.bool d_down]) (hdj0_1:AllP (Dj (some g_d)) (FP a0 a1 none)) (H:kH d_files d_ops d_left d_down keep cut K):Fn Tryz.prog 23 ⟨[.pointer (some ⟨g_d,0,none⟩),.int .i64 keep,.int .i64 cut]⟩ w (fun v w'=>GrL ((some g_d) :: (FP a0 a1 none)) w w'/\∃ (a3:List (List UInt8 × PH)),∃ (d_files2:List (List UInt8 × List UInt8 × Bool × List UInt8 × Bool × List (Int × List UInt8))),∃ (d_ops2:Int),∃ (d_left2:Int),∃ (d_down2:Bool),v=.tuple #[]/\Bl w' g_d 81 [.map (some a0),.int .i64 d_ops2,.int .i64 d_left2,.bool d_down2]/\jc pe86 w' a0 a3 d_files2 none/\AllP (InP ((some g_d) :: (FP a0 a1 none)) w.heap.size) (FP a0 a3 none)/\AllP (Dj (some g_d)) (FP a0 a3 none)/\K d_files2 d_ops2 d_left2 d_down2):=by
 unfold kH at H
 refine Fn.enter (by kernel_rfl) Tryz.func23 rfl Tryz.ntmps23 rfl ?_
 have hNoAt:AllP (NoAt w) ((some g_d) :: (FP a0 a1 none)):=(apC (NoAt.bl hd rfl) hd_files.noats)
 refine zd (zd (zb (yp (h:=(yp (h:=(yp (h:=(zg rfl (zk qY hd rfl rfl rfl) (yp (h:=(zf (za (zp rfl (fun b1=>?_) (fun b1=>?_)))))))))))))))
 ·replace H:=H.1 (b1)
  exact zq (zh (WX.ret0 rfl ⟨(GrL.refl _),a1,d_files,d_ops,d_left,d_down,rfl,hd,hd_files,(InA.mem (fun _ hp=>List.Mem.tail _ (hp))),hdj0_1,H⟩))
 ·replace H:=H.2 (b1)
  refine zo (za (zd (zb (yp (h:=(zg rfl (zB rfl rfl) (yp (h:=(zf (za (zd (zd (zb (yp (h:=(yp (h:=(yp (h:=(zg rfl (zk qY hd rfl rfl rfl) (WL.call rfl rfl keysBox_fn ?_)))))))))))))))))))))
  rintro _ w1 ⟨g1,rfl,hB1,hg1,hl1⟩
  have gr1:=(GrL.of0 (ps:=((some g_d) :: (FP a0 a1 none))) hg1)
  have k1:=hd_files.g0 hg1
  refine WL.call rfl rfl (jK k1 hB1 H) ?_
  rintro _ w2 ⟨hg2,t21,c9,d3,rfl,ht21,H⟩
  have hb1:=ht21.ge'
  have k4:=k1.g0 hg2
  refine yp (h:=(yp (h:=(zf (za (WC.block ?_))))))
  obtain ⟨I1,mu1,c6,HR1⟩:=H
  refine zW (fun n' L' w'=>∃ (keep2:Int),∃ (t23:Int),∃ (d0:List (List UInt8 × List UInt8 × Bool × List UInt8 × Bool × List (Int × List UInt8))),∃ (a7:List (List UInt8 × PH)),n'=mu1 keep2 t23 d0/\L'=[(0,.pointer (some ⟨g_d,0,none⟩)),(1,.int .i64 keep2),(2,.int .i64 cut),(21,.slice c9 t21.length d3),(22,.int .i64 (t21.length:Int)),(23,.int .i64 t23)]/\I1 keep2 t23 d0/\GrL ((some g_d) :: (FP a0 a1 none)) w w'/\Bl w' g_d 81 [.map (some a0),.int .i64 d_ops,.int .i64 d_left,.bool d_down]/\Own vs w' w.heap.size 9 c9 d3 t21/\jc pe86 w' a0 a7 d0 none/\AllP (Dj (some g_d)) (FP a0 a7 none)/\AllP (Dj (blk c9)) (FP a0 a7 none)/\AllP (InP ((some g_d) :: (FP a0 a1 none)) w.heap.size) (FP a0 a7 none)) _ _ ⟨(if keep<(0:Int) then (0:Int) else keep),(0:Int),d_files,a1,rfl,rfl,c6,(GrL.add0 gr1 hg2),((hd.g0 hg1).g0 hg2),(ht21.base (fun g hg=>Nat.le_trans (GrL.sizeL gr1) (hb1 g hg))),k4,hdj0_1,(k1.new hb1),(InA.mem (fun _ hp=>List.Mem.tail _ (hp)))⟩ sb ?_
  clear c6
  rintro _ _ w3 ⟨keep2,t23,d0,a7,rfl,rfl,hI1,gr3,k6,k7,k8,dj1,dj2,hi1⟩
  have H:=HR1 keep2 t23 d0 hI1
  refine zd (zb (yp (h:=(zf (za (zd (zp rfl (fun b2=>?_) (fun b2=>?_))))))))
  ·replace H:=H.1 (of_decide_eq_true b2)
   refine zo (za (zd (WC.block (zd (zb ?_)))))
   obtain ⟨h1,H⟩:=H
   refine zg rfl (zK qY k7.rd rfl rfl rfl rfl h1.1 h1.2) (zg rfl (zN [] qY k7.rd rfl rfl (iltN h1 rfl)) (yp (h:=(zf (za (zd (zb (yp (h:=(yp (h:=(yp (h:=(zg rfl (zk qY k6 rfl rfl rfl) (yp (h:=?_))))))))))))))))
   obtain ⟨h2,H⟩:=H
   refine zg rfl (qC (keyF_s Tryz.underlying9) Tryz.underlying79 (fun _=>by kernel_rfl) k8 rfl rfl h2) (yp (h:=(zf (za (zd ?_)))))
   obtain ⟨J1,H,hJ1⟩:=H
   refine qd (fun L' w'=>∃ (keep3:Int),∃ (d02:List (List UInt8 × List UInt8 × Bool × List UInt8 × Bool × List (Int × List UInt8))),∃ (c4:List (List UInt8 × PH)),L'=[(0,.pointer (some ⟨g_d,0,none⟩)),(1,.int .i64 keep3),(2,.int .i64 cut),(8,pq c4 (t21.getD t23.toNat [])),(21,.slice c9 t21.length d3),(22,.int .i64 (t21.length:Int)),(23,.int .i64 t23)]/\J1 keep3 d02/\GrL ((some g_d) :: (FP a0 a1 none)) w w'/\Bl w' g_d 81 [.map (some a0),.int .i64 d_ops,.int .i64 d_left,.bool d_down]/\Own vs w' w.heap.size 9 c9 d3 t21/\jc pe86 w' a0 c4 d02 none/\AllP (Dj (some g_d)) (FP a0 c4 none)/\AllP (Dj (blk c9)) (FP a0 c4 none)/\AllP (InP ((some g_d) :: (FP a0 a1 none)) w.heap.size) (FP a0 c4 none)) ?_ (fun hQ=>?_)
   ·clear H
    rintro _ w4 ⟨keep3,d02,c4,rfl,H,gr4,k9,k10,k11,dj3,dj4,hi2⟩
    replace H:=hJ1 keep3 d02 H
    refine za (zb (yp (h:=?_)))
    obtain ⟨h3,H⟩:=H
    have hx1:mget d02 (t21.getD t23.toNat [])=some ((mget d02 (t21.getD t23.toNat [])).getD ([],false,[],false,[])):=getD_some h3
    obtain ⟨b_pl,r1,hm1,hr1,k12,dj6,dj7⟩:=jc.open k11 hx1
    obtain ⟨d7,d9,r1e,hB2,hO1,dj5⟩:=hr1
    subst r1e
    simp only [pq_some hm1,pqo_some hm1]
    refine WL.call rfl rfl (W_pdisk_file_settle hO1 rfl hB2 dj5 H) ?_
    rintro _ w5 ⟨hgl1,pl_,pl_2,pl_3,pl_4,pl_5,c7,e8,rfl,hB3,hO2,hi3,dj8,H⟩
    have hi4:InP ((some g_d) :: (FP a0 a1 none)) w.heap.size (blk c7):=InP.trans hi3 (apC (jc.at1 k11 hm1 hi2) (apC (jc.at2 k11 hm1 hi2) apN)) (GrL.sizeL gr4)
    have gr5:GrL ((some g_d) :: (FP a0 a1 none)) w w5:=GrL.modL gr4 hgl1 (apC (jc.at1 k11 hm1 hi2) (apC (jc.at2 k11 hm1 hi2) apN))
    have k15:=k12.goL hgl1 (apC dj6 (apC dj7 apN))
    refine zf (zi (za (zb ?_)))
    obtain ⟨h4,H⟩:=H
    refine zg rfl (Yld.add rfl rfl h4) (yp (h:=(zf ?_)))
    have hr2:pe86.rel w5 (b_pl,blk c7) (pl_,pl_2,pl_3,pl_4,pl_5):=⟨_,_,rfl,hB3,hO2,dj8⟩
    exact zS _ ⟨keep3,t23+(1:Int),mput d02 (t21.getD t23.toNat []) (pl_,pl_2,pl_3,pl_4,pl_5),mput c4 (t21.getD t23.toNat []) (b_pl,blk c7),rfl,rfl,H.1,gr5,(k9.goL hgl1 (apC (jc.at1 k11 hm1 dj3) (apC (jc.at2 k11 hm1 dj3) apN))),(k10.goL hgl1 (apC (jc.at1 k11 hm1 dj4) (apC (jc.at2 k11 hm1 dj4) apN))),(jc.close k15 hm1 hr2 dj6 (k12.inp hi3 (apC dj6 (apC dj7 apN)))),(jc.closeA k15 (jc.sub k11 dj3) (jc.at1 k11 hm1 dj3) (InP.dj hi3 k9.lt' (apC (jc.at1 k11 hm1 dj3) (apC (jc.at2 k11 hm1 dj3) apN))).symm),(jc.closeA k15 (jc.sub k11 dj4) (jc.at1 k11 hm1 dj4) (InP.dj hi3 k10.lt' (apC (jc.at1 k11 hm1 dj4) (apC (jc.at2 k11 hm1 dj4) apN))).symm),(jc.closeA k15 (jc.sub k11 hi2) (jc.at1 k11 hm1 hi2) hi4)⟩ sb H.2
   ·clear hJ1
    refine zd (zb (yp (h:=?_)))
    obtain ⟨h5,H⟩:=H
    refine zg rfl (qP k8 h5 rfl) (zg rfl (qW qY k8 h5 rfl rfl rfl) ?_)
    have hx2:mget d0 (t21.getD t23.toNat [])=some ((mget d0 (t21.getD t23.toNat [])).getD ([],false,[],false,[])):=getD_some h5
    obtain ⟨b_pl2,r2,hm2,hr3,k17,dj10,dj11⟩:=jc.open k8 hx2
    obtain ⟨e7,f5,r2e,hB4,hO3,dj9⟩:=hr3
    subst r2e
    simp only [pq_some hm2,pqo_some hm2]
    refine zg rfl (zk qY hB4 rfl rfl rfl) (yp (h:=(yp (h:=(zf (za (zp rfl (fun b3=>?_) (fun b3=>?_))))))))
    ·replace H:=H.1 (of_decide_eq_true b3)
     refine zd (zb (yp (h:=(yp (h:=?_)))))
     obtain ⟨h6,H⟩:=H
     refine zg rfl (zI rfl rfl h6.1 h6.2) (yp (h:=(zg rfl (zB rfl rfl) (WL.call rfl rfl (W_pdisk_file_rise hO3 rfl hB4 dj9 H) ?_))))
     rintro _ w6 ⟨hgl2,pl_6,pl_7,pl_8,pl_9,pl_10,c8,f4,rfl,hB5,hO4,hi5,dj12,H⟩
     have hi6:InP ((some g_d) :: (FP a0 a1 none)) w.heap.size (blk c8):=InP.trans hi5 (apC (jc.at1 k8 hm2 hi1) (apC (jc.at2 k8 hm2 hi1) apN)) (GrL.sizeL gr3)
     have gr6:GrL ((some g_d) :: (FP a0 a1 none)) w w6:=GrL.modL gr3 hgl2 (apC (jc.at1 k8 hm2 hi1) (apC (jc.at2 k8 hm2 hi1) apN))
     have k20:=k17.goL hgl2 (apC dj10 (apC dj11 apN))
     refine zf (za (zb (yp (h:=?_))))
     obtain ⟨h7,H⟩:=H
     refine zg rfl (zH rfl rfl h7.1 h7.2.1 h7.2.2) (yp (h:=(zf ?_)))
     have hr4:pe86.rel w6 (b_pl2,blk c8) (pl_6,pl_7,pl_8,pl_9,pl_10):=⟨_,_,rfl,hB5,hO4,dj12⟩
     have hm3:mget (mput a7 (t21.getD t23.toNat []) (b_pl2,blk c8)) (t21.getD t23.toNat [])=some (b_pl2,blk c8):=mget_same _ _ _
     simp only [<-pq_some hm3]
     exact WX.weaken sb (hQ _ _ ⟨keep2 / (4:Int),mput d0 (t21.getD t23.toNat []) (pl_6,pl_7,pl_8,pl_9,pl_10),mput a7 (t21.getD t23.toNat []) (b_pl2,blk c8),rfl,H,gr6,(k6.goL hgl2 (apC (jc.at1 k8 hm2 dj1) (apC (jc.at2 k8 hm2 dj1) apN))),(k7.goL hgl2 (apC (jc.at1 k8 hm2 dj2) (apC (jc.at2 k8 hm2 dj2) apN))),(jc.close k20 hm2 hr4 dj10 (k17.inp hi5 (apC dj10 (apC dj11 apN)))),(jc.closeA k20 (jc.sub k8 dj1) (jc.at1 k8 hm2 dj1) (InP.dj hi5 k6.lt' (apC (jc.at1 k8 hm2 dj1) (apC (jc.at2 k8 hm2 dj1) apN))).symm),(jc.closeA k20 (jc.sub k8 dj2) (jc.at1 k8 hm2 dj2) (InP.dj hi5 k7.lt' (apC (jc.at1 k8 hm2 dj2) (apC (jc.at2 k8 hm2 dj2) apN))).symm),(jc.closeA k20 (jc.sub k8 hi1) (jc.at1 k8 hm2 hi1) hi6)⟩)
    ·replace H:=H.2 (of_decide_eq_false b3)
     refine zo ?_
     have hr5:pe86.rel w3 (b_pl2,blk e7) ((mget d0 (t21.getD t23.toNat [])).getD ([],false,[],false,[])):=⟨_,_,rfl,hB4,hO3,dj9⟩
     simp only [<-pq_some hm2]
     exact WX.weaken sb (hQ _ _ ⟨keep2,d0,a7,rfl,H,gr3,k6,k7,(jc.back k17 hm2 hx2 hr5 dj10 dj11),(jc.backA k17 hm2 (jc.sub k8 dj1) (jc.at1 k8 hm2 dj1) (jc.at2 k8 hm2 dj1)),(jc.backA k17 hm2 (jc.sub k8 dj2) (jc.at1 k8 hm2 dj2) (jc.at2 k8 hm2 dj2)),(jc.backA k17 hm2 (jc.sub k8 hi1) (jc.at1 k8 hm2 hi1) (jc.at2 k8 hm2 hi1))⟩)
  ·replace H:=H.2 (of_decide_eq_false b2)
   refine zD (zj (zj (zm (za (zb (yp (h:=(yp (h:=(yp (h:=(yp (h:=(zR one4 rfl rfl rfl k6 (by simp) (fun w7 hB7 hg3=>?_)))))))))))))))
   have hB6:Bl w7 g_d 81 [.map (some a0),.int .i64 d_ops,.int .i64 d_left,.bool false]:=hB7
   have gr7:GrL ((some g_d) :: (FP a0 a1 none)) w w7:=GrL.mod gr3 hg3 (InP.mem (List.Mem.head _))
   refine yp (h:=(yp (h:=(zR one3 rfl rfl rfl hB6 (by simp) (fun w8 hB9 hg4=>?_)))))
   have hB8:Bl w8 g_d 81 [.map (some a0),.int .i64 d_ops,.int .i64 (0:Int),.bool false]:=hB9
   have gr8:GrL ((some g_d) :: (FP a0 a1 none)) w w8:=GrL.mod gr7 hg4 (InP.mem (List.Mem.head _))
   exact zf (qM rfl ⟨gr8,a7,d0,d_ops,(0:Int),false,rfl,hB8,((k8.go hg3 dj1).go hg4 dj1),hi1,dj1,H⟩)
set_option maxHeartbeats 8000000 in
theorem W_disk_New {S:List Nat} {w:World} {files:List (List UInt8 × List UInt8)} {b8:Option Addr} {b9:Nat} {d4:Nat} {K0:Er->Prop} {K:(List (List UInt8 × List UInt8 × Bool × List UInt8 × Bool × List (Int × List UInt8)))->Int->Int->Bool->Er->Prop} (hG:GOK S w) (hS9:9∈S) (hS11:11∈S) (hS100:100∈S) (hfiles:RdK 2 enc30 w b8 b9 files) (e0:d4=files.length) (H:M_disk_New files K0 K):Fn Tryz.prog 5 ⟨[.slice b8 d4 b9]⟩ w (fun v w'=>w.grownBy w' none/\((∃ (v_r12:Value),∃ (r12:Er),v=.tuple #[.pointer none,v_r12]/\ErrR S w' v_r12 r12/\K0 r12)∨(∃ (e2:Nat),∃ (c1:Nat),∃ (c2:List (List UInt8 × PH)),∃ (d1:List (List UInt8 × List UInt8 × Bool × List UInt8 × Bool × List (Int × List UInt8))),∃ (e1:Int),∃ (d6:Int),∃ (d5:Bool),∃ (v_r1:Value),∃ (r1:Er),v=.tuple #[.pointer (some ⟨e2,0,none⟩),v_r1]/\ErrR S w' v_r1 r1/\jc pe86 w' c1 c2 d1 none/\AllP (fun p=>Ge p w.heap.size) (FP c1 c2 none)/\Bl w' e2 81 [.map (some c1),.int .i64 e1,.int .i64 d6,.bool d5]/\Ge (some e2) w.heap.size/\AllP (Dj (some e2)) (FP c1 c2 none)/\K d1 e1 d6 d5 r1))):=by
 subst e0
 unfold M_disk_New at H
 refine Fn.enter (by kernel_rfl) Tryz.func5 rfl Tryz.ntmps5 rfl ?_
 replace H:=H (Nat.le_trans hfiles.cap hfiles.max)
 refine zd (zb (yp (h:=(yp (h:=(zf (za (zd (zb (qQ je rfl (Eff.makeMap vs okS (vP:Option PH->Value)) ?_))))))))))
 rintro _ w1 ⟨rfl,hB1,hg1⟩
 have k1:jc pe86 w1 w.heap.size [] [] none:=jc.empty _ hB1
 have gr1:=hg1
 refine zg rfl (z6 (us:=[.map (some w.heap.size),.int .i64 (0:Int),.int .i64 (0:Int),.bool false]) zero81 places81 rfl rfl) (qm (us:=[.map (some w.heap.size),.int .i64 (0:Int),.int .i64 (0:Int),.bool false]) rfl rfl rfl (fun g1 w2 hB2 hg2 hl2=>yp (h:=(zf (za (zd (zd (zb (yp (h:=(yp (h:=(yp (h:=(zf (za (WC.block ?_)))))))))))))))))
 obtain ⟨I1,mu1,c6,HR1⟩:=H
 refine zW (fun n' L' w'=>∃ (t12:Int),∃ (t90:List (List UInt8 × List UInt8 × Bool × List UInt8 × Bool × List (Int × List UInt8))),∃ (c5:List (List UInt8 × PH)),n'=mu1 t12 t90/\L'=[(0,.slice b8 files.length b9),(4,.pointer (some ⟨g1,0,none⟩)),(10,.slice b8 files.length b9),(11,.int .i64 (files.length:Int)),(12,.int .i64 t12)]/\I1 t12 t90/\w.grownBy w' none/\Bl w' g1 81 [.map (some w.heap.size),.int .i64 (0:Int),.int .i64 (0:Int),.bool false]/\jc pe86 w' w.heap.size c5 t90 none/\AllP (Dj (some g1)) (FP w.heap.size c5 none)/\AllP (fun p=>Ge p w.heap.size) (FP w.heap.size c5 none)) _ _ ⟨(0:Int),([]:List (List UInt8 × List UInt8 × Bool × List UInt8 × Bool × List (Int × List UInt8))),([]:List (List UInt8 × PH)),rfl,rfl,c6,(ja gr1 hg2),hB2,(k1.g0 hg2),(k1.new (Ge.box hl2)),(FP.nil (Ge.le (Ge.box (Nat.le_refl _)) (Nat.le_refl _)))⟩ sb ?_
 clear c6
 rintro _ _ w3 ⟨t12,t90,c5,rfl,rfl,hI1,gr3,k3,k4,dj1,hi1⟩
 have H:=HR1 t12 t90 hI1
 refine zd (zb (yp (h:=(zf (za (zd (zp rfl (fun b1=>?_) (fun b1=>?_))))))))
 ·replace H:=H.1 (of_decide_eq_true b1)
  refine zo (za (zd (WC.block (zd (zb ?_)))))
  obtain ⟨h1,H⟩:=H
  refine zg rfl (qa qY (hfiles.grown gr3) rfl rfl rfl rfl h1.1 h1.2) (zg rfl (qt ([],[]) qY (hfiles.grown gr3) rfl rfl (iltN h1 rfl)) (WL.alloc rfl zero30 (fun g2 w4 hB3 hg3 hl3=>zP (vs:=[vs ((files.getD t12.toNat ([],[])).1),vs ((files.getD t12.toNat ([],[])).2)]) qY rfl rfl rfl (jd rfl (jd rfl kg)) hB3 rfl rfl (fun w5 hB4 hg4=>?_))))
  have gr5:=jk (ja gr3 hg3) hg4 (Ge.le (Ge.box hl3) (qZ gr3))
  have k7:=(k3.g0 hg3).go hg4 (Dj.new k3.lt' (Ge.box hl3))
  have k8:=(k4.g0 hg3).go hg4 (k4.new (Ge.box hl3))
  refine zf (za (zd (zd (zO (fun k => !(Nat.beq k 2)) (LD [1,8,10,11,16] (fun w'=>Bl w' g2 30 [vs ((files.getD t12.toNat ([],[])).1),vs ((files.getD t12.toNat ([],[])).2)]/\Bl w' g1 81 [.map (some w.heap.size),.int .i64 (0:Int),.int .i64 (0:Int),.bool false]/\jc pe86 w' w.heap.size c5 t90 none)) mixed (by kernel_rfl) (fun k w' h _=>⟨(ji h hB4),(ji h k7),(jc.eqv h k8)⟩) (zl rfl rfl (fun w' hw'=>zc qY rfl) (zl rfl rfl (fun w' hw'=>zk qY (hw' rfl).1 rfl rfl rfl) (WJ.call rfl (je) rfl rfl (W_path_Valid (hG.grown gr5) hS100 H) (fun v w' h w2 e=>DD.keep (⟨(Bl.g0 hB4 (jg h.1 e)),(Bl.g0 k7 (jg h.1 e)),(jc.g0 k8 (jg h.1 e))⟩)) ?_)))))))
  rintro _ w6 ⟨hg5,t18,rfl,H⟩
  have gr6:=ja gr5 hg5
  have k9:=k7.g0 hg5
  have k10:=k8.g0 hg5
  have k11:=hB4.g0 hg5
  refine zl rfl rfl (fun w' hw'=>zc qY rfl) (zl rfl rfl (fun w' hw'=>zc qY rfl) ?_)
  obtain ⟨h2,H⟩:=H
  refine qH 9 (fun L' w'=>∃ q1:Bool,L'=[(29,.bool q1),(0,.slice b8 files.length b9),(4,.pointer (some ⟨g1,0,none⟩)),(6,.pointer (some ⟨g2,0,none⟩)),(10,.slice b8 files.length b9),(11,.int .i64 (files.length:Int)),(12,.int .i64 t12)]/\((!t18) || ((mget t90 ((files.getD t12.toNat ([],[])).1)).isSome))=q1/\w6=w') ?_ (fun hQ=>?_)
  ·rintro _ _ ⟨q1,rfl,rfl,rfl⟩
   refine zl rfl rfl (fun w' hw'=>zc qY rfl) (qH 5 (fun L' w'=>∃ q2:Bool,L'=[(35,.bool q2),(0,.slice b8 files.length b9),(4,.pointer (some ⟨g1,0,none⟩)),(6,.pointer (some ⟨g2,0,none⟩)),(10,.slice b8 files.length b9),(11,.int .i64 (files.length:Int)),(12,.int .i64 t12)]/\(((!t18) || ((mget t90 ((files.getD t12.toNat ([],[])).1)).isSome)) || (decide ((65536:Int)<(((files.getD t12.toNat ([],[])).2).length:Int))))=q2/\w6=w') ?_ (fun hQ=>?_))
   ·rintro _ _ ⟨q2,rfl,rfl,rfl⟩
    refine z8 (za (zp rfl (fun b2=>?_) (fun b2=>?_)))
    ·replace H:=H.1 (b2)
     refine zd (qK mixed (by kernel_rfl) ?_)
     obtain ⟨vE1,_,hE1⟩:=GOK.get (hG.grown gr6) 11 0 hS11 rfl rfl
     exact z7 rfl (Yld.cell qY (ErrR.cell hE1 rfl) rfl rfl) (z7 rfl (zc qY rfl) (z7 rfl (zc qY rfl) (qU (za (zq (zh (zn (zh (zh (zn (zh (qg rfl rfl rfl ⟨gr6,Or.inl ⟨vE1,(Er.e 11),rfl,hE1,H⟩⟩))))))))))))
    ·replace H:=H.2 (b2)
     refine zo (za (zO (fun k => !(Nat.beq k 11 || Nat.beq k 12)) (LD [3,5,7,9] (fun w'=>Bl w' g1 81 [.map (some w.heap.size),.int .i64 (0:Int),.int .i64 (0:Int),.bool false]/\Bl w' g2 30 [vs ((files.getD t12.toNat ([],[])).1),vs ((files.getD t12.toNat ([],[])).2)])) mixed (by kernel_rfl) (fun k w' h _=>⟨(ji h k9),(ji h k11)⟩) (zl rfl rfl (fun w' hw'=>zc qY rfl) (zl rfl rfl (fun w' hw'=>zc qY rfl) (zl rfl rfl (fun w' hw'=>zc qY rfl) (zl rfl rfl (fun w' hw'=>zk qY (hw' rfl).1 rfl rfl rfl) (zl rfl rfl (fun w' hw'=>zc qY rfl) (zl rfl rfl (fun w' hw'=>zk qY (hw' rfl).2 rfl rfl rfl) (zl rfl rfl (fun w' hw'=>zc qY rfl) (zl rfl rfl (fun w' hw'=>zk qY (hw' rfl).2 rfl rfl rfl) (zl rfl rfl (fun w' hw'=>zc qY rfl) (zl rfl rfl (fun w' hw'=>zk qY (hw' rfl).2 rfl rfl rfl) (zl rfl rfl (fun w' hw'=>z6 (us:=[vs ((files.getD t12.toNat ([],[])).2),.bool true,vs ((files.getD t12.toNat ([],[])).2),.bool true,.slice none 0 0]) zero86 places86 rfl rfl) ?_)))))))))))))
     refine qr rfl je rfl (Eff.box (us:=[vs ((files.getD t12.toNat ([],[])).2),.bool true,vs ((files.getD t12.toNat ([],[])).2),.bool true,.slice none 0 0]) rfl rfl) (fun v w' h=>DD.keep (⟨(Bl.g0 k9 (jg h.2.2 (Eqv.refl _))),(Bl.g0 k11 (jg h.2.2 (Eqv.refl _)))⟩)) ?_
     rintro _ w7 ⟨rfl,hB5,hg6⟩
     have k13:=k10.g0 hg6
     obtain ⟨h3,H⟩:=H
     have hr1:pe86.rel w7 (w6.heap.size,blk none) ((files.getD t12.toNat ([],[])).2,true,(files.getD t12.toNat ([],[])).2,true,[]):=⟨_,_,rfl,hB5,((OwnK.nil enc130_ok w7 w.heap.size 130).base (fun _ _=>Nat.zero_le _)),Dj.nr⟩
     refine qh rfl (Ef0.poolPut (keyF_s Tryz.underlying9) Tryz.underlying79 k13 h3.2 rfl rfl h3.1 rfl hr1 (k10.new (Ge.box (Nat.le_refl _))) apNl) (fun w' h=>qf (by kernel_rfl)) ?_
     rintro w8 ⟨k15,hg7⟩
     have k17:=(k11.g0 hg6).go hg7 (apH (k4.new (Ge.box hl3)))
     refine z8 (zi (za (zb ?_)))
     obtain ⟨h4,H⟩:=H
     exact zg rfl (Yld.add rfl rfl h4) (yp (h:=(zf (zS _ ⟨t12+(1:Int),mput t90 ((files.getD t12.toNat ([],[])).1) ((files.getD t12.toNat ([],[])).2,true,(files.getD t12.toNat ([],[])).2,true,[]),mput c5 ((files.getD t12.toNat ([],[])).1) (w6.heap.size,blk none),rfl,rfl,H.1,(jk (ja gr6 hg6) hg7 (apH hi1)),((k9.g0 hg6).go hg7 (apH dj1)),k15,(jc.putA k13 dj1 (Dj.new k9.lt' (Ge.box (Nat.le_refl _))) Dj.nr),(jc.putA k13 hi1 (Ge.le (Ge.box (Nat.le_refl _)) (qZ gr6)) Ge.none)⟩ sb H.2))))
   ·clear H
    rcases Bool.eq_false_or_eq_true ((!t18) || ((mget t90 ((files.getD t12.toNat ([],[])).1)).isSome)) with b3 | b3
    ·exact zX rfl rfl (okb b3) rfl (zX rfl rfl (okb b3) rfl (zX rfl rfl (okb b3) rfl (zX rfl rfl (okb b3) rfl (zl rfl rfl (fun w' hw'=>zt (okb b3) rfl) (WJ.weaken sb (hQ _ _ ⟨true,rfl,by rw [b3] <;> rfl,rfl⟩))))))
    ·exact zY rfl (jb rfl rfl (okb b3)) rfl (fun w' hw'=>zc qY rfl) (zY rfl (jb rfl rfl (okb b3)) rfl (fun w' hw'=>zk qY (hw' rfl).1 rfl rfl rfl) (zY rfl (jb rfl rfl (okb b3)) rfl (fun w' hw'=>zc qY rfl) (zY rfl (jb rfl rfl (okb b3)) rfl (fun w' hw'=>zc qY rfl) (zl rfl rfl (fun w' hw'=>zr (okb b3) rfl) (WJ.weaken sb (hQ _ _ ⟨decide ((65536:Int)<(((files.getD t12.toNat ([],[])).2).length:Int)),rfl,by rw [b3] <;> rfl,rfl⟩))))))
  ·clear H
   rcases Bool.eq_false_or_eq_true (!t18) with b4 | b4
   ·exact zX rfl rfl (okb b4) rfl (zX rfl rfl (okb b4) rfl (zX rfl rfl (okb b4) rfl (zX rfl rfl (okb b4) rfl (zX rfl rfl (okb b4) rfl (zX rfl rfl (okb b4) rfl (zX rfl rfl (okb b4) rfl (zX rfl rfl (okb b4) rfl (zl rfl rfl (fun w' hw'=>zt (okb b4) rfl) (WJ.weaken sb (hQ _ _ ⟨true,rfl,by rw [b4] <;> rfl,rfl⟩))))))))))
   ·exact zY rfl (jb rfl rfl (okb b4)) rfl (fun w' hw'=>zc qY rfl) (zY rfl (jb rfl rfl (okb b4)) rfl (fun w' hw'=>zc qY rfl) (zY rfl (jb rfl rfl (okb b4)) rfl (fun w' hw'=>zc qY rfl) (zY rfl (jb rfl rfl (okb b4)) rfl (fun w' hw'=>zk qY (hw' rfl).2.1 rfl rfl rfl) (zY rfl (jb rfl rfl (okb b4)) rfl (fun w' hw'=>zc qY rfl) (zY rfl (jb rfl rfl (okb b4)) rfl (fun w' hw'=>zk qY (hw' rfl).1 rfl rfl rfl) (zY rfl (jb rfl rfl (okb b4)) rfl (fun w' hw'=>qC (keyF_s Tryz.underlying9) Tryz.underlying79 (fun _=>by kernel_rfl) (hw' rfl).2.2 rfl rfl (h2 b4)) (zY rfl (jb rfl rfl (okb b4)) rfl (fun w' hw'=>Yld.pneP Tryz.underlying83 k10 rfl rfl) (zl rfl rfl (fun w' hw'=>zr (okb b4) rfl) (WJ.weaken sb (hQ _ _ ⟨(mget t90 ((files.getD t12.toNat ([],[])).1)).isSome,rfl,by rw [b4] <;> rfl,rfl⟩))))))))))
 ·replace H:=H.2 (of_decide_eq_false b1)
  refine zD (zj (zj (zm (za (zd (zd (zb (yp (h:=(yp (h:=(yp (h:=(zf (za (zp rfl (fun b5=>?_) (fun b5=>?_)))))))))))))))))
  ·replace H:=H.1 (of_decide_eq_true b5)
   refine zd (qK mixed (by kernel_rfl) ?_)
   obtain ⟨vE2,_,hE2⟩:=GOK.get (hG.grown gr3) 9 1 hS9 rfl rfl
   exact z7 rfl (Yld.cell qY (ErrR.cell hE2 rfl) rfl rfl) (z7 rfl (zc qY rfl) (z7 rfl (zc qY rfl) (qU (za (zq (zh (qg rfl rfl rfl ⟨gr3,Or.inl ⟨vE2,(Er.e 9),rfl,hE2,H⟩⟩)))))))
  ·replace H:=H.2 (of_decide_eq_false b5)
   exact zo (za (zd (zb (yp (h:=(yp (h:=(yp (h:=(zf (za (zq (qg rfl rfl rfl ⟨gr3,Or.inr ⟨g1,w.heap.size,c5,t90,(0:Int),(0:Int),false,.nilIface,Er.ok,rfl,(ErrR.okR (S:=S) (w:=w3)),k4,hi1,k3,(Ge.le (Ge.box hl2) (qZ gr1)),dj1,H⟩⟩)))))))))))))
end
 end Go.Proofs.YtafpeckmdjplnaaGreatDoor
