/- Texts of this claim, joined by a program: PlS, SrtK, Shelf2, SrtF, GPo, PlO, GPq, PlG, GPw, PlT. -/
import Derived.Test.YtjobklaengaamaaGreatDoorJ6
import Derived.Sort.OwnSorted
import Derived.Shelf.SlSortCmp.NoneTotal
import Derived.Ground.SlsfProg
import Derived.Test.YtjobklaengaamaaGreatDoorProg
import Derived.Shelf.GgSortFunc.RowK
import Derived.RegionTactic
namespace Go.Proofs.YtjobklaengaamaaGreatDoor

section
open Go Go.RowKit
section
variable {l:List GAct}
theorem run_le (files:TX) (g:GOk l):∀ m,m<=l.length->∀ j,((runP FQ1 l files m).1.getD j fz).2.1.length<=65536
 | 0,_,j=>by
  rw [runP_zero]
  rcases Nat.lt_or_ge j l.length with h | h
  ·simp [List.getD,h,fz]
  ·rw [List.getD_eq_getElem?_getD,List.getElem?_eq_none (by rw [List.length_replicate]; exact h)]
   simp [fz]
 | m+1,h,j=>by
  have hlen:=Zg (F:=FQ1) files g m (by omega)
  obtain ⟨i,hi,_,_,_,hrun⟩:=runP_succ (F:=FQ1) files g h
  have hst:(runP FQ1 l files (m+1)).1=(runP FQ1 l files m).1.set i (fate1 FQ1 l i (runP FQ1 l files m).1 (runP FQ1 l files m).2):=by rw [hrun]; rfl
  rw [hst,getD_setF (by omega)]
  split
  ·exact fate1_le _ _ _
  ·exact run_le files g m (by omega) j
theorem fate1_key (i:Nat) (known:List FT) (tx:TX):(fate1 FQ1 l i known tx).2.2.length=32:=by
 unfold fate1
 split
 ·simp [fskip]
 ·split
  ·simp [flack]
  ·dsimp only [FQ1]
   rw [manyS_eq]
   exact shaS_len _
theorem fates_key (files:TX) (g:GOk l):∀ j,j<l.length->((kE FQ1 l files).getD j fz).2.2.length=32:=by
 have key:∀ m,m<=l.length->∀ j:Nat,(j:Int)∈(ordR (befL l l.length) l.length l.length).take m->((runP FQ1 l files m).1.getD j fz).2.2.length=32:=fun m=>by
  induction m with
  | zero=>intro _ j hj; simp at hj
  | succ m ih =>
   intro h j hj
   have hlen:=Zg (F:=FQ1) files g m (by omega)
   obtain ⟨i,hi,hg,_,_,hrun⟩:=runP_succ (F:=FQ1) files g h
   obtain ⟨o1,_,_⟩:=ji g.acy l.length (Nat.le_refl _)
   have hst:(runP FQ1 l files (m+1)).1=(runP FQ1 l files m).1.set i (fate1 FQ1 l i (runP FQ1 l files m).1 (runP FQ1 l files m).2):=by rw [hrun]; rfl
   rw [hst,getD_setF (by omega)]
   split
   ·exact fate1_key _ _ _
   ·rename_i hne
    refine ih (by omega) j ?_
    have hlt:m<(ordR (befL l l.length) l.length l.length).length:=by omega
    rw [List.take_add_one,List.getElem?_eq_getElem hlt] at hj
    rcases List.mem_append.1 hj with hj | hj
    ·exact hj
    ·have:(ordR (befL l l.length) l.length l.length)[m]=(i:Int):=by rw [<-hg]; simp [List.getD,hlt]
     rw [this,Option.toList_some,List.mem_singleton] at hj
     omega
 intro j hj
 refine key l.length (Nat.le_refl _) j ?_
 obtain ⟨o1,_,_⟩:=ji g.acy l.length (Nat.le_refl _)
 rw [List.take_of_length_le (by omega)]
 exact ord_mem g hj
theorem inTx_le {files:TX} {known:List FT} (hk:∀ j,(known.getD j fz).2.1.length<=65536) (hfp:∀ f∈files,f.1.length<=1000/\f.2.length<=100000) (s:List UInt8):(inTx l files known s).length<=100000:=by
 unfold inTx
 split
 ·exact Nat.le_trans (hk _) (by omega)
 ·have key:∀ (fs:TX),(∀ f∈fs,f.1.length<=1000/\f.2.length<=100000)->∀ o:Option (List UInt8),(o.getD []).length<=100000->((fs.foldl (fun o f=>if f.1=s then some f.2 else o) o).getD []).length<=100000:=fun fs=>by
   induction fs with
   | nil=>intro _ o h; exact h
   | cons f fs ih =>
    intro hf o h
    rw [List.foldl_cons]
    refine ih (fun x hx=>hf x (List.mem_cons_of_mem _ hx)) _ ?_
    split
    ·exact (hf f List.mem_cons_self).2
    ·exact h
  exact key files hfp none (by simp)
theorem lastT_snoc (files:TX) (s:List UInt8) {j:Nat} (h:j<files.length):lastT (files.take (j+1)) s=if (files.getD j ([],[])).1=s then some (files.getD j ([],[])).2 else lastT (files.take j) s:=by
 unfold lastT
 rw [List.take_add_one,List.getElem?_eq_getElem h,Option.toList_some,List.foldl_append,List.foldl_cons,List.foldl_nil]
 have:files.getD j ([],[])=files[j]:=by simp [List.getD,h]
 rw [this]
set_option maxHeartbeats 4000000 in
theorem rfates_M {files:TX} {K:List FT->Prop} (hs:GSmall l) (g:GOk l) (hty:∀ j,j<l.length->1<=(l.getD j az).1/\(l.getD j az).1<=5) (hf:files.length<=100) (hfp:∀ f∈files,f.1.length<=1000/\f.2.length<=100000) (h:K (kE FQ1 l files)):jL l files K:=by
 intro _ _
 have hl:=hs.len
 refine ⟨⟨by omega,by omega,by omega⟩,rorder_M (by omega) g.dst g.inp g.acy ?_⟩
 obtain ⟨o1,o2,o3⟩:=ji g.acy l.length (Nat.le_refl _)
 refine ⟨fun n out=>0<=n/\n<=l.length/\out=(runP FQ1 l files n.toNat).1,fun n _=>l.length - n.toNat,⟨by omega,by omega,rfl⟩,?_⟩
 rintro n _ ⟨a0,a1,rfl⟩ _
 rw [o1]
 refine ⟨fun hlt=>?_,fun hge=>?_⟩
 ·have hn:n.toNat<l.length:=by omega
  obtain ⟨i,hi,hg,hni,hbs,hrun⟩:=runP_succ (F:=FQ1) files g hn
  have hT:=txI_run (F:=FQ1) files g n.toNat (by omega)
  have hlen:=Zg (F:=FQ1) files g n.toNat (by omega)
  have hle:=run_le files g n.toNat (by omega)
  simp only [hg,Int.toNat_natCast]
  have hst:(runP FQ1 l files (n.toNat+1)).1=(runP FQ1 l files n.toNat).1.set i (fate1 FQ1 l i (runP FQ1 l files n.toNat).1 (runP FQ1 l files n.toNat).2):=by rw [hrun]; rfl
  rw [show n.toNat+1=(n+1).toNat by omega] at hst
  generalize runP FQ1 l files n.toNat=st at *
  have hin:=hs.inp _ (qT (d:=az) hi)
  have harg:=hs.arg _ (qT (d:=az) hi)
  have htyi:=hty i hi
  have hib:0<=(i:Int)/\(i:Int)<(l.length:Nat):=by omega
  refine ⟨by omega,hib,?_⟩
  show Lp4 _ _ _ _ _
  have haz:l.getD i (0,[],[],[])=l.getD i az:=rfl
  simp only [haz]
  have hmk:=fun s (hsm:s∈(l.getD i az).2.2.1)=>mkI_bs (l:=l) (i:=i) hsm
  obtain ⟨a,ha⟩:∃ a,l.getD i az=a:=⟨_,rfl⟩
  simp only [ha] at hin harg htyi hmk |-
  refine ⟨fun texts sums k f0=>0<=k/\k<=a.2.2.1.length/\texts=(a.2.2.1.take k.toNat).map (inTx l files st.1)/\sums=texts.map shaS/\f0=(a.2.2.1.take k.toNat).foldl (stS l files st.1) 1,fun _ _ k _=>a.2.2.1.length - k.toNat,⟨by omega,by omega,rfl,rfl,rfl⟩,?_⟩
  rintro _ _ k _ ⟨b0,b1,rfl,rfl,rfl⟩
  refine ⟨fun hk=>?_,fun hk=>?_⟩
  ·have hkk:k.toNat<a.2.2.1.length:=by omega
   obtain ⟨s,hsd⟩:∃ s,a.2.2.1.getD k.toNat []=s:=⟨_,rfl⟩
   have hsm:s∈a.2.2.1:=by rw [<-hsd]; exact qT hkk
   simp only [hsd]
   have htk:a.2.2.1.take (k+1).toNat=a.2.2.1.take k.toNat++[s]:=by
    rw [show (k+1).toNat=k.toNat+1 by omega,jd [] hkk,hsd]
   have hkb:0<=k/\k<(a.2.2.1.length:Nat):=by omega
   refine ⟨hkb,rmaker_M (by omega) g.dst ?_⟩
   generalize hm:mkI l s=m
   have hml:0<=m->m.toNat<l.length:=fun h0=>by rw [<-hm]; exact mkI_lt (by omega)
   generalize hF:(a.2.2.1.take k.toNat).foldl (stS l files st.1) 1=f0
   refine ⟨fun t th f1=>t=(if 0<=m then (st.1.getD m.toNat fz).2.1 else [])/\th=decide (0<=m)/\f1=(if 0<=m/\(st.1.getD m.toNat fz).1≠1 then 3 else f0),⟨fun h0=>?_,fun h0=>?_⟩,?_⟩
   ·have hmb:0<=m/\m<((l.length:Int).toNat:Nat):=by have:=hml h0; omega
    refine ⟨fun f1=>f1=(if 0<=m/\(st.1.getD m.toNat fz).1≠1 then 3 else f0),⟨hmb,fun e=>?_,fun e=>?_⟩,?_⟩
    ·rw [if_pos ⟨h0,e⟩]
    ·rw [if_neg (fun q=>q.2 e)]
    ·rintro _ rfl
     exact ⟨hmb,by rw [if_pos h0]; rfl,(decide_eq_true h0).symm,rfl⟩
   ·refine ⟨by rw [if_neg h0],(decide_eq_false h0).symm,?_⟩
    rw [if_neg (fun q=>h0 q.1)]
   rintro _ _ _ ⟨rfl,rfl,rfl⟩
   refine ⟨fun s2 th j=>0<=j/\j<=files.length/\s2=(if 0<=m then (st.1.getD m.toNat fz).2.1 else (lastT (files.take j.toNat) s).getD [])/\th=(decide (0<=m) || (lastT (files.take j.toNat) s).isSome),fun _ _ j=>files.length - j.toNat,⟨by omega,by omega,rfl,by simp [lastT]⟩,?_⟩
   rintro _ _ j ⟨c0,c1,rfl,rfl⟩
   refine ⟨fun hj=>?_,fun hj=>?_⟩
   ·rw [Bool.and_eq_true,decide_eq_true_eq,decide_eq_true_eq] at hj
    have hjl:j.toNat<files.length:=by omega
    have hjb:0<=j/\j<(files.length:Nat):=by omega
    have hsn:=lastT_snoc files s hjl
    refine ⟨fun t th=>t=(lastT (files.take (j.toNat+1)) s).getD []/\th=(lastT (files.take (j.toNat+1)) s).isSome,⟨hjb,hkb,fun e=>⟨hjb,?_⟩,fun e=>?_⟩,?_⟩
    ·have e:(files.getD j.toNat ([],[])).1=s:=e
     rw [hsn,if_pos e]
     exact ⟨rfl,rfl⟩
    ·have e:¬ (files.getD j.toNat ([],[])).1=s:=e
     rw [hsn,if_neg e,if_neg (by omega),decide_eq_false (by omega)]
     exact ⟨rfl,rfl⟩
    ·rintro _ _ ⟨rfl,rfl⟩
     refine ⟨by simp only [In]; omega,⟨by omega,by omega,?_,?_⟩,by (try dsimp only); omega⟩
     ·rw [show (j+1).toNat=j.toNat+1 by omega,if_neg (by omega)]
     ·rw [show (j+1).toNat=j.toNat+1 by omega,decide_eq_false (by omega)]; rfl
   ·have hs2:(if 0<=m then (st.1.getD m.toNat fz).2.1 else (lastT (files.take j.toNat) s).getD [])=inTx l files st.1 s:=by
     unfold inTx
     rw [hm]
     split
     ·rfl
     ·rename_i h0
      rw [Bool.and_eq_false_iff,decide_eq_false_iff_not,decide_eq_false_iff_not] at hj
      rw [List.take_of_length_le (by omega)]
    have hth:(decide (0<=m) || (lastT (files.take j.toNat) s).isSome)=thereB l files s:=by
     unfold thereB
     rw [hm]
     by_cases h0:0<=m
     ·rw [decide_eq_true h0]; simp
     ·rw [Bool.and_eq_false_iff,decide_eq_false_iff_not,decide_eq_false_iff_not] at hj
      rw [List.take_of_length_le (by omega)]
    rw [hs2,hth]
    have hsl:=inTx_le (l:=l) (files:=files) hle hfp s
    have hst2:stS l files st.1 f0 s=if thereB l files s=false/\(if 0<=m/\(st.1.getD m.toNat fz).1≠1 then (3:Int) else f0)=1 then 2 else (if 0<=m/\(st.1.getD m.toNat fz).1≠1 then 3 else f0):=by
     unfold stS
     rw [hm]
    generalize (if 0<=m/\(st.1.getD m.toNat fz).1≠1 then (3:Int) else f0)=f1 at hst2 |-
    refine ⟨fun f=>f=stS l files st.1 f0 s,⟨fun e=>?_,fun e=>?_⟩,?_⟩
    ·rw [Bool.and_eq_true,Bool.not_eq_true',decide_eq_true_eq] at e
     rw [hst2,if_pos e]
    ·rw [Bool.and_eq_false_iff,Bool.not_eq_false',decide_eq_false_iff_not] at e
     rw [hst2,if_neg]
     rintro ⟨q1,q2⟩
     rcases e with e | e
     ·rw [q1] at e; cases e
     ·exact e q2
    ·rintro _ rfl
     have htl:(a.2.2.1.take k.toNat).length<=10:=by rw [List.length_take]; omega
     refine ⟨by simp only [List.length_map,List.length_cons,List.length_nil]; omega,sum_M (by omega) ⟨by simp only [List.length_map,List.length_cons,List.length_nil]; omega,by simp only [In]; omega,⟨by omega,by omega,?_,?_,?_⟩,by (try dsimp only); omega⟩⟩
     ·rw [htk,List.map_append]; rfl
     ·rw [List.map_append]; rfl
     ·rw [htk,List.foldl_append,hF]; rfl
  ·have hkl:k.toNat=a.2.2.1.length:=by omega
   rw [hkl,List.take_length]
   refine rbefore_M (by omega) g.dst g.inp (fun hn=>absurd hib hn) fun _=>?_
   rw [Int.toNat_natCast]
   have hbl:(bsP l i).length<=10:=Nat.le_trans (bsP_len l i) (hs.at i).2
   refine ⟨fun k2 f=>0<=k2/\k2<=(bsP l i).length/\f=((bsP l i).take k2.toNat).foldl (stB st.1) (a.2.2.1.foldl (stS l files st.1) 1),fun k2 _=>(bsP l i).length - k2.toNat,⟨by omega,by omega,rfl⟩,?_⟩
   rintro k2 _ ⟨c0,c1,rfl⟩
   refine ⟨fun hk2=>?_,fun hk2=>?_⟩
   ·have hkl2:k2.toNat<(bsP l i).length:=by omega
    have hb:=bsP_in (qT (d:=0) hkl2)
    have hstp:((bsP l i).take (k2+1).toNat).foldl (stB st.1) (a.2.2.1.foldl (stS l files st.1) 1)=stB st.1 (((bsP l i).take k2.toNat).foldl (stB st.1) (a.2.2.1.foldl (stS l files st.1) 1)) ((bsP l i).getD k2.toNat 0):=by
     rw [show (k2+1).toNat=k2.toNat+1 by omega,jd 0 hkl2,List.foldl_append]; rfl
    refine ⟨fun f=>f=stB st.1 (((bsP l i).take k2.toNat).foldl (stB st.1) (a.2.2.1.foldl (stS l files st.1) 1)) ((bsP l i).getD k2.toNat 0),⟨by omega,by omega,fun e=>?_,fun e=>?_⟩,?_⟩
    ·exact Eq.symm (if_pos e)
    ·exact Eq.symm (if_neg (fun q=>q e))
    ·rintro _ rfl
     exact ⟨by simp only [In]; omega,⟨by omega,by omega,hstp.symm⟩,by (try dsimp only); omega⟩
   ·have hk2l:k2.toNat=(bsP l i).length:=by omega
    rw [hk2l,List.take_length,stB_fold]
    refine ⟨fun f t u=>(f,t,u)=fate1 FQ1 l i st.1 st.2,?_,?_⟩
    ·have hf1:fate1 FQ1 l i st.1 st.2=if ((bsP l i).any fun k => !decide ((st.1.getD k.toNat fz).1=1))=true then fskip else match allT st.2 a.2.2.1 with
       | none=>flack
       | some ts=>FQ1 a ts:=by
      unfold fate1; rw [ha]; rfl
     rw [hf1]
     by_cases hany:((bsP l i).any fun k => !decide ((st.1.getD k.toNat fz).1=1))=true
     ·rw [if_pos hany,if_pos hany]
      exact ⟨fun e=>absurd e (by decide),fun _=>rfl⟩
     ·rw [if_neg hany,if_neg hany]
      have hdone:∀ k∈bsP l i,(st.1.getD k.toNat fz).1=1:=fun k hk=>Classical.byContradiction fun hne=>hany (List.any_eq_true.2 ⟨k,hk,by rw [decide_eq_false hne]; rfl⟩)
      obtain ⟨f1,f2⟩:=stS_fold (l:=l) (files:=files) (known:=st.1) hT.src a.2.2.1 1 (fun s hsm h0=>by
       have hb:=hmk s hsm h0
       have hd:=hdone _ hb
       exact ⟨hd,by rw [hT.made s h0,if_pos ⟨hbs _ hb,hd⟩]⟩) (.inl rfl)
      cases hall:allT st.2 a.2.2.1 with
      | none =>
       rw [f1 hall]
       exact ⟨fun e=>absurd e (by decide),fun _=>rfl⟩
      | some ts =>
       obtain ⟨f3,f4⟩:=f2 ts hall
       rw [f3,<-f4]
       have hts:∀ t∈ts,t.length<=100000:=fun t ht=>by
        rw [f4] at ht
        obtain ⟨s,_,rfl⟩:=List.mem_map.1 ht
        exact inTx_le hle hfp s
       have htl:ts.length<=10:=by rw [f4,List.length_map]; omega
       refine ⟨fun _=>?_,fun e=>absurd rfl e⟩
       refine rkey_M (by simp only [In]; omega) (by omega) (by rw [List.length_map]; omega) (fun x hx=>by have:=harg.2 x hx; omega) (map_sha ts) ?_
       refine cDo_M (fun x hx=>by have:=harg.2 x hx; omega) (by omega) hts ⟨fun e=>?_,fun e=>?_⟩
       ·have hok:(doP a.1 a.2.1 ts).2=.ok:=by
         cases hd:(doP a.1 a.2.1 ts).2 with
         | ok=>rfl
         | e n=>rw [hd] at e; simp only [codeE] at e; omega
         | at_ p n=>rw [hd] at e; simp only [codeE] at e; omega
        show _=(okN (doP a.1 a.2.1 ts).2,(doP a.1 a.2.1 ts).1,_)
        rw [okN_ok hok]
       ·have hne:¬ (doP a.1 a.2.1 ts).2=.ok:=fun q=>e (by rw [q]; rfl)
        show _=(okN (doP a.1 a.2.1 ts).2,(doP a.1 a.2.1 ts).1,_)
        rw [okN_ne hne,doP_bad hne]
    ·rintro f t u e
     rw [e]
     exact ⟨by omega,by simp only [In]; omega,⟨by omega,by omega,hst.symm⟩,by (try dsimp only); omega⟩
 ·have:n.toNat=l.length:=by omega
  rw [this]
  exact h
end
end
 
section
open Go Go.Proofs Go.RowKit Go.Sort
section
variable {α:Type} [Inhabited α] {k:Nat} {f:α->List Value} {w:World} {g:Nat} {cur:Array Value} {e:TypeId}
theorem flatK_list (h:OneK k f) (xs:List α):flatK f k xs.toArray=(xs.flatMap f).toArray:=by
 have hl:=h.flen xs
 apply Array.ext
 ·simp [flatK,hl]
 ·intro t h1 h2
  have ht:t<xs.length*k:=by simpa [flatK] using h1
  have hq:t / k<xs.length:=Nat.div_lt_of_lt_mul (by rw [Nat.mul_comm]; exact ht)
  have hr:t % k<k:=Nat.mod_lt _ h.pos
  have e:=h.fget xs (t / k) xs[t / k] (t % k) (List.getElem?_eq_getElem hq) hr
  rw [Nat.div_add_mod'] at e
  have hx:=h.len xs[t / k]
  simp only [flatK,Array.getElem_map,Array.getElem_range]
  rw [getElem!_pos xs.toArray (t / k) (by simpa using hq)]
  simp only [List.getElem_toArray]
  rw [getElem!_pos (f xs[t / k]) (t % k) (by omega)]
  rw [List.getElem?_eq_getElem (by rw [hl]; exact ht),List.getElem?_eq_getElem (by omega)] at e
  exact (Option.some.inj e).symm
theorem holds_of_blockV {us:List Value} (hb:w.heap[g]? = some (.cells cur e (0,0))) (ht:cur.toList.take us.length=us):Holds id w g 0 us.toArray:=by
 intro j hj
 have hj':j<us.length:=by simpa using hj
 refine ⟨?_,by simp [World.frozen?,hb]⟩
 have h1:(cur.toList.take us.length)[j]? = us[j]? := by rw [ht]
 rw [List.getElem?_take_of_lt hj'] at h1
 simp only [World.cell?,hb,Nat.zero_add]
 simp only [Option.isSome_none,Bool.false_eq_true,if_false]
 rw [<-Array.getElem?_toList,h1]
 simp [hj']
theorem heap_sortedV {n:Nat} {os:Array Obj} {fr:Nat × Nat} (d:Array Value) (hb:w.heap[g]? = some (.cells cur e fr)) :
  (grow (putRow id (Sort.ahead w n) g 0 d) os).heap[g]? = some (.cells (putCells id 0 d cur) e fr):=by
 have hg:g<w.heap.size:=(Array.getElem?_eq_some_iff.1 hb).1
 rw [heap_grow_old _ _ (by simpa using hg)]
 simp [putRow,mapBlock,Sort.ahead,Array.getElem?_modify,hb,onCells]
theorem grownBy_sortedV {n:Nat} {os:Array Obj} (d:Array Value):w.grownBy (grow (putRow id (Sort.ahead w n) g 0 d) os) (some g):=by
 refine ⟨rfl,rfl,rfl,by simp,fun k hk hne=>?_⟩
 rw [heap_grow_old _ _ (by simpa using hk)]
 have:g≠k:=fun e=>hne (by rw [e])
 simp [putRow,mapBlock,Sort.ahead,Array.getElem?_modify,this]
theorem take_putCellsV (cur:Array Value) (ts:List Value) (h:ts.length<=cur.size):(putCells id 0 ts.toArray cur).toList.take ts.length=ts:=by
 apply List.ext_getElem?
 intro j
 by_cases hj:j<ts.length
 ·rw [List.getElem?_take_of_lt hj,Array.getElem?_toList]
  simp [putCells,hj,show j<cur.size by omega]
 ·rw [List.getElem?_take_eq_none (by omega),List.getElem?_eq_none (by omega)]
theorem ownK_sorted {B cap n:Nat} {os:Array Obj} {ss ts:List α} (h:OneK k f) (hl:ts.length=ss.length) (hbase:B<=g) (hb:w.heap[g]? = some (.cells cur e (0,0))) (h1:ss.length<=cap) (h2:cap<=maxLen) (h3:cur.size=cap*k) :
  OwnK k f (grow (putRowK f k (Sort.ahead w n) g 0 ts.toArray) os) B e (some ⟨g,0,none⟩) cap ts:=by
 unfold putRowK
 rw [flatK_list h]
 have hf:=h.flen ts
 have hle:ts.length*k<=cur.size:=by rw [h3]; exact Nat.mul_le_mul_right k (by omega)
 refine ⟨h,hf,.inr ⟨g,cap,_,rfl,hbase,heap_sortedV _ hb,by omega,h2,by simp [putCells,h3],?_⟩⟩
 rw [<-hf]
 exact take_putCellsV cur _ (by omega)
end
end
 end Go.Proofs.YtjobklaengaamaaGreatDoor

namespace Go.Proofs
open Go.Shelf
def Tryz.sortf51_ren:Go.Shelf.Ren:=⟨fun | 6=>51 | 15=>61 | 14=>76 | 28=>90 | 29=>91 | 20=>109 | 21=>110 | 22=>111 | 23=>112 | 24=>113 | 25=>114 | 26=>115 | 27=>116 | 46=>142 | 47=>122 | 48=>123 | 49=>143 | 50=>144 | 57=>165 | n=>n,fun | 22=>23 | 24=>67 | 25=>110 | 3=>3 | 39=>106 | 0=>0 | 53=>126 | 55=>127 | 4=>4 | 46=>137 | 45=>136 | 50=>79 | 5=>5 | 9=>9 | 66=>166 | 70=>170 | 76=>192 | 77=>185 | n=>n,fun | n=>n⟩
theorem Tryz.sortf51:Go.Proofs.SlLaysF0.n6 Tryz.prog Tryz.sortf51_ren:={
 mixed:=by kernel_rfl
 f6:=⟨Tryz.f51.name,by decide,Tryz.func51.trans (congrArg some (by kernel_rfl))⟩
 f14:=⟨Tryz.f76.name,by decide,Tryz.func76.trans (congrArg some (by kernel_rfl))⟩
 f15:=Tryz.func61.trans (congrArg some (by kernel_rfl))
 f20:=⟨Tryz.f109.name,by decide,Tryz.func109.trans (congrArg some (by kernel_rfl))⟩
 f21:=⟨Tryz.f110.name,by decide,Tryz.func110.trans (congrArg some (by kernel_rfl))⟩
 f22:=⟨Tryz.f111.name,by decide,Tryz.func111.trans (congrArg some (by kernel_rfl))⟩
 f23:=⟨Tryz.f112.name,by decide,Tryz.func112.trans (congrArg some (by kernel_rfl))⟩
 f24:=⟨Tryz.f113.name,by decide,Tryz.func113.trans (congrArg some (by kernel_rfl))⟩
 f25:=⟨Tryz.f114.name,by decide,Tryz.func114.trans (congrArg some (by kernel_rfl))⟩
 f26:=⟨Tryz.f115.name,by decide,Tryz.func115.trans (congrArg some (by kernel_rfl))⟩
 f27:=⟨Tryz.f116.name,by decide,Tryz.func116.trans (congrArg some (by kernel_rfl))⟩
 f28:=Tryz.func90.trans (congrArg some (by kernel_rfl))
 f29:=Tryz.func91.trans (congrArg some (by kernel_rfl))
 f46:=⟨Tryz.f142.name,by decide,Tryz.func142.trans (congrArg some (by kernel_rfl))⟩
 f47:=Tryz.func122.trans (congrArg some (by kernel_rfl))
 f48:=Tryz.func123.trans (congrArg some (by kernel_rfl))
 f49:=⟨Tryz.f143.name,by decide,Tryz.func143.trans (congrArg some (by kernel_rfl))⟩
 f50:=⟨Tryz.f144.name,by decide,Tryz.func144.trans (congrArg some (by kernel_rfl))⟩
 f57:=⟨Tryz.f165.name,by decide,Tryz.func165.trans (congrArg some (by kernel_rfl))⟩
 t0:=Tryz.underlying0
 a0:=Tryz.isAgg0
 z0:=Tryz.sizeOf0
 v0:=Tryz.zeroValue0
 t3:=Tryz.underlying3
 a3:=Tryz.isAgg3
 z3:=Tryz.sizeOf3
 v3:=Tryz.zeroValue3
 t4:=Tryz.underlying4
 a4:=Tryz.isAgg4
 z4:=Tryz.sizeOf4
 v4:=Tryz.zeroValue4
 t5:=Tryz.underlying5
 a5:=Tryz.isAgg5
 z5:=Tryz.sizeOf5
 v5:=Tryz.zeroValue5
 t9:=Tryz.underlying9
 a9:=Tryz.isAgg9
 z9:=Tryz.sizeOf9
 v9:=Tryz.zeroValue9
 t22:=Tryz.underlying23
 a22:=Tryz.isAgg23
 z22:=Tryz.sizeOf23
 v22:=Tryz.zeroValue23
 t25:=Tryz.underlying110
 a25:=Tryz.isAgg110
 z25:=Tryz.sizeOf110
 v25:=Tryz.zeroValue110
 t39:=Tryz.underlying106
 a39:=Tryz.isAgg106
 z39:=Tryz.sizeOf106
 v39:=Tryz.zeroValue106
 t45:=Tryz.underlying136
 a45:=Tryz.isAgg136
 z45:=Tryz.sizeOf136
 v45:=Tryz.zeroValue136
 t46:=Tryz.underlying137
 a46:=Tryz.isAgg137
 z46:=Tryz.sizeOf137
 v46:=Tryz.zeroValue137
 t50:=Tryz.underlying79
 a50:=Tryz.isAgg79
 z50:=Tryz.sizeOf79
 v50:=Tryz.zeroValue79
 t53:=Tryz.underlying126
 a53:=Tryz.isAgg126
 z53:=Tryz.sizeOf126
 v53:=Tryz.zeroValue126
 t55:=Tryz.underlying127
 a55:=Tryz.isAgg127
 z55:=Tryz.sizeOf127
 v55:=Tryz.zeroValue127
 t66:=Tryz.underlying166
 a66:=Tryz.isAgg166
 z66:=Tryz.sizeOf166
 v66:=Tryz.zeroValue166
 t70:=Tryz.underlying170
 a70:=Tryz.isAgg170
 z70:=Tryz.sizeOf170
 v70:=Tryz.zeroValue170
 t76:=Tryz.underlying192
 a76:=Tryz.isAgg192
 z76:=Tryz.sizeOf192
 v76:=Tryz.zeroValue192
 t77:=Tryz.underlying185
 a77:=Tryz.isAgg185
 z77:=Tryz.sizeOf185
 v77:=Tryz.zeroValue185 }
end Go.Proofs
 
namespace Go.Proofs.YtjobklaengaamaaGreatDoor

section
open Go Go.Proofs Go.Shelf Go.RowKit Go.Lib Go.Sort
abbrev FF:=List UInt8 × List UInt8
def cmpFF (x y:FF):Int:=compareBytes x.1 y.1
set_option maxHeartbeats 4000000 in
set_option maxRecDepth 100000 in
theorem compare_FF (x y:FF) (W:World):Calls Tryz.prog 52 #[.agg #[.string ⟨⟨x.1⟩⟩,.string ⟨⟨x.2⟩⟩],.agg #[.string ⟨⟨y.1⟩⟩,.string ⟨⟨y.2⟩⟩]] W fun e w'=>e=.returned (.int .i64 (cmpFF x y))/\∃ q os',w'=grow (W.drewN q) os':=by
 have hc:=fun a b w=>Tryz.strings_Compare a b w
 have mixed:Tryz.prog.follows .mixedOrders=true:=by kernel_rfl
 go_enter Tryz.func52,Tryz.ntmps52
 go_wp2_with (go_at_call 53; refine (hc _ _ _).mono ?_; rintro e w' ⟨rfl,rfl⟩)
 go_ret
 exact ⟨rfl,0,#[_,_],by rw [alloc_eq_grow,alloc_eq_grow,grow_grow]; rfl⟩
section
variable {α:Type} [Inhabited α] {k:Nat} {f:α->List Value} {w:World} {e:TypeId}
theorem sortP_fn {P:Program} {F:FuncId} {fv:Value} {R:List α->Prop} {A:Option Addr} {c n B:Nat} {xs:List α} (hE:goesIn P F=true)
  (hS:∀ (b cap:Nat) (w1:World),HoldsK f k w1 b 0 xs.toArray->b<w1.heap.size->Calls P F #[.slice (some ⟨b,0,none⟩) xs.length cap,fv] w1 fun e w'=>e=.returned (.tuple #[])/\∃ (ys:List α) (n:Nat) (os:Array Obj),ys.length=xs.length/\R ys/\w'=sortWorldK f k w1 b 0 n ys.toArray os)
  (hN:∀ (p:Option Addr) (cap:Nat) (w1:World),Calls P F #[.slice p 0 cap,fv] w1 fun e w'=>e=.returned (.tuple #[])/\w'=w1) (hR:xs=[]->R [])
  (hO:OwnK k f w B e A c xs) (hn:n=xs.length) :
  Fn P F ⟨[.slice A n c,fv]⟩ w (fun v w'=>∃ ys:List α,v=.tuple #[]/\OwnK k f w' B e A c ys/\w.grownBy w' (blk A)/\ys.length=xs.length/\R ys):=by
 subst hn
 refine ⟨hE,fun w1 e1=>?_⟩
 have hO1:=hO.eqv e1
 rcases hO1.2.2 with ⟨hv,hn⟩ | ⟨b,cap,cur,hv,hb,hg,hnc,hcm,hcs,htake⟩
 ·simp only [Value.slice.injEq] at hv
  obtain ⟨rfl,_,rfl⟩:=hv
  have:xs=[]:=List.eq_nil_of_length_eq_zero hn
  subst this
  exact (hN none 0 w1).mono fun _ w' ⟨he,hw⟩=>⟨_,w,he,by rw [hw]; exact e1,[],rfl,hO,qK _ _,rfl,hR rfl⟩
 ·simp only [Value.slice.injEq] at hv
  obtain ⟨rfl,_,rfl⟩:=hv
  have hH:HoldsK f k w1 b 0 xs.toArray:=by
   unfold HoldsK
   rw [flatK_list hO.1]
   exact holds_of_blockV hg (by rw [hO.1.flen xs]; exact htake)
  refine (hS b c w1 hH (Array.getElem?_eq_some_iff.1 hg).1).mono fun _ w' ⟨he,ys,q,os,hl,hr,hw⟩=>?_
  have h1:=ownK_sorted (n:=q) (os:=os) hO.1 hl hb hg hnc hcm hcs
  have h2:=grownBy_sortedV (w:=w1) (g:=b) (n:=q) (os:=os) (flatK f k ys.toArray)
  unfold sortWorldK at hw
  rw [<-hw] at h1
  unfold putRowK at hw
  rw [<-hw] at h2
  exact ⟨_,w',he,Eqv.refl _,_,rfl,h1,jz e1 h2,hl,hr⟩
end
theorem ltFF_iff (x y:FF):ltOf cmpFF x y=true↔x.1<y.1:=by
 unfold ltOf cmpFF
 rw [decide_eq_true_iff,cB_neg]
theorem ltFF_no (x y:FF):ltOf cmpFF x y=false↔¬ x.1<y.1:=by rw [<-ltFF_iff,Bool.not_eq_true]
theorem ltFF_swo:SWO (ltOf cmpFF) where
 irrefl x:=(ltFF_no x x).2 (List.lt_irrefl _)
 trans x y z h k:=(ltFF_iff x z).2 (List.lt_trans ((ltFF_iff x y).1 h) ((ltFF_iff y z).1 k))
 ntrans x y z h k:=by
  rw [ltFF_no] at *
  exact List.not_lt.2 (List.le_trans (List.not_lt.1 k) (List.not_lt.1 h))
def SortedF (ys:List FF):Prop:=∀ i j,i<j->j<ys.length->¬ (ys.getD j ([],[])).1<(ys.getD i ([],[])).1
def jh (xs:List FF) (K:List FF->Prop):Prop:=xs.length<4611686018427387904/\∀ ys:List FF,ys.Perm xs->SortedF ys->K ys
theorem j7 {w:World} {xs:List FF} {A:Option Addr} {c n B:Nat} {e:TypeId} {K:List FF->Prop} (hO:OwnK 2 enc67 w B e A c xs) (hn:n=xs.length) (H:jh xs K) :
  Fn Tryz.prog 51 ⟨[.slice A n c,.func (.func 52) #[] #[]]⟩ w (fun v w'=>∃ ys:List FF,v=.tuple #[]/\OwnK 2 enc67 w' B e A c ys/\w.grownBy w' (blk A)/\ys.length=xs.length/\K ys):=by
 refine sortP_fn (by kernel_rfl) (fun b cap w1 hH hb=>?_) (fun p cap w1=>AnyF.slices_SortFunc_none Tryz.sortf51 p cap _ w1) (fun h=>H.2 _ (by rw [h]) fun i j _ hj=>by simp at hj) hO hn
 have hsz:xs.toArray.size<4611686018427387904:=H.1
 refine (AnyQ.slices_SortFunc Tryz.sortf51 2 Tryz.isAgg67 Tryz.sizeOf67 enc67 (fun _=>rfl) (fun x v hv=>by
   simp only [enc67,List.mem_cons,List.not_mem_nil,or_false] at hv
   rcases hv with rfl | rfl <;> rfl) cmpFF ltFF_swo 52 #[] b 0 cap xs.toArray w1 (fun _ _=>by kernel_rfl) (fun _ _ _ _ x y=>compare_FF x y _) hH hb hsz).mono fun _ w' ⟨he,d,q,os,⟨p1,_,p3⟩,hs,hw⟩=>?_
 have hd:d.toList.length=xs.length:=by simpa using p1
 refine ⟨he,d.toList,q,os,hd,H.2 _ ?_ fun i j hij hj=>?_,hw⟩
 ·have e1:d.extract 0 xs.toArray.size=d:=by rw [<-p1]; exact Array.extract_size
  rw [e1,Array.extract_size] at p3
  simpa using p3
 ·have:=hs i j (Nat.zero_le _) hij (by rw [<-p1]; simpa using hj)
  rw [ltFF_no] at this
  have h1:i<d.size:=by simp at hj; omega
  have h2:j<d.size:=by simpa using hj
  simpa [List.getD,h1,h2] using this
end
 
section
open Go Go.RowKit
attribute [local irreducible] WL WC WX WQ WK WJ Yld Eff Ef0 Fn
def M_plan_Outputs (g_l:List (Int × List (List UInt8) × List (List UInt8) × List UInt8)) (a3:List (List UInt8 × Int)) (a1:List (List Int)) (a2:List (List Int)) (files:List (List UInt8 × List UInt8)) (K:(List (List UInt8 × List UInt8))->Prop):Prop :=
 (g_l.length<=maxLen ->
 (a1.length<=maxLen ->
 (a2.length<=maxLen ->
 (files.length<=maxLen ->
 kj g_l a3 a1 a2 files (fun (t12:List (Int × List UInt8 × List UInt8)) =>
 Lp2 (fun (l:List (List UInt8 × List UInt8)) (t14:Int) kont1=>((t14<(t12.length:Int)->∃ J1:(List (List UInt8 × List UInt8))->Prop,((0<=t14/\t14<(t12.length:Nat)) /\
 ((((t12.getD t14.toNat (0,[],[])).1)=(1:Int)->jl g_l a3 a1 a2 t14 (fun (c5:Int) (c4:List (List UInt8)) (a9:List (List UInt8)) (a0:List UInt8) (t251:Bool) =>
 ((l.length+(([(a0,(t12.getD t14.toNat (0,[],[])).2.1)]:List (List UInt8 × List UInt8))).length)*32<=140737488355328) /\
 J1 (l++([(a0,(t12.getD t14.toNat (0,[],[])).2.1)]:List (List UInt8 × List UInt8))))) /\
 (¬ (((t12.getD t14.toNat (0,[],[])).1)=(1:Int))->J1 l))) /\
 (∀ l2:List (List UInt8 × List UInt8),J1 l2->(In .i64 (t14+(1:Int))) /\
 kont1 l2 (t14+(1:Int)))) /\
 (¬ (t14<(t12.length:Int))->jh l (fun (ys:List (List UInt8 × List UInt8)) =>
 K ys)))) [] (0:Int))))))
set_option maxHeartbeats 8000000 in
theorem W_plan_Outputs {S:List Nat} {w:World} {g_g:Nat} {g_l:List (Int × List (List UInt8) × List (List UInt8) × List UInt8)} {e0:Option Addr} {e1:Nat} {d7:List (Int × Hdr × Hdr × List UInt8)} {b4:Nat} {a3:List (List UInt8 × Int)} {a1:List (List Int)} {b0:Option Addr} {b3:Nat} {a8:List Hdr} {a2:List (List Int)} {b9:Option Addr} {c1:Nat} {b5:List Hdr} {files:List (List UInt8 × List UInt8)} {d1:Option Addr} {d2:Nat} {e2:Nat} {b6:Nat} {c3:Nat} {d4:Nat} {K:(List (List UInt8 × List UInt8))->Prop} (hG:GOK S w) (hS10:10∈S) (hS16:16∈S) (hS100:100∈S) (hS101:101∈S) (d9:RdK 4 qP w e0 e1 d7) (e3:e2=g_l.length) (d0:RelD de64 w d7 g_l) (c2:MapB vs okS vi w b4 a3) (a5:Rd vh w b0 b3 a8) (c8:b6=a1.length) (a4:RelD de24 w a8 a1) (a7:Rd vh w b9 c1 b5) (c9:c3=a2.length) (a6:RelD de24 w b5 a2) (hg:Bl w g_g 71 [.slice e0 e2 e1,.map (some b4),.slice b0 b6 b3,.slice b9 c3 c1]) (hfiles:RdK 2 enc67 w d1 d2 files) (d6:d4=files.length) (H:M_plan_Outputs g_l a3 a1 a2 files K):Fn Tryz.prog 20 ⟨[.pointer (some ⟨g_g,0,none⟩),.slice d1 d4 d2]⟩ w (fun v w'=>w.grownBy w' none/\∃ (r:List (List UInt8 × List UInt8)),∃ (A_r:Option Addr),∃ (c_r:Nat),v=.slice A_r r.length c_r/\OwnK 2 enc67 w' w.heap.size 67 A_r c_r r/\K r):=by
 subst e3
 subst c8
 subst c9
 subst d6
 unfold M_plan_Outputs at H
 refine Fn.enter (by kernel_rfl) Tryz.func20 rfl Tryz.ntmps20 rfl ?_
 replace H:=H (by rw [<-d0.1]; exact Nat.le_trans d9.cap d9.max)
 replace H:=H (by rw [<-a4.1]; exact Nat.le_trans a5.cap a5.max)
 replace H:=H (by rw [<-a6.1]; exact Nat.le_trans a7.cap a7.max)
 replace H:=H (Nat.le_trans hfiles.cap hfiles.max)
 refine zc (zb (yp (h:=(zd (za (zc (zb (yp (h:=(zd (za (zc (zc (zb (yp (h:=(yp (h:=(zr rfl rfl (W_plan_Fates hG hS10 hS16 hS100 hS101 d9 rfl d0 c2 a5 rfl a4 a7 rfl a6 hg hfiles rfl H) ?_)))))))))))))))))))
 rintro _ w1 ⟨hg1,t12,c0,d3,rfl,ht12,H⟩
 have hb1:=ht12.ge'
 refine yp (h:=(yp (h:=(zd (za (WC.block ?_))))))
 obtain ⟨I1,mu1,e5,HR1⟩:=H
 refine zA (fun n' L' w'=>∃ (l:List (List UInt8 × List UInt8)),∃ (A_l:Option Addr),∃ (c_l:Nat),∃ (n_l:Nat),∃ (t14:Int),n'=mu1 l t14/\L'=[(0,.pointer (some ⟨g_g,0,none⟩)),(5,.slice A_l n_l c_l),(12,.slice c0 t12.length d3),(13,.int .i64 (t12.length:Int)),(14,.int .i64 t14)]/\I1 l t14/\n_l=l.length/\w.grownBy w' none/\OwnK 34 enc47 w' w.heap.size 47 c0 d3 t12/\OwnK 2 enc67 w' w.heap.size 67 A_l c_l l/\Dj (blk c0) (blk A_l)) _ _ ⟨[],none,0,0,(0:Int),rfl,rfl,e5,rfl,hg1,(ht12.base (fun g hg=>Nat.le_trans (Nat.le_refl _) (hb1 g hg))),(OwnK.nil enc67_ok w1 w.heap.size 67),Dj.nr⟩ sb ?_
 clear e5
 rintro _ _ w2 ⟨l,A_l,c_l,n_l,t14,rfl,rfl,hI1,rfl,gr2,k2,k3,dj1⟩
 have H:=HR1 l t14 hI1
 refine zc (zb (yp (h:=(zd (za (zc (zk rfl (fun b1=>?_) (fun b1=>?_))))))))
 ·replace H:=H.1 (of_decide_eq_true b1)
  refine zm (za (zc ?_))
  obtain ⟨J1,H,hJ1⟩:=H
  refine zL (fun L' w'=>∃ (l2:List (List UInt8 × List UInt8)),∃ (d5:Option Addr),∃ (d8:Nat),∃ (e4:Nat),L'=[(0,.pointer (some ⟨g_g,0,none⟩)),(5,.slice d5 e4 d8),(12,.slice c0 t12.length d3),(13,.int .i64 (t12.length:Int)),(14,.int .i64 t14)]/\J1 l2/\e4=l2.length/\w.grownBy w' none/\OwnK 34 enc47 w' w.heap.size 47 c0 d3 t12/\OwnK 2 enc67 w' w.heap.size 67 d5 d8 l2/\Dj (blk c0) (blk d5)) ?_ (fun hQ=>?_)
  ·clear H
   rintro _ w3 ⟨l2,d5,d8,e4,rfl,H,rfl,gr3,k4,k5,dj2⟩
   replace H:=hJ1 l2 H
   refine za (zb ?_)
   obtain ⟨h1,H⟩:=H
   exact zi rfl (Yld.add rfl rfl h1) (yp (h:=(zd (zw _ ⟨l2,d5,d8,l2.length,t14+(1:Int),rfl,rfl,H.1,rfl,gr3,k4,k5,dj2⟩ sb H.2))))
  ·clear hJ1
   refine WC.block (zc (zb (yp (h:=?_))))
   obtain ⟨h2,H⟩:=H
   refine zi rfl (zE qD k2.rd rfl rfl rfl rfl h2.1 h2.2) (zi rfl (zU (0,[],[]) qD k2.rd rfl rfl (iltN h2 rfl)) (WL.alloc rfl zero47 (fun g1 w4 hB1 hg2 hl1=>yp (h:=(zH (vs:=([.int .i64 ((t12.getD t14.toNat (0,[],[])).1),vs ((t12.getD t14.toNat (0,[],[])).2.1)]++a32 ((t12.getD t14.toNat (0,[],[])).2.2))) qD rfl rfl rfl (qG rfl (qG rfl (kt _))) hB1 rfl rfl (fun w5 hB2 hg3=>?_))))))
   have gr5:=qH (qE gr2 hg2) hg3 (Ge.le (Ge.box hl1) (qF gr2))
   have k8:=(k2.grown hg2).go hg3 (Dj.new k2.lt' (Ge.box hl1))
   have k9:=(k3.grown hg2).go hg3 (Dj.new k3.lt' (Ge.box hl1))
   refine zd (za (zc (zb (yp (h:=(zi rfl (zt qD hB2 rfl rfl rfl) (yp (h:=(zd (za (zk rfl (fun b2=>?_) (fun b2=>?_))))))))))))
   ·replace H:=H.1 (of_decide_eq_true b2)
    refine zc (zb (yp (h:=(yp (h:=(zr rfl rfl (kT (d9.grown gr5) rfl (d0.grown gr5) (c2.g0 gr5) (a5.grown gr5) rfl (a4.grown gr5) (a7.grown gr5) rfl (a6.grown gr5) (hg.g0 gr5) H) ?_))))))
    rintro _ w6 ⟨hg4,c5,c4,c6,c7,a9,b7,b8,a0,t251,rfl,ht250_Args,ht250_Inputs,dj3,H⟩
    have hb2:=ht250_Args.ge'
    have k10:=ht250_Args.base (fun g hg=>Nat.le_trans (qF gr5) (hb2 g hg))
    have hb3:=ht250_Inputs.ge'
    have k11:=ht250_Inputs.base (fun g hg=>Nat.le_trans (qF gr5) (hb3 g hg))
    have gr6:=qE gr5 hg4
    have k12:=k8.grown hg4
    have k13:=k9.grown hg4
    have k14:=hB2.g0 hg4
    refine yp (h:=(yp (h:=(yp (h:=(WL.alloc rfl zero64 (fun g2 w7 hB3 hg5 hl2=>zH (vs:=[.int .i64 c5,.slice c6 c4.length c7,.slice b7 a9.length b8,vs a0]) qD rfl rfl rfl (qG rfl (qG rfl (qG rfl (qG rfl qR)))) hB3 rfl rfl (fun w8 hB4 hg6=>?_))))))))
    have gr8:=qH (qE gr6 hg5) hg6 (Ge.le (Ge.box hl2) (qF gr6))
    have k23:=(k10.grown hg5).go hg6 (Dj.new k10.lt' (Ge.box hl2))
    have k24:=(k11.grown hg5).go hg6 (Dj.new k11.lt' (Ge.box hl2))
    refine yp (h:=(zd (za (zb (yp (h:=(yp (h:=(zi rfl (zt qD hB4 rfl rfl rfl) (yp (h:=(zi rfl (zt qD ((k14.g0 hg5).go hg6 (Dj.new k14.lt' (Ge.box hl2))) rfl rfl rfl) (zi rfl (zS (us:=[vs a0,vs ((t12.getD t14.toNat (0,[],[])).2.1)]) zero67 places67 rfl rfl) (WL.litK (f:=enc67) ([(a0,(t12.getD t14.toNat (0,[],[])).2.1)]:List (List UInt8 × List UInt8)) enc67_ok rfl ow23 rfl rfl rfl (fun g3 w9 hB5 hg7 hl3=>?_)))))))))))))))
    have hO1:OwnK 2 enc67 w9 w.heap.size 67 (some ⟨g3,0,none⟩) 1 ([(a0,(t12.getD t14.toNat (0,[],[])).2.1)]:List (List UInt8 × List UInt8)):=OwnK.ofBl enc67_ok hB5 (Nat.le_trans (qF gr8) hl3) (by simp [maxLen]) rfl
    have gr9:=qE gr8 hg7
    have k25:=((k12.grown hg5).go hg6 (Dj.new k12.lt' (Ge.box hl2))).grown hg7
    have k26:=((k13.grown hg5).go hg6 (Dj.new k13.lt' (Ge.box hl2))).grown hg7
    obtain ⟨h3,H⟩:=H
    exact qy rfl ow23 k26 rfl rfl hO1.rd rfl rfl h3 (qN h3) (qF gr9) (fun e6 e7 w10 hO2 hg8 hk1=>yp (h:=(zd (zg (WX.weaken sb (hQ _ _ ⟨l++([(a0,(t12.getD t14.toNat (0,[],[])).2.1)]:List (List UInt8 × List UInt8)),e6,e7,(l++([(a0,(t12.getD t14.toNat (0,[],[])).2.1)]:List (List UInt8 × List UInt8))).length,rfl,H,rfl,(qH gr9 hg8 k26.ge'),(k25.go hg8 dj1),hO2,(Dj.app dj1.symm k25.lt' hk1).symm⟩))))))
   ·replace H:=H.2 (of_decide_eq_false b2)
    exact zm (zg (WX.weaken sb (hQ _ _ ⟨l,A_l,c_l,l.length,rfl,H,rfl,gr5,k8,k9,dj1⟩)))
 ·replace H:=H.2 (of_decide_eq_false b1)
  refine zz (zf (zf (zj (za (zc (zb (yp (h:=(zr rfl rfl (j7 k3 rfl H) ?_)))))))))
  rintro _ w11 ⟨ys,rfl,hO3,hg9,hl4,H⟩
  exact zd (za (zc (zb (yp (h:=(yp (h:=(zd (za (zq (zx rfl rfl ⟨(qH gr2 hg9 k3.ge'),ys,A_l,c_l,(by rw [((rfl:l.length=l.length).trans hl4.symm)]),hO3,H⟩)))))))))))
end
 
section
open Go Go.RowKit
def outF (l:List GAct) (fs:List FT):Nat->TX
 | 0=>[]
 | m+1=>outF l fs m++if (fs.getD m fz).1=1 then [((l.getD m az).2.2.2,(fs.getD m fz).2.1)] else []
theorem outF_len (l:List GAct) (fs:List FT):∀ m,(outF l fs m).length<=m
 | 0=>Nat.le_refl _
 | m+1=>by
  have:=outF_len l fs m
  unfold outF
  rw [List.length_append]
  split <;> simp <;> omega
theorem outputs_M {l:List GAct} {files:TX} {K:TX->Prop} (hs:GSmall l) (g:GOk l) (hty:∀ j,j<l.length->1<=(l.getD j az).1/\(l.getD j az).1<=5) (hf:files.length<=100) (hfp:∀ f∈files,f.1.length<=1000/\f.2.length<=100000) (h:∀ ys:TX,List.Perm ys (outF l (kE FQ1 l files) l.length)->SortedF ys->K ys):M_plan_Outputs l (mkP l l.length) (befL l l.length) (aftL l l.length) files K:=by
 intro _ _ _ _
 have hl:=hs.len
 refine fates_M hs g hty hf hfp ?_
 have la:(kE FQ1 l files).length=l.length:=Zg (F:=FQ1) files g l.length (Nat.le_refl _)
 generalize kE FQ1 l files=fs at *
 refine ⟨fun o k=>0<=k/\k<=l.length/\o=outF l fs k.toNat,fun _ k=>l.length - k.toNat,⟨by omega,by omega,rfl⟩,fun o k ⟨a0,a1,a2⟩=>⟨fun hlt=>?_,fun hge=>?_⟩⟩
 ·have hk:k.toNat<l.length:=by omega
  have hol:=outF_len l fs k.toNat
  rw [<-a2] at hol
  have hst:outF l fs (k+1).toNat=o++if (fs.getD k.toNat fz).1=1 then [((l.getD k.toNat az).2.2.2,(fs.getD k.toNat fz).2.1)] else []:=by
   rw [show (k+1).toNat=k.toNat+1 by omega,a2]; rfl
  have hin:inR l k:=by unfold inR; omega
  refine ⟨fun m=>m=outF l fs (k+1).toNat,⟨⟨a0,hlt⟩,fun hc=>action_R hs fun a b hab hal=>?_,fun hc=>?_⟩,fun m hm=>⟨by simp only [In]; omega,⟨by omega,by omega,hm⟩,by (try dsimp only); omega⟩⟩
  ·obtain rfl:a=l.getD k.toNat az:=hab.elim (fun h=>h.2.2) fun h=>absurd hin h.2.1
   refine ⟨by simp only [List.length_singleton]; omega,?_⟩
   have hc':(fs.getD k.toNat fz).1=1:=hc
   rw [hst,if_pos hc']; rfl
  ·have hc':¬ (fs.getD k.toNat fz).1=1:=hc
   rw [hst,if_neg hc',List.append_nil]
 ·have:=outF_len l fs l.length
  rw [show k.toNat=l.length by omega] at a2
  rw [a2]
  exact ⟨by show (outF l fs l.length).length<_; omega,fun ys hp hy=>h ys hp hy⟩
end
 
section
open Go Go.RowKit
attribute [local irreducible] WL WC WX WQ WK WJ Yld Eff Ef0 Fn
def kx (K:Bool->Prop):Prop :=
 kZ ([((1:Int),([([97]:List UInt8),([98]:List UInt8)]:List (List UInt8)),[],([120]:List UInt8)),((1:Int),[],([([120]:List UInt8)]:List (List UInt8)),([121]:List UInt8))]:List (Int × List (List UInt8) × List (List UInt8) × List UInt8)) (fun (t101:Er) =>
 K false) (fun (a7:List (Int × List (List UInt8) × List (List UInt8) × List UInt8)) (a1:List (List UInt8 × Int)) (a0:List (List Int)) (a3:List (List Int)) (t1012:Er) =>
 ((¬ (t1012=Er.ok)->K false) /\
 (t1012=Er.ok->kj a7 a1 a0 a3 [] (fun (f:List (Int × List UInt8 × List UInt8)) =>
 ((decide ((f.length:Int)=(2:Int)))=true->(0<=(0:Int)/\(0:Int)<(f.length:Nat))) /\
 (((decide ((f.length:Int)=(2:Int))) && (decide (((f.getD 0 (0,[],[])).1)=(2:Int))))=true->(0<=(1:Int)/\(1:Int)<(f.length:Nat))) /\
 K (((decide ((f.length:Int)=(2:Int))) && (decide (((f.getD 0 (0,[],[])).1)=(2:Int)))) && (decide (((f.getD 1 (0,[],[])).1)=(3:Int))))))))
set_option maxHeartbeats 8000000 in
theorem W_smithylaw26_first {S:List Nat} {w:World} {K:Bool->Prop} (hG:GOK S w) (hS4:4∈S) (hS6:6∈S) (hS9:9∈S) (hS10:10∈S) (hS11:11∈S) (hS16:16∈S) (hS100:100∈S) (hS101:101∈S) (H:kx  K):Fn Tryz.prog 4 ⟨[]⟩ w (fun v w'=>w.grownBy w' none/\∃ (r:Bool),v=.bool r/\K r):=by
 unfold kx at H
 refine Fn.enter (by kernel_rfl) Tryz.func4 rfl Tryz.ntmps4 rfl ?_
 refine zc (zb (yp (h:=(zd (za (zc (zb (zP qD rfl rfl rfl (qG rfl (qG rfl qR)) rfl (by omega) (fun g1 w1 hB1 hg1 hl1=>?_)))))))))
 have hO1:Own vs w1 w.heap.size 9 (some ⟨g1,0,none⟩) 2 ([([97]:List UInt8),([98]:List UInt8)]:List (List UInt8)):=Own.ofBl hB1 (Nat.le_trans (Nat.le_refl _) hl1) (by simp [maxLen]) rfl
 have gr1:=hg1
 refine zi rfl (zS (us:=[.int .i64 (1:Int),.slice (some ⟨g1,0,none⟩) 2 2,.slice none 0 0,vs ([120]:List UInt8)]) zero64 places64 rfl rfl) (zP qD rfl rfl rfl (qG rfl qR) rfl (by omega) (fun g2 w2 hB2 hg2 hl2=>?_))
 have hO2:Own vs w2 w.heap.size 9 (some ⟨g2,0,none⟩) 1 ([([120]:List UInt8)]:List (List UInt8)):=Own.ofBl hB2 (Nat.le_trans (qF gr1) hl2) (by simp [maxLen]) rfl
 have gr2:=qE gr1 hg2
 have k1:=hO1.grown hg2
 refine zi rfl (zS (us:=[.int .i64 (1:Int),.slice none 0 0,.slice (some ⟨g2,0,none⟩) 1 1,vs ([121]:List UInt8)]) zero64 places64 rfl rfl) (WL.litK (f:=qP) ([((1:Int),⟨(some ⟨g1,0,none⟩),2,2⟩,⟨none,0,0⟩,([120]:List UInt8)),((1:Int),⟨none,0,0⟩,⟨(some ⟨g2,0,none⟩),1,1⟩,([121]:List UInt8))]:List (Int × Hdr × Hdr × List UInt8)) Zl rfl ow22 rfl rfl rfl (fun g4 w4 hB4 hg4 hl4=>?_))
 have hO4:OwnK 4 qP w4 w.heap.size 64 (some ⟨g4,0,none⟩) 2 ([((1:Int),⟨(some ⟨g1,0,none⟩),2,2⟩,⟨none,0,0⟩,([120]:List UInt8)),((1:Int),⟨none,0,0⟩,⟨(some ⟨g2,0,none⟩),1,1⟩,([121]:List UInt8))]:List (Int × Hdr × Hdr × List UInt8)):=OwnK.ofBl Zl hB4 (Nat.le_trans (qF gr2) hl4) (by simp [maxLen]) rfl
 have gr3:=qE gr2 hg4
 have k2:=k1.grown hg4
 have k3:=hO2.grown hg4
 have hr1:RelD de64 w4 ([((1:Int),⟨(some ⟨g1,0,none⟩),2,2⟩,⟨none,0,0⟩,([120]:List UInt8)),((1:Int),⟨none,0,0⟩,⟨(some ⟨g2,0,none⟩),1,1⟩,([121]:List UInt8))]:List (Int × Hdr × Hdr × List UInt8)) ([((1:Int),([([97]:List UInt8),([98]:List UInt8)]:List (List UInt8)),[],([120]:List UInt8)),((1:Int),[],([([120]:List UInt8)]:List (List UInt8)),([121]:List UInt8))]:List (Int × List (List UInt8) × List (List UInt8) × List UInt8)):=(RelD.cons ⟨rfl,⟨rfl,k2.rd⟩,⟨rfl,(Own.nil vs w4 w.heap.size 9).rd⟩,rfl⟩ (RelD.cons ⟨rfl,⟨rfl,(Own.nil vs w4 w.heap.size 9).rd⟩,⟨rfl,k3.rd⟩,rfl⟩ RelD.nil))
 have nd1:NewD de64 ([((1:Int),⟨(some ⟨g1,0,none⟩),2,2⟩,⟨none,0,0⟩,([120]:List UInt8)),((1:Int),⟨none,0,0⟩,⟨(some ⟨g2,0,none⟩),1,1⟩,([121]:List UInt8))]:List (Int × Hdr × Hdr × List UInt8)) ([((1:Int),([([97]:List UInt8),([98]:List UInt8)]:List (List UInt8)),[],([120]:List UInt8)),((1:Int),[],([([120]:List UInt8)]:List (List UInt8)),([121]:List UInt8))]:List (Int × List (List UInt8) × List (List UInt8) × List UInt8)) w.heap.size:=(NewD.cons (d:=de64) (fun p_ hp_=>⟨trivial,(Dn.of (Dj.new hp_ k2.ge').symm),(fun h=>absurd rfl h),trivial⟩) (NewD.cons (d:=de64) (fun p_ hp_=>⟨trivial,(fun h=>absurd rfl h),(Dn.of (Dj.new hp_ k3.ge').symm),trivial⟩) NewD.nil))
 have dj1:DnD de64 ([((1:Int),⟨(some ⟨g1,0,none⟩),2,2⟩,⟨none,0,0⟩,([120]:List UInt8)),((1:Int),⟨none,0,0⟩,⟨(some ⟨g2,0,none⟩),1,1⟩,([121]:List UInt8))]:List (Int × Hdr × Hdr × List UInt8)) ([((1:Int),([([97]:List UInt8),([98]:List UInt8)]:List (List UInt8)),[],([120]:List UInt8)),((1:Int),[],([([120]:List UInt8)]:List (List UInt8)),([121]:List UInt8))]:List (Int × List (List UInt8) × List (List UInt8) × List UInt8)) (blk (some ⟨g4,0,none⟩)):=(DnD.cons (d:=de64) ⟨trivial,(Dn.of (Dj.new k1.lt' (Ge.box hl4))),(Dn.of Dj.nl),trivial⟩ (DnD.cons (d:=de64) ⟨trivial,(Dn.of Dj.nl),(Dn.of (Dj.new hO2.lt' (Ge.box hl4))),trivial⟩ DnD.nil))
 refine zr rfl rfl (W_graph_New (hG.grown gr3) hS4 hS6 hS9 hS10 hS11 hS100 hO4.rd (rfl.trans hr1.1) hr1 H) ?_
 rintro v_ w5 ⟨hg_,hc_ | hc_⟩
 ·obtain ⟨v_t101,t101,rfl,ht101,H⟩:=hc_
  have hg5:=hg_
  refine yp (h:=(yp (h:=(yp (h:=(yp (h:=(yp (h:=(zd (za (zc (zc (zb (yp (h:=(zi rfl (Yld.peqnil Tryz.underlying28 rfl rfl) (yp (h:=(zD 3 (fun L' w'=>∃ q1:Bool,L'=[(18,.bool q1),(1,.pointer none)]/\true=q1/\w5=w') ?_ (fun hQ=>?_)))))))))))))))))))))
  ·rintro _ _ ⟨q1,rfl,rfl,rfl⟩
   exact zd (za (zk rfl (fun _=>zc (zb (yp (h:=(zd (za (zq (zh (zx rfl rfl ⟨(qE gr3 hg5),false,rfl,H⟩))))))))) (fun h=>by cases h)))
  ·clear H
   exact WL.gno rfl rfl (rfl) rfl (WL.gno rfl rfl (rfl) rfl (zi rfl (zy (rfl) rfl) (wk (hQ _ _ ⟨true,rfl,rfl,rfl⟩))))
 ·obtain ⟨b7,a7,b9,c0,b8,b0,a1,a0,a8,a9,a6,a3,b5,b6,b4,v_t1012,t1012,rfl,ht100_l,a5,nd2,dj2,ht100_before,a2,nd3,dj3,ht100_after,a4,nd4,dj4,ht1012,ht100_makers,hge1,ht100,hge2,dj5,dj6,dj7,dj8,dj9,dj10,dj11,dj12,dj13,dj14,dj15,dj16,dj17,dj18,dj19,dj20,dj21,dj22,dj23,dj24,dj25,dj26,dj27,dj28,dj29,H⟩:=hc_
  have hg6:=hg_
  have hb1:=ht100_l.ge'
  have hb2:=ht100_before.ge'
  have hb3:=ht100_after.ge'
  have gr5:=qE gr3 hg6
  refine yp (h:=(yp (h:=(yp (h:=(yp (h:=(yp (h:=(zd (za (zc (zc (zb (yp (h:=(zi rfl (Yld.peqnil Tryz.underlying28 rfl rfl) (yp (h:=(zD 3 (fun L' w'=>∃ q2:Bool,L'=[(18,.bool q2),(1,.pointer (some ⟨b7,0,none⟩))]/\(!decide (t1012=Er.ok))=q2/\w5=w') ?_ (fun hQ=>?_)))))))))))))))))))))
  ·rintro _ _ ⟨q2,rfl,rfl,rfl⟩
   refine zd (za (zk rfl (fun b1=>?_) (fun b1=>?_)))
   ·replace H:=H.1 (kN b1)
    exact zc (zb (yp (h:=(zd (za (zq (zh (zx rfl rfl ⟨gr5,false,rfl,H⟩))))))))
   ·replace H:=H.2 (j9 b1)
    refine zm (za (zc (zb (yp (h:=(zr rfl rfl (W_plan_Fates (hG.grown gr5) hS10 hS16 hS100 hS101 (ht100_l.base (fun g hg=>Nat.le_trans (qF gr3) (hb1 g hg))).rd rfl a5 ht100_makers (ht100_before.base (fun g hg=>Nat.le_trans (qF gr3) (hb2 g hg))).rd rfl a2 (ht100_after.base (fun g hg=>Nat.le_trans (qF gr3) (hb3 g hg))).rd rfl a4 ht100 (OwnK.nil enc67_ok w5 w.heap.size 67).rd rfl H) ?_))))))
    rintro _ w8 ⟨hg7,f,A_f,c_f,rfl,hf,H⟩
    have hb4:=hf.ge'
    have k7:=hf.base (fun g hg=>Nat.le_trans (qF gr5) (hb4 g hg))
    refine yp (h:=(zd (za (zc (zb (yp (h:=(yp (h:=(yp (h:=(yp (h:=?_)))))))))))))
    obtain ⟨h1,H⟩:=H
    refine zD 6 (fun L' w'=>∃ q3:Bool,L'=[(30,.bool q3),(3,.slice A_f f.length c_f)]/\((decide ((f.length:Int)=(2:Int))) && (decide (((f.getD 0 (0,[],[])).1)=(2:Int))))=q3/\w8=w') ?_ (fun hQ=>?_)
    ·rintro _ _ ⟨q3,rfl,rfl,rfl⟩
     refine yp (h:=?_)
     obtain ⟨h2,H⟩:=H
     refine zD 6 (fun L' w'=>∃ q4:Bool,L'=[(37,.bool q4)]/\(((decide ((f.length:Int)=(2:Int))) && (decide (((f.getD 0 (0,[],[])).1)=(2:Int)))) && (decide (((f.getD 1 (0,[],[])).1)=(3:Int))))=q4/\w8=w') ?_ (fun hQ=>?_)
     ·rintro _ _ ⟨q4,rfl,rfl,rfl⟩
      exact yp (h:=(zd (za (zq (zx rfl rfl ⟨(qE gr5 hg7),((decide ((f.length:Int)=(2:Int))) && (decide (((f.getD 0 (0,[],[])).1)=(2:Int)))) && (decide (((f.getD 1 (0,[],[])).1)=(3:Int))),rfl,H⟩)))))
     ·clear H
      rcases Bool.eq_false_or_eq_true ((decide ((f.length:Int)=(2:Int))) && (decide (((f.getD 0 (0,[],[])).1)=(2:Int)))) with b2 | b2
      ·exact gp b2 (h:=(zC rfl rfl (okb b2) rfl (zE qD k7.rd rfl rfl rfl rfl (h2 b2).1 (h2 b2).2) (zC rfl rfl (okb b2) rfl (zK qD k7.rd (iltN (h2 b2) rfl) rfl rfl rfl) (zC rfl rfl (okb b2) rfl (zN (0,[],[]) qD k7.rd rfl rfl (iltN (h2 b2) rfl) rfl) (gp b2 (h:=(zi rfl (zy (okb b2) rfl) (wk (hQ _ _ ⟨decide (((f.getD 1 (0,[],[])).1)=(3:Int)),rfl,by rw [b2] <;> rfl,rfl⟩)))))))))
      ·exact gn b2 (h:=(gn b2 (h:=(gn b2 (h:=(gn b2 (h:=(gn b2 (h:=(zi rfl (zv (okb b2) rfl) (wk (hQ _ _ ⟨false,rfl,by rw [b2] <;> rfl,rfl⟩))))))))))))
    ·clear H
     rcases Bool.eq_false_or_eq_true (decide ((f.length:Int)=(2:Int))) with b3 | b3
     ·exact gp b3 (h:=(zC rfl rfl (okb b3) rfl (zE qD k7.rd rfl rfl rfl rfl (h1 b3).1 (h1 b3).2) (zC rfl rfl (okb b3) rfl (zK qD k7.rd (iltN (h1 b3) rfl) rfl rfl rfl) (zC rfl rfl (okb b3) rfl (zN (0,[],[]) qD k7.rd rfl rfl (iltN (h1 b3) rfl) rfl) (gp b3 (h:=(zi rfl (zy (okb b3) rfl) (wk (hQ _ _ ⟨decide (((f.getD 0 (0,[],[])).1)=(2:Int)),rfl,by rw [b3] <;> rfl,rfl⟩)))))))))
     ·exact gn b3 (h:=(gn b3 (h:=(gn b3 (h:=(gn b3 (h:=(gn b3 (h:=(zi rfl (zv (okb b3) rfl) (wk (hQ _ _ ⟨false,rfl,by rw [b3] <;> rfl,rfl⟩))))))))))))
  ·clear H
   exact zC rfl rfl (rfl) rfl (ze qD rfl) (zC rfl rfl (rfl) rfl (qf Tryz.underlying30 ht1012 rfl) (zi rfl (zv (rfl) rfl) (wk (hQ _ _ ⟨!decide (t1012=Er.ok),rfl,rfl,rfl⟩))))
end
 
section
open Go Go.RowKit
theorem files_B {l:TX} {K:Bool->Prop} (h:∀ t:Bool,(t=true->l.length<=40/\∀ f∈l,f.1.length<=250/\f.2.length<=3000)->K t):kB l K:=by
 intro _
 refine ⟨fun _=>h false fun h=>(by cases h),fun hle=>?_⟩
 refine ⟨fun i=>0<=i/\i<=l.length/\∀ j,j<i.toNat->(l.getD j ([],[])).1.length<=250/\(l.getD j ([],[])).2.length<=3000,fun i=>l.length - i.toNat,⟨by omega,by omega,fun j hj=>by simp at hj⟩,fun i ⟨a0,a1,a2⟩=>⟨fun hlt=>⟨⟨a0,hlt⟩,fun _=>⟨a0,hlt⟩,fun _=>h false fun h=>(by cases h),fun hc=>⟨by simp only [In]; omega,⟨by omega,by omega,fun j hj=>?_⟩,by (try dsimp only); omega⟩⟩,fun hge=>h true fun _=>⟨by omega,fun f hf=>?_⟩⟩⟩
 ·rw [Bool.or_eq_false_iff,decide_eq_false_iff_not,decide_eq_false_iff_not] at hc
  by_cases e:j=i.toNat
  ·rw [e]; omega
  ·exact a2 j (by omega)
 ·obtain ⟨j,hj,rfl⟩:=List.getElem_of_mem hf
  have:=a2 j (by omega)
  simpa [List.getD,hj] using this
theorem fits_ty {l:List GAct} {j:Nat} (h:fitsAt l j=.ok):1<=(l.getD j az).1/\(l.getD j az).1<=5:=by
 have h:fitsP (mkP l j) (l.getD j az)=.ok:=h
 unfold fitsP at h
 split at h
 ·cases h
 ·omega
theorem GRes.ty {l:List GAct} (h:GRes l .ok):∀ j,j<l.length->1<=(l.getD j az).1/\(l.getD j az).1<=5:=by
 rcases h with ⟨_,h⟩ | ⟨_,_,_,_,_,_,h⟩ | ⟨_,_,_,_,_,_,h⟩ | ⟨_,a1,_,_⟩
 ·cases h
 ·cases h
 ·cases h
 ·exact fun j hj=>fits_ty (a1 j hj)
def P2:List GAct:=[(1,[[97],[98]],[],[120]),(1,[],[[120]],[121])]
theorem P2_bs:bsP P2 0=[]/\bsP P2 1=[0]:=by
 constructor
 ·exact List.length_eq_zero_iff.1 (Nat.le_zero.1 (bsP_len P2 0))
 ·have h1:(0:Int)∈bsP P2 1:=bsP_mem.2 ⟨[120],by decide,by decide⟩
  have h2:(bsP P2 1).length<=1:=bsP_len P2 1
  match hb:bsP P2 1,h1,h2 with
  | [x],h1,_=>rw [List.mem_singleton.1 h1]
theorem P2_rch {k:Int} (h:Rch (befL P2 P2.length) [0] k):k=0:=by
 induction h with
 | base h=>simpa using h
 | step _ h ih =>
  subst ih
  rw [kf,if_pos (by decide),show (0:Int).toNat=0 from rfl,P2_bs.1] at h
  cases h
theorem P2_no {k:Int} (h:Rch (befL P2 P2.length) [] k):False:=by
 induction h with
 | base h=>cases h
 | step _ _ ih=>exact ih
theorem P2_res:GRes P2 .ok:=by
 refine .inr (.inr (.inr ⟨fun h=>h.elim (by decide) (by decide),fun j hj=>?_,fun j hj=>?_,rfl⟩))
 ·match j,hj with
  | 0,_=>decide
  | 1,_=>decide
 ·match j,hj with
  | 0,_=>intro h; unfold GCy at h; rw [P2_bs.1] at h; exact P2_no h
  | 1,_=>intro h; unfold GCy at h; rw [P2_bs.2] at h; exact absurd (P2_rch h) (by decide)
theorem P2_small:GSmall P2:=⟨by decide,by decide,by decide,by decide⟩
theorem P2_fates:((kE FQ1 P2 []).getD 0 fz).1=2/\((kE FQ1 P2 []).getD 1 fz).1=3:=by
 have g:=P2_res.good
 obtain ⟨i,i1,i2,i3,i4,e1⟩:=runP_succ (F:=FQ1) [] g (show 0<P2.length by decide)
 obtain rfl:i=0:=by
  match i,i1 with
  | 0,_=>rfl
  | 1,_=>have:=i4 0 (by rw [P2_bs.2]; simp); simp at this
 obtain ⟨j,j1,j2,j3,j4,e2⟩:=runP_succ (F:=FQ1) [] g (show 1<P2.length by decide)
 obtain rfl:j=1:=by
  match j,j1 with
  | 0,_ =>
   have ho:=(ji g.acy P2.length (Nat.le_refl _)).1
   rw [show (1:Nat)=0+1 from rfl,jd 0 (by rw [ho]; decide),i2] at j3
   simp at j3
  | 1,_=>rfl
 have e:kE FQ1 P2 []=(step1 FQ1 P2 (step1 FQ1 P2 (runP FQ1 P2 [] 0) ((0:Nat):Int)) ((1:Nat):Int)).1:=by
  rw [<-e1,<-e2]; rfl
 have f0:fate1 FQ1 P2 0 [fz,fz] []=FQ1 (P2.getD 0 az) []:=by
  unfold fate1
  rw [P2_bs.1]; rfl
 have f1:∀ v:FT,v.1=2->fate1 FQ1 P2 1 [v,fz] []=fskip:=fun v hv=>by
  unfold fate1
  rw [P2_bs.2,if_pos]
  show (!decide (v.1=1) || _)=true
  rw [hv]; rfl
 have hv:(FQ1 (P2.getD 0 az) []).1=2:=by decide
 have s0:step1 FQ1 P2 (runP FQ1 P2 [] 0) ((0:Nat):Int)=([FQ1 (P2.getD 0 az) [],fz],[]):=by
  show step1 FQ1 P2 ([fz,fz],[]) _=_
  unfold step1
  rw [Int.toNat_natCast]
  dsimp only
  rw [f0,if_neg (by rw [hv]; decide)]; rfl
 rw [e,s0]
 generalize FQ1 (P2.getD 0 az) []=v at hv
 unfold step1
 rw [Int.toNat_natCast]
 dsimp only
 rw [f1 v hv]
 exact ⟨hv,rfl⟩
theorem pfirst_M {K:Bool->Prop} (h:K true):kx K:=by
 show kZ P2 _ _
 have g:=P2_res.good
 refine new_R (by decide) P2_small.sz (fun e he hne=>absurd (GRes.uniq he P2_res) hne) fun _=>⟨fun h=>absurd rfl h,fun _=>fates_M P2_small g P2_res.ty (by simp) (by simp) ?_⟩
 have hl:(kE FQ1 P2 []).length=2:=Zg (F:=FQ1) [] g P2.length (Nat.le_refl _)
 refine ⟨fun _=>by omega,fun _=>by omega,?_⟩
 have e1:=P2_fates.1
 have e2:=P2_fates.2
 unfold fz at e1 e2
 rw [hl,decide_eq_true e1,decide_eq_true e2]
 exact h
end
 
section
open Go Go.RowKit
attribute [local irreducible] WL WC WX WQ WK WJ Yld Eff Ef0 Fn
def ku (k:List UInt8) (cap0:List (List UInt8)) (K:Bool->Prop):Prop :=
 (cap0.length<=maxLen ->
 M_sha_Text k (fun (t6:List UInt8) =>
 jk cap0 t6 (fun (t7:Int) =>
 K (decide ((0:Int)<=t7)))))
def ja (g_l:List (Int × List (List UInt8) × List (List UInt8) × List UInt8)) (e8:List (List UInt8 × Int)) (e3:List (List Int)) (e6:List (List Int)) (files:List (List UInt8 × List UInt8)) (cap0:List (List UInt8)) (K:(List Int)->Prop):Prop :=
 (g_l.length<=maxLen ->
 (e3.length<=maxLen ->
 (e6.length<=maxLen ->
 (files.length<=maxLen ->
 (cap0.length<=maxLen ->
 kj g_l e8 e3 e6 files (fun (t12:List (Int × List UInt8 × List UInt8)) =>
 Lp2 (fun (l:List Int) (t14:Int) kont1=>((t14<(t12.length:Int)->∃ J1:(List Int)->Prop,((0<=t14/\t14<(t12.length:Nat)) /\
 ∃ J2:Bool->Prop,((((decide (((t12.getD t14.toNat (0,[],[])).1)=(1:Int)))=true->ku ((t12.getD t14.toNat (0,[],[])).2.2) cap0 (fun (t26:Bool) =>
 J2 (!t26))) /\
 ((decide (((t12.getD t14.toNat (0,[],[])).1)=(1:Int)))=false->J2 false))) /\
 (∀ q1:Bool,J2 q1->((q1=true->((l.length+(([t14]:List Int)).length)*8<=140737488355328) /\
 J1 (l++([t14]:List Int))) /\
 (q1=false->J1 l)))) /\
 (∀ l2:List Int,J1 l2->(In .i64 (t14+(1:Int))) /\
 kont1 l2 (t14+(1:Int)))) /\
 (¬ (t14<(t12.length:Int))->K l))) [] (0:Int)))))))
def kG (a_State:Int) (a_Out:List UInt8) (a_Key:List UInt8) (b_State:Int) (b_Out:List UInt8) (b_Key:List UInt8) (K:Bool->Prop):Prop :=
 ∃ J1:Bool->Prop,(((((decide (a_State=b_State)) && (decide (a_Out=b_Out)))=true->kc a_Key b_Key (fun (t22:Bool) =>
 J1 t22)) /\
 (((decide (a_State=b_State)) && (decide (a_Out=b_Out)))=false->J1 false))) /\
 (∀ q2:Bool,J1 q2->K q2)
def jw (l:List (Int × List (List UInt8) × List (List UInt8) × List UInt8)) (files:List (List UInt8 × List UInt8)) (known:List Int) (K:Bool->Prop):Prop :=
 (l.length<=maxLen ->
 (files.length<=maxLen ->
 (known.length<=maxLen ->
 kx (fun (ok:Bool) =>
 (((!ok)=true->K false) /\
 ((!ok)=false->ke l (fun (t23:Bool) =>
 ∃ J1:Bool->Prop,((((!t23)=true->J1 true) /\
 ((!t23)=false->kB files (fun (t27:Bool) =>
 J1 (!t27))))) /\
 (∀ q1:Bool,J1 q1->((((q1 || (decide ((30:Int)<(known.length:Int)))) || (!ok))=true->K ok) /\
 (((q1 || (decide ((30:Int)<(known.length:Int)))) || (!ok))=false->kZ l (fun (t421:Er) =>
 jx l (fun (d9:Int) (h0:Bool) (n2:Int) (l7:Bool) (m4:List UInt8) =>
 ((((!decide (d9=(0:Int))) || (!decide (t421=Er.ok)))=true->K ((decide (t421=Er.ok)) == (decide (d9=(0:Int))))) /\
 (((!decide (d9=(0:Int))) || (!decide (t421=Er.ok)))=false->False))) (fun (p9:List (Int × List (List UInt8) × List (List UInt8) × List UInt8)) (d6:Int) (f0:Bool) (m5:Int) (g7:Bool) (l4:List UInt8) =>
 ((((!decide (d6=(0:Int))) || (!decide (t421=Er.ok)))=true->K ((decide (t421=Er.ok)) == (decide (d6=(0:Int))))) /\
 (((!decide (d6=(0:Int))) || (!decide (t421=Er.ok)))=false->False)))) (fun (c8:List (Int × List (List UInt8) × List (List UInt8) × List UInt8)) (c2:List (List UInt8 × Int)) (a0:List (List Int)) (a6:List (List Int)) (t4212:Er) =>
 jx l (fun (d7:Int) (f1:Bool) (m6:Int) (g8:Bool) (l5:List UInt8) =>
 ((((!decide (d7=(0:Int))) || (!decide (t4212=Er.ok)))=true->K ((decide (t4212=Er.ok)) == (decide (d7=(0:Int))))) /\
 (((!decide (d7=(0:Int))) || (!decide (t4212=Er.ok)))=false->kj c8 c2 a0 a6 files (fun (a:List (Int × List UInt8 × List UInt8)) =>
 False)))) (fun (c4:List (Int × List (List UInt8) × List (List UInt8) × List UInt8)) (d8:Int) (f2:Bool) (m7:Int) (g9:Bool) (l6:List UInt8) =>
 ((((!decide (d8=(0:Int))) || (!decide (t4212=Er.ok)))=true->K ((decide (t4212=Er.ok)) == (decide (d8=(0:Int))))) /\
 (((!decide (d8=(0:Int))) || (!decide (t4212=Er.ok)))=false->kj c8 c2 a0 a6 files (fun (a2:List (Int × List UInt8 × List UInt8)) =>
 jL c4 files (fun (b:List (Int × List UInt8 × List UInt8)) =>
 ((¬ ((a2.length:Int)=(b.length:Int))->K false) /\
 ((a2.length:Int)=(b.length:Int)->Lp2 (fun (i:Int) (has0:List (List UInt8)) kont1=>((i<(a2.length:Int)->∃ J2:(List (List UInt8))->Prop,((0<=i/\i<(a2.length:Nat)) /\
 (0<=i/\i<(b.length:Nat)) /\
 kG ((a2.getD i.toNat (0,[],[])).1) ((a2.getD i.toNat (0,[],[])).2.1) ((a2.getD i.toNat (0,[],[])).2.2) ((b.getD i.toNat (0,[],[])).1) ((b.getD i.toNat (0,[],[])).2.1) ((b.getD i.toNat (0,[],[])).2.2) (fun (t88:Bool) =>
 (((!t88)=true->K false) /\
 ((!t88)=false->jy known i (fun (t92:Bool) =>
 ((t92=true->(0<=i/\i<(b.length:Nat)) /\
 jj ((b.getD i.toNat (0,[],[])).2.2) (fun (t99:List UInt8) =>
 ((has0.length+(([t99]:List (List UInt8))).length)*16<=140737488355328) /\
 J2 (has0++([t99]:List (List UInt8))))) /\
 (t92=false->J2 has0))))))) /\
 (∀ has02:List (List UInt8),J2 has02->(In .i64 (i+(1:Int))) /\
 kont1 (i+(1:Int)) has02)) /\
 (¬ (i<(a2.length:Int))->Lp2 (fun (want:List Int) (i2:Int) kont2=>((i2<(b.length:Int)->∃ J3:(List Int)->Prop,((0<=i2/\i2<(b.length:Nat)) /\
 ∃ J4:Bool->Prop,((((decide (((b.getD i2.toNat (0,[],[])).1)=(1:Int)))=true->(0<=i2/\i2<(b.length:Nat)) /\
 jj ((b.getD i2.toNat (0,[],[])).2.2) (fun (t121:List UInt8) =>
 jk has0 t121 (fun (t122:Int) =>
 J4 (decide (t122<(0:Int)))))) /\
 ((decide (((b.getD i2.toNat (0,[],[])).1)=(1:Int)))=false->J4 false))) /\
 (∀ q8:Bool,J4 q8->((q8=true->((want.length+(([i2]:List Int)).length)*8<=140737488355328) /\
 J3 (want++([i2]:List Int))) /\
 (q8=false->J3 want)))) /\
 (∀ want2:List Int,J3 want2->(In .i64 (i2+(1:Int))) /\
 kont2 want2 (i2+(1:Int)))) /\
 (¬ (i2<(b.length:Int))->ja c8 c2 a0 a6 files has0 (fun (dirty:List Int) =>
 kp dirty want (fun (t135:Bool) =>
 ∃ J5:Bool->Prop,(((t135=true->M_plan_Outputs c8 c2 a0 a6 files (fun (t139:List (List UInt8 × List UInt8)) =>
 kb c4 files (fun (t142:List (List UInt8 × List UInt8)) =>
 kd t139 t142 (fun (t143:Bool) =>
 J5 t143)))) /\
 (t135=false->J5 false))) /\
 (∀ q9:Bool,J5 q9->∃ J6:Bool->Prop,(((q9=true->M_plan_Steps c8 c2 a0 a6 (fun (t147:Int) =>
 Zm c4 (fun (t149:Int) =>
 J6 (decide (t147=t149))))) /\
 (q9=false->J6 false))) /\
 (∀ q10:Bool,J6 q10->K q10))))))) [] (0:Int)))) (0:Int) []))))))))))))))))))
set_option maxHeartbeats 8000000 in
theorem W_smithylaw26_PlanSays_1 {w:World} {k:List UInt8} {e4:Nat} {cap0:List (List UInt8)} {f3:Option Addr} {f4:Nat} {l1:Nat} {K:Bool->Prop} (hcap0:Rd vs w f3 f4 cap0) (m8:l1=cap0.length) (hcap02:Bl w e4 42 [.slice f3 l1 f4]) (H:ku k cap0 K):Fn Tryz.prog 16 ⟨[.agg ⟨a32 k⟩,.pointer (some ⟨e4,0,none⟩)]⟩ w (fun v w'=>w.grownBy w' none/\∃ (r:Bool),v=.bool r/\K r):=by
 subst m8
 unfold ku at H
 refine Fn.enter (by kernel_rfl) Tryz.func16 rfl Tryz.ntmps16 rfl ?_
 replace H:=H (Nat.le_trans hcap0.cap hcap0.max)
 refine zc (zb (WL.box (us:=(a32 k)) rfl rfl rfl (fun g1 w1 hB1 hg1 hl1=>?_)))
 have gr1:=hg1
 refine yp (h:=(zd (za (zc (zO (fun k => !(Nat.beq k 2 || Nat.beq k 3)) (LD [0,1] (fun w'=>Bl w' e4 42 [.slice f3 cap0.length f4]/\Bl w' g1 45 (a32 k))) mixed (by kernel_rfl) (fun k w' h _=>⟨(jU h (hcap02.g0 gr1)),(jU h hB1)⟩) (zu rfl rfl (fun w' hw'=>zt qD (hw' rfl).1 rfl rfl rfl) (zu rfl rfl (fun w' hw'=>zY (vs:=(a32 k)) qD (hw' rfl).2 rfl rfl rfl rfl) (zT rfl (qI) rfl rfl (W_sha_Text H) (fun v w' h w2 e=>DD.keep (⟨(Bl.g0 (hcap02.g0 gr1) (qQ h.1 e)),(Bl.g0 hB1 (qQ h.1 e))⟩)) ?_))))))))
 rintro _ w2 ⟨hg2,t6,rfl,H⟩
 have gr2:=qE gr1 hg2
 refine zT rfl (qI) rfl rfl (W_smithyref_AmongTexts (hcap0.grown gr2) rfl H) (fun v w' h w2 e=>DD.keep (⟨(jU (eqvL h.1 e) (hcap02.g0 gr2)),(jU (eqvL h.1 e) (hB1.g0 hg2))⟩)) ?_
 rintro _ _ ⟨rfl,t7,rfl,H⟩
 exact zu rfl rfl (fun w' hw'=>ze qD rfl) (zu rfl rfl (fun w' hw'=>ze qD rfl) (zX (za (zq (zx rfl rfl ⟨gr2,decide ((0:Int)<=t7),rfl,H⟩)))))
set_option maxHeartbeats 8000000 in
theorem Zr {S:List Nat} {w:World} {g_g:Nat} {g_l:List (Int × List (List UInt8) × List (List UInt8) × List UInt8)} {p1:Option Addr} {p2:Nat} {o7:List (Int × Hdr × Hdr × List UInt8)} {i5:Nat} {e8:List (List UInt8 × Int)} {e3:List (List Int)} {i3:Option Addr} {i4:Nat} {f9:List Hdr} {e6:List (List Int)} {l8:Option Addr} {l9:Nat} {l0:List Hdr} {files:List (List UInt8 × List UInt8)} {d0:Option Addr} {d1:Nat} {e4:Nat} {cap0:List (List UInt8)} {f3:Option Addr} {f4:Nat} {p3:Nat} {l3:Nat} {m3:Nat} {e9:Nat} {l1:Nat} {K:(List Int)->Prop} (hG:GOK S w) (hS10:10∈S) (hS16:16∈S) (hS100:100∈S) (hS101:101∈S) (p6:RdK 4 qP w p1 p2 o7) (p7:p3=g_l.length) (o5:RelD de64 w o7 g_l) (n8:MapB vs okS vi w i5 e8) (f6:Rd vh w i3 i4 f9) (n1:l3=e3.length) (f8:RelD de24 w f9 e3) (i6:Rd vh w l8 l9 l0) (n4:m3=e6.length) (i8:RelD de24 w l0 e6) (hg:Bl w g_g 71 [.slice p1 p3 p2,.map (some i5),.slice i3 l3 i4,.slice l8 m3 l9]) (hfiles:RdK 2 enc67 w d0 d1 files) (i7:e9=files.length) (hcap0:Rd vs w f3 f4 cap0) (m8:l1=cap0.length) (hcap02:Bl w e4 42 [.slice f3 l1 f4]) (H:ja g_l e8 e3 e6 files cap0 K):Fn Tryz.prog 15 ⟨[.pointer (some ⟨g_g,0,none⟩),.slice d0 e9 d1,.func (.func 16) #[] #[.pointer (some ⟨e4,0,none⟩)]]⟩ w (fun v w'=>w.grownBy w' none/\∃ (r:List Int),∃ (A_r:Option Addr),∃ (c_r:Nat),v=.slice A_r r.length c_r/\Own vi w' w.heap.size 3 A_r c_r r/\K r):=by
 subst p7
 subst n1
 subst n4
 subst i7
 subst m8
 unfold ja at H
 refine Fn.enter (by kernel_rfl) Tryz.func15 rfl Tryz.ntmps15 rfl ?_
 replace H:=H (by rw [<-o5.1]; exact Nat.le_trans p6.cap p6.max)
 replace H:=H (by rw [<-f8.1]; exact Nat.le_trans f6.cap f6.max)
 replace H:=H (by rw [<-i8.1]; exact Nat.le_trans i6.cap i6.max)
 replace H:=H (Nat.le_trans hfiles.cap hfiles.max)
 replace H:=H (Nat.le_trans hcap0.cap hcap0.max)
 refine zc (zb (yp (h:=(zd (za (zc (zb (yp (h:=(zd (za (zc (zc (zb (yp (h:=(yp (h:=(zr rfl rfl (W_plan_Fates hG hS10 hS16 hS100 hS101 p6 rfl o5 n8 f6 rfl f8 i6 rfl i8 hg hfiles rfl H) ?_)))))))))))))))))))
 rintro _ w1 ⟨hg1,t12,f7,m0,rfl,ht12,H⟩
 have hb1:=ht12.ge'
 refine yp (h:=(yp (h:=(zd (za (WC.block ?_))))))
 obtain ⟨I1,mu1,o3,HR1⟩:=H
 refine zA (fun n' L' w'=>∃ (l:List Int),∃ (A_l:Option Addr),∃ (c_l:Nat),∃ (n_l:Nat),∃ (t14:Int),n'=mu1 l t14/\L'=[(2,.func (.func 16) #[] #[.pointer (some ⟨e4,0,none⟩)]),(7,.slice A_l n_l c_l),(12,.slice f7 t12.length m0),(13,.int .i64 (t12.length:Int)),(14,.int .i64 t14)]/\I1 l t14/\n_l=l.length/\w.grownBy w' none/\OwnK 34 enc47 w' w.heap.size 47 f7 m0 t12/\Own vi w' w.heap.size 3 A_l c_l l/\Dj (blk f7) (blk A_l)) _ _ ⟨[],none,0,0,(0:Int),rfl,rfl,o3,rfl,hg1,(ht12.base (fun g hg=>Nat.le_trans (Nat.le_refl _) (hb1 g hg))),(Own.nil vi w1 w.heap.size 3),Dj.nr⟩ sb ?_
 clear o3
 rintro _ _ w2 ⟨l,A_l,c_l,n_l,t14,rfl,rfl,hI1,rfl,gr2,k2,k3,dj1⟩
 have H:=HR1 l t14 hI1
 refine zc (zb (yp (h:=(zd (za (zc (zk rfl (fun b1=>?_) (fun b1=>?_))))))))
 ·replace H:=H.1 (of_decide_eq_true b1)
  refine zm (za (zc ?_))
  obtain ⟨J1,H,hJ1⟩:=H
  refine zL (fun L' w'=>∃ (l2:List Int),∃ (n9:Option Addr),∃ (o9:Nat),∃ (p8:Nat),L'=[(2,.func (.func 16) #[] #[.pointer (some ⟨e4,0,none⟩)]),(7,.slice n9 p8 o9),(12,.slice f7 t12.length m0),(13,.int .i64 (t12.length:Int)),(14,.int .i64 t14)]/\J1 l2/\p8=l2.length/\w.grownBy w' none/\OwnK 34 enc47 w' w.heap.size 47 f7 m0 t12/\Own vi w' w.heap.size 3 n9 o9 l2/\Dj (blk f7) (blk n9)) ?_ (fun hQ=>?_)
  ·clear H
   rintro _ w3 ⟨l2,n9,o9,p8,rfl,H,rfl,gr3,k4,k5,dj2⟩
   replace H:=hJ1 l2 H
   refine za (zb ?_)
   obtain ⟨h1,H⟩:=H
   exact zi rfl (Yld.add rfl rfl h1) (yp (h:=(zd (zw _ ⟨l2,n9,o9,l2.length,t14+(1:Int),rfl,rfl,H.1,rfl,gr3,k4,k5,dj2⟩ sb H.2))))
  ·clear hJ1
   refine WC.block (zc (zb (yp (h:=?_))))
   obtain ⟨h2,H⟩:=H
   refine zi rfl (zE qD k2.rd rfl rfl rfl rfl h2.1 h2.2) (zi rfl (zU (0,[],[]) qD k2.rd rfl rfl (iltN h2 rfl)) (WL.alloc rfl zero47 (fun g1 w4 hB1 hg2 hl1=>yp (h:=(zH (vs:=([.int .i64 ((t12.getD t14.toNat (0,[],[])).1),vs ((t12.getD t14.toNat (0,[],[])).2.1)]++a32 ((t12.getD t14.toNat (0,[],[])).2.2))) qD rfl rfl rfl (qG rfl (qG rfl (kt _))) hB1 rfl rfl (fun w5 hB2 hg3=>?_))))))
   have gr5:=qH (qE gr2 hg2) hg3 (Ge.le (Ge.box hl1) (qF gr2))
   have k8:=(k2.grown hg2).go hg3 (Dj.new k2.lt' (Ge.box hl1))
   have k9:=(k3.grown hg2).go hg3 (Dj.new k3.lt' (Ge.box hl1))
   refine zd (za (zc (zb (yp (h:=(zi rfl (zt qD hB2 rfl rfl rfl) (yp (h:=(yp (h:=?_))))))))))
   obtain ⟨J2,H,hJ2⟩:=H
   refine zD 6 (fun L' w'=>∃ q1:Bool,L'=[(28,.bool q1),(2,.func (.func 16) #[] #[.pointer (some ⟨e4,0,none⟩)]),(7,.slice A_l l.length c_l),(8,.int .i64 t14),(12,.slice f7 t12.length m0),(13,.int .i64 (t12.length:Int)),(14,.int .i64 t14)]/\J2 q1/\w.grownBy w' none/\OwnK 34 enc47 w' w.heap.size 47 f7 m0 t12/\Own vi w' w.heap.size 3 A_l c_l l) ?_ (fun hQ=>?_)
   ·clear H
    rintro _ w6 ⟨q1,rfl,H,gr6,k10,k11⟩
    replace H:=hJ2 q1 H
    refine zd (za (zk rfl (fun b2=>?_) (fun b2=>?_)))
    ·replace H:=H.1 (b2)
     refine zb (yp (h:=(yp (h:=(zP qD rfl rfl rfl (qG rfl qR) rfl (by omega) (fun g2 w7 hB3 hg4 hl2=>?_))))))
     have hO1:Own vi w7 w.heap.size 3 (some ⟨g2,0,none⟩) 1 ([t14]:List Int):=Own.ofBl hB3 (Nat.le_trans (qF gr6) hl2) (by simp [maxLen]) rfl
     have gr7:=qE gr6 hg4
     have k12:=k10.grown hg4
     have k13:=k11.grown hg4
     obtain ⟨h3,H⟩:=H
     exact zG qD rfl rfl One.i k13 rfl rfl hO1.rd rfl rfl h3 (qN h3) (qF gr7) (fun r7 s0 w8 hO2 hg5 hk1=>yp (h:=(zd (zg (WX.weaken sb (hQ _ _ ⟨l++([t14]:List Int),r7,s0,(l++([t14]:List Int)).length,rfl,H,rfl,(qH gr7 hg5 k13.ge'),(k12.go hg5 dj1),hO2,(Dj.app dj1.symm k12.lt' hk1).symm⟩))))))
    ·replace H:=H.2 (b2)
     exact zm (zg (WX.weaken sb (hQ _ _ ⟨l,A_l,c_l,l.length,rfl,H,rfl,gr6,k10,k11,dj1⟩)))
   ·clear hJ2
    rcases Bool.eq_false_or_eq_true (decide (((t12.getD t14.toNat (0,[],[])).1)=(1:Int))) with b3 | b3
    ·replace H:=H.1 b3
     refine gp b3 (h:=(gp b3 (h:=(zC rfl rfl (okb b3) rfl (zY (vs:=(a32 ((t12.getD t14.toNat (0,[],[])).2.2))) qD hB2 rfl rfl rfl rfl) (WL.callvw (qX rfl rfl (okb b3)) rfl rfl rfl (W_smithylaw26_PlanSays_1 (hcap0.grown gr5) rfl (hcap02.g0 gr5) H) ?_)))))
     rintro _ w9 ⟨hg6,t26,rfl,H⟩
     exact gp b3 (h:=(zi rfl (zy (okb b3) rfl) (wk (hQ _ _ ⟨!t26,rfl,H,(qE gr5 hg6),(k8.grown hg6),(k9.grown hg6)⟩))))
    ·replace H:=H.2 b3
     exact gn b3 (h:=(gn b3 (h:=(gn b3 (h:=(gn b3 (h:=(gn b3 (h:=(zi rfl (zv (okb b3) rfl) (wk (hQ _ _ ⟨false,rfl,H,gr5,k8,k9⟩))))))))))))
 ·replace H:=H.2 (of_decide_eq_false b1)
  exact zz (zf (zf (zj (za (zc (zb (yp (h:=(yp (h:=(zd (za (zq (zx rfl rfl ⟨gr2,l,A_l,c_l,rfl,k3,H⟩))))))))))))))
set_option maxHeartbeats 8000000 in
theorem W_smithylaw26_same {w:World} {a_State:Int} {a_Out:List UInt8} {a_Key:List UInt8} {b_State:Int} {b_Out:List UInt8} {b_Key:List UInt8} {K:Bool->Prop} (H:kG a_State a_Out a_Key b_State b_Out b_Key K):Fn Tryz.prog 11 ⟨[.agg ⟨([.int .i64 a_State,vs a_Out]++a32 a_Key)⟩,.agg ⟨([.int .i64 b_State,vs b_Out]++a32 b_Key)⟩]⟩ w (fun v w'=>w.grownBy w' none/\∃ (r:Bool),v=.bool r/\K r):=by
 unfold kG at H
 refine Fn.enter (by kernel_rfl) Tryz.func11 rfl Tryz.ntmps11 rfl ?_
 refine zc (zb (WL.box (us:=([.int .i64 a_State,vs a_Out]++a32 a_Key)) rfl rfl rfl (fun g1 w1 hB1 hg1 hl1=>WL.box (us:=([.int .i64 b_State,vs b_Out]++a32 b_Key)) rfl rfl rfl (fun g2 w2 hB2 hg2 hl2=>?_))))
 have gr2:=qE hg1 hg2
 have k1:=hB1.g0 hg2
 refine yp (h:=(zd (za (zc (zb (yp (h:=(zi rfl (zt qD k1 rfl rfl rfl) (yp (h:=(zi rfl (zt qD hB2 rfl rfl rfl) (yp (h:=(yp (h:=(zD 6 (fun L' w'=>∃ q1:Bool,L'=[(16,.bool q1),(2,.pointer (some ⟨g1,0,none⟩)),(3,.pointer (some ⟨g2,0,none⟩))]/\((decide (a_State=b_State)) && (decide (a_Out=b_Out)))=q1/\w2=w') ?_ (fun hQ=>?_)))))))))))))))))
 ·rintro _ _ ⟨q1,rfl,rfl,rfl⟩
  refine yp (h:=?_)
  obtain ⟨J1,H,hJ1⟩:=H
  refine zD 6 (fun L' w'=>∃ q2:Bool,L'=[(23,.bool q2)]/\J1 q2/\w.grownBy w' none) ?_ (fun hQ=>?_)
  ·clear H
   rintro _ w3 ⟨q2,rfl,H,gr3⟩
   replace H:=hJ1 q2 H
   exact yp (h:=(zd (za (zq (zx rfl rfl ⟨gr3,q2,rfl,H⟩)))))
  ·clear hJ1
   rcases Bool.eq_false_or_eq_true ((decide (a_State=b_State)) && (decide (a_Out=b_Out))) with b1 | b1
   ·replace H:=H.1 b1
    refine gp b1 (h:=(zC rfl rfl (okb b1) rfl (zY (vs:=(a32 a_Key)) qD k1 rfl rfl rfl rfl) (gp b1 (h:=(zC rfl rfl (okb b1) rfl (zY (vs:=(a32 b_Key)) qD hB2 rfl rfl rfl rfl) (qe (qX rfl rfl (okb b1)) rfl rfl (W_smithyref17_SameSum H) ?_))))))
    rintro _ w4 ⟨hg3,t22,rfl,H⟩
    exact zi rfl (zy (okb b1) rfl) (wk (hQ _ _ ⟨t22,rfl,H,(qE gr2 hg3)⟩))
   ·replace H:=H.2 b1
    exact gn b1 (h:=(gn b1 (h:=(gn b1 (h:=(gn b1 (h:=(gn b1 (h:=(zi rfl (zv (okb b1) rfl) (wk (hQ _ _ ⟨false,rfl,H,gr2⟩))))))))))))
 ·clear H
  rcases Bool.eq_false_or_eq_true (decide (a_State=b_State)) with b2 | b2
  ·exact gp b2 (h:=(zC rfl rfl (okb b2) rfl (zt qD k1 rfl rfl rfl) (gp b2 (h:=(zC rfl rfl (okb b2) rfl (zt qD hB2 rfl rfl rfl) (gp b2 (h:=(zi rfl (zy (okb b2) rfl) (wk (hQ _ _ ⟨decide (a_Out=b_Out),rfl,by rw [b2] <;> rfl,rfl⟩))))))))))
  ·exact gn b2 (h:=(gn b2 (h:=(gn b2 (h:=(gn b2 (h:=(gn b2 (h:=(zi rfl (zv (okb b2) rfl) (wk (hQ _ _ ⟨false,rfl,by rw [b2] <;> rfl,rfl⟩))))))))))))
set_option maxHeartbeats 8000000 in
theorem W_smithylaw26_PlanSays {S:List Nat} {w:World} {l:List (Int × List (List UInt8) × List (List UInt8) × List UInt8)} {A_l:Option Addr} {c_l:Nat} {r4:List (Int × Hdr × Hdr × List UInt8)} {files:List (List UInt8 × List UInt8)} {d0:Option Addr} {d1:Nat} {known:List Int} {e0:Option Addr} {e1:Nat} {n_l:Nat} {e9:Nat} {n7:Nat} {K:Bool->Prop} (hG:GOK S w) (hS4:4∈S) (hS6:6∈S) (hS9:9∈S) (hS10:10∈S) (hS11:11∈S) (hS16:16∈S) (hS100:100∈S) (hS101:101∈S) (hl:RdK 4 qP w A_l c_l r4) (s3:n_l=l.length) (o6:RelD de64 w r4 l) (hfiles:RdK 2 enc67 w d0 d1 files) (i7:e9=files.length) (hknown:Rd vi w e0 e1 known) (o4:n7=known.length) (H:jw l files known K):Fn Tryz.prog 3 ⟨[.slice A_l n_l c_l,.slice d0 e9 d1,.slice e0 n7 e1]⟩ w (fun v w'=>w.grownBy w' none/\∃ (r:Bool),v=.bool r/\K r):=by
 subst s3
 subst i7
 subst o4
 unfold jw at H
 refine Fn.enter (by kernel_rfl) Tryz.func3 rfl Tryz.ntmps3 rfl ?_
 replace H:=H (by rw [<-o6.1]; exact Nat.le_trans hl.cap hl.max)
 replace H:=H (Nat.le_trans hfiles.cap hfiles.max)
 replace H:=H (Nat.le_trans hknown.cap hknown.max)
 refine zc (zb (yp (h:=(zd (za (zc (zb (zr rfl rfl (W_smithylaw26_first hG hS4 hS6 hS9 hS10 hS11 hS16 hS100 hS101 H) ?_))))))))
 rintro _ w1 ⟨hg1,ok,rfl,H⟩
 have gr1:=hg1
 refine yp (h:=(zd (za (zc (zc (zb (yp (h:=(yp (h:=(zd (za (zk rfl (fun b1=>?_) (fun b1=>?_))))))))))))))
 ·replace H:=H.1 (b1)
  exact zc (zb (yp (h:=(zd (za (zq (zh (zx rfl rfl ⟨gr1,false,rfl,H⟩))))))))
 ·replace H:=H.2 (b1)
  refine zm (za (zc (zc (zb (yp (h:=(zr rfl rfl (W_smithyworld_Actions (hl.grown gr1) rfl (o6.grown gr1) H) ?_)))))))
  rintro _ _ ⟨rfl,t23,rfl,H⟩
  refine yp (h:=(yp (h:=?_)))
  obtain ⟨J1,H,hJ1⟩:=H
  refine zD 4 (fun L' w'=>∃ q1:Bool,L'=[(29,.bool q1),(0,.slice A_l l.length c_l),(1,.slice d0 files.length d1),(2,.slice e0 known.length e1),(7,.bool ok)]/\J1 q1/\w1=w') ?_ (fun hQ=>?_)
  ·clear H
   rintro _ _ ⟨q1,rfl,H,rfl⟩
   replace H:=hJ1 q1 H
   refine yp (h:=(zD 4 (fun L' w'=>∃ q2:Bool,L'=[(34,.bool q2),(0,.slice A_l l.length c_l),(1,.slice d0 files.length d1),(2,.slice e0 known.length e1),(7,.bool ok)]/\(q1 || (decide ((30:Int)<(known.length:Int))))=q2/\w1=w') ?_ (fun hQ=>?_)))
   ·rintro _ _ ⟨q2,rfl,rfl,rfl⟩
    refine yp (h:=(zD 3 (fun L' w'=>∃ q3:Bool,L'=[(38,.bool q3),(0,.slice A_l l.length c_l),(1,.slice d0 files.length d1),(2,.slice e0 known.length e1),(7,.bool ok)]/\((q1 || (decide ((30:Int)<(known.length:Int)))) || (!ok))=q3/\w1=w') ?_ (fun hQ=>?_)))
    ·rintro _ _ ⟨q3,rfl,rfl,rfl⟩
     refine zd (za (zk rfl (fun b2=>?_) (fun b2=>?_)))
     ·replace H:=H.1 (b2)
      exact zc (zb (yp (h:=(yp (h:=(zd (za (zq (zh (zx rfl rfl ⟨gr1,ok,rfl,H⟩))))))))))
     ·replace H:=H.2 (b2)
      refine zm (za (zc (zb (yp (h:=(zr rfl rfl (W_graph_New (hG.grown gr1) hS4 hS6 hS9 hS10 hS11 hS100 (hl.grown gr1) rfl (o6.grown gr1) H) ?_))))))
      rintro v_ w2 ⟨hg_,hc_ | hc_⟩
      ·obtain ⟨v_t421,t421,rfl,ht421,H⟩:=hc_
       have hg2:=hg_
       have gr2:=qE gr1 hg2
       refine yp (h:=(yp (h:=(yp (h:=(yp (h:=(yp (h:=(zd (za (zc (zb (yp (h:=(zr rfl rfl (W_smithyref17_NewGraph (hl.grown gr2) rfl (o6.grown gr2) H) ?_))))))))))))))))
       rintro v_ w4 ⟨hg_,hc_ | hc_⟩
       ·obtain ⟨d9,h0,n2,l7,m4,rfl,H⟩:=hc_
        have hg3:=hg_
        have gr3:=qE gr2 hg3
        refine yp (h:=(yp (h:=(yp (h:=(WL.alloc rfl zero35 (fun g1 w6 hB1 hg4 hl1=>?_)))))))
        have gr4:=qE gr3 hg4
        refine yp (h:=(zH (vs:=[.int .i64 d9,.bool h0,.int .i64 n2,.bool l7,vs m4]) qD rfl rfl rfl (qG rfl (qG rfl (qG rfl (qG rfl (qG rfl qR))))) hB1 rfl rfl (fun w7 hB2 hg5=>?_)))
        have gr5:=qH gr4 hg5 (Ge.le (Ge.box hl1) (qF gr3))
        have k3:=ErrR.go ((ht421.grown hg3).grown hg4) hG gr4 hg5 gr5 hB1 rfl
        refine zd (za (zc (zc (zb (yp (h:=(zi rfl (zt qD hB2 rfl rfl rfl) (yp (h:=(yp (h:=(zD 3 (fun L' w'=>∃ q4:Bool,L'=[(56,.bool q4),(1,.slice d0 files.length d1),(2,.slice e0 known.length e1),(8,.pointer none),(9,v_t421),(10,.pointer none),(11,.pointer (some ⟨g1,0,none⟩))]/\((!decide (d9=(0:Int))) || (!decide (t421=Er.ok)))=q4/\w7=w') ?_ (fun hQ=>?_)))))))))))))
        ·rintro _ _ ⟨q4,rfl,rfl,rfl⟩
         refine zd (za (zk rfl (fun b3=>?_) (fun b3=>?_)))
         ·replace H:=H.1 (b3)
          exact zc (zQ mixed (by kernel_rfl) (zB rfl (ze qD rfl) (zB rfl (qA Tryz.underlying30 k3 rfl) (zB rfl (ze qD rfl) (zB rfl (zt qD hB2 rfl rfl rfl) (zB rfl (ze qD rfl) (zB rfl (qr Tryz.underlying4 rfl rfl) (zB rfl (ze qD rfl) (zW (za (zq (zh (zx rfl rfl ⟨gr5,(decide (t421=Er.ok)) == (decide (d9=(0:Int))),rfl,H⟩)))))))))))))
         ·replace H:=H.2 (b3)
          exact zm (za (zc (zb (yp (h:=(yp (h:=(False.elim H))))))))
        ·clear H
         rcases Bool.eq_false_or_eq_true (!decide (d9=(0:Int))) with b4 | b4
         ·exact gn b4 (h:=(gn b4 (h:=(zi rfl (zy (okb b4) rfl) (wk (hQ _ _ ⟨true,rfl,by rw [b4] <;> rfl,rfl⟩))))))
         ·exact gp b4 (h:=(zC rfl rfl (okb b4) rfl (qf Tryz.underlying30 k3 rfl) (zi rfl (zv (okb b4) rfl) (wk (hQ _ _ ⟨!decide (t421=Er.ok),rfl,by rw [b4] <;> rfl,rfl⟩)))))
       ·obtain ⟨p5,p9,r1,r2,r0,d6,f0,m5,g7,l4,rfl,ht470_L,m2,ht470,hge1,dj1,dj2,dj3,H⟩:=hc_
        have hg6:=hg_
        have hb1:=ht470_L.ge'
        have k4:=ht470_L.base (fun g hg=>Nat.le_trans (qF gr2) (hb1 g hg))
        have gr6:=qE gr2 hg6
        refine yp (h:=(yp (h:=(yp (h:=(WL.alloc rfl zero35 (fun g2 w9 hB3 hg7 hl2=>?_)))))))
        have gr7:=qE gr6 hg7
        refine yp (h:=(zH (vs:=[.int .i64 d6,.bool f0,.int .i64 m5,.bool g7,vs l4]) qD rfl rfl rfl (qG rfl (qG rfl (qG rfl (qG rfl (qG rfl qR))))) hB3 rfl rfl (fun w10 hB4 hg8=>?_)))
        have gr8:=qH gr7 hg8 (Ge.le (Ge.box hl2) (qF gr6))
        have k10:=ErrR.go ((ht421.grown hg6).grown hg7) hG gr7 hg8 gr8 hB3 rfl
        have k11:=(k4.grown hg7).go hg8 (Dj.new k4.lt' (Ge.box hl2))
        have k12:=(m2.grown hg7).go hg8 (m2.new (Ge.box hl2))
        have k13:=(ht470.g0 hg7).go hg8 (Dj.new ht470.lt' (Ge.box hl2))
        refine zd (za (zc (zc (zb (yp (h:=(zi rfl (zt qD hB4 rfl rfl rfl) (yp (h:=(yp (h:=(zD 3 (fun L' w'=>∃ q5:Bool,L'=[(56,.bool q5),(1,.slice d0 files.length d1),(2,.slice e0 known.length e1),(8,.pointer none),(9,v_t421),(10,.pointer (some ⟨p5,0,none⟩)),(11,.pointer (some ⟨g2,0,none⟩))]/\((!decide (d6=(0:Int))) || (!decide (t421=Er.ok)))=q5/\w10=w') ?_ (fun hQ=>?_)))))))))))))
        ·rintro _ _ ⟨q5,rfl,rfl,rfl⟩
         refine zd (za (zk rfl (fun b5=>?_) (fun b5=>?_)))
         ·replace H:=H.1 (b5)
          exact zc (zQ mixed (by kernel_rfl) (zB rfl (ze qD rfl) (zB rfl (qA Tryz.underlying30 k10 rfl) (zB rfl (ze qD rfl) (zB rfl (zt qD hB4 rfl rfl rfl) (zB rfl (ze qD rfl) (zB rfl (qr Tryz.underlying4 rfl rfl) (zB rfl (ze qD rfl) (zW (za (zq (zh (zx rfl rfl ⟨gr8,(decide (t421=Er.ok)) == (decide (d6=(0:Int))),rfl,H⟩)))))))))))))
         ·replace H:=H.2 (b5)
          exact zm (za (zc (zb (yp (h:=(yp (h:=(False.elim H))))))))
        ·clear H
         rcases Bool.eq_false_or_eq_true (!decide (d6=(0:Int))) with b6 | b6
         ·exact gn b6 (h:=(gn b6 (h:=(zi rfl (zy (okb b6) rfl) (wk (hQ _ _ ⟨true,rfl,by rw [b6] <;> rfl,rfl⟩))))))
         ·exact gp b6 (h:=(zC rfl rfl (okb b6) rfl (qf Tryz.underlying30 k10 rfl) (zi rfl (zv (okb b6) rfl) (wk (hQ _ _ ⟨!decide (t421=Er.ok),rfl,by rw [b6] <;> rfl,rfl⟩)))))
      ·obtain ⟨d5,c8,c5,d4,c1,a4,c2,a0,a3,a8,a1,a6,a7,b0,a5,v_t4212,t4212,rfl,ht420_l,m1,nd1,dj4,ht420_before,e5,nd2,dj5,ht420_after,e7,nd3,dj6,ht4212,ht420_makers,hge2,ht420,hge3,dj7,dj8,dj9,dj10,dj11,dj12,dj13,dj14,dj15,dj16,dj17,dj18,dj19,dj20,dj21,dj22,dj23,dj24,dj25,dj26,dj27,dj28,dj29,dj30,dj31,H⟩:=hc_
       have hg9:=hg_
       have hb2:=ht420_l.ge'
       have k14:=ht420_l.base (fun g hg=>Nat.le_trans (qF gr1) (hb2 g hg))
       have hb3:=ht420_before.ge'
       have k15:=ht420_before.base (fun g hg=>Nat.le_trans (qF gr1) (hb3 g hg))
       have hb4:=ht420_after.ge'
       have k16:=ht420_after.base (fun g hg=>Nat.le_trans (qF gr1) (hb4 g hg))
       have gr9:=qE gr1 hg9
       refine yp (h:=(yp (h:=(yp (h:=(yp (h:=(yp (h:=(zd (za (zc (zb (yp (h:=(zr rfl rfl (W_smithyref17_NewGraph (hl.grown gr9) rfl (o6.grown gr9) H) ?_))))))))))))))))
       rintro v_ w12 ⟨hg_,hc_ | hc_⟩
       ·obtain ⟨d7,f1,m6,g8,l5,rfl,H⟩:=hc_
        have hg10:=hg_
        have gr10:=qE gr9 hg10
        have k17:=k14.grown hg10
        have k18:=m1.grown hg10
        have k19:=k15.grown hg10
        have k20:=e5.grown hg10
        have k21:=k16.grown hg10
        have k22:=e7.grown hg10
        have k24:=ht420_makers.g0 hg10
        have k25:=ht420.g0 hg10
        refine yp (h:=(yp (h:=(yp (h:=(WL.alloc rfl zero35 (fun g3 w14 hB5 hg11 hl3=>?_)))))))
        have gr11:=qE gr10 hg11
        refine yp (h:=(zH (vs:=[.int .i64 d7,.bool f1,.int .i64 m6,.bool g8,vs l5]) qD rfl rfl rfl (qG rfl (qG rfl (qG rfl (qG rfl (qG rfl qR))))) hB5 rfl rfl (fun w15 hB6 hg12=>?_)))
        have gr12:=qH gr11 hg12 (Ge.le (Ge.box hl3) (qF gr10))
        have k35:=(k17.grown hg11).go hg12 (Dj.new k17.lt' (Ge.box hl3))
        have k36:=(k18.grown hg11).go hg12 (k18.new (Ge.box hl3))
        have k37:=(k19.grown hg11).go hg12 (Dj.new k19.lt' (Ge.box hl3))
        have k38:=(k20.grown hg11).go hg12 (k20.new (Ge.box hl3))
        have k39:=(k21.grown hg11).go hg12 (Dj.new k21.lt' (Ge.box hl3))
        have k40:=(k22.grown hg11).go hg12 (k22.new (Ge.box hl3))
        have k41:=ErrR.go ((ht4212.grown hg10).grown hg11) hG gr11 hg12 gr12 hB5 rfl
        have k42:=(k24.g0 hg11).go hg12 (Dj.new k24.lt' (Ge.box hl3))
        have k43:=(k25.g0 hg11).go hg12 (Dj.new k25.lt' (Ge.box hl3))
        refine zd (za (zc (zc (zb (yp (h:=(zi rfl (zt qD hB6 rfl rfl rfl) (yp (h:=(yp (h:=(zD 3 (fun L' w'=>∃ q6:Bool,L'=[(56,.bool q6),(1,.slice d0 files.length d1),(2,.slice e0 known.length e1),(8,.pointer (some ⟨d5,0,none⟩)),(9,v_t4212),(10,.pointer none),(11,.pointer (some ⟨g3,0,none⟩))]/\((!decide (d7=(0:Int))) || (!decide (t4212=Er.ok)))=q6/\w15=w') ?_ (fun hQ=>?_)))))))))))))
        ·rintro _ _ ⟨q6,rfl,rfl,rfl⟩
         refine zd (za (zk rfl (fun b7=>?_) (fun b7=>?_)))
         ·replace H:=H.1 (b7)
          exact zc (zQ mixed (by kernel_rfl) (zB rfl (ze qD rfl) (zB rfl (qA Tryz.underlying30 k41 rfl) (zB rfl (ze qD rfl) (zB rfl (zt qD hB6 rfl rfl rfl) (zB rfl (ze qD rfl) (zB rfl (qr Tryz.underlying4 rfl rfl) (zB rfl (ze qD rfl) (zW (za (zq (zh (zx rfl rfl ⟨gr12,(decide (t4212=Er.ok)) == (decide (d7=(0:Int))),rfl,H⟩)))))))))))))
         ·replace H:=H.2 (b7)
          refine zm (za (zc (zb (yp (h:=(yp (h:=(zr rfl rfl (W_plan_Fates (hG.grown gr12) hS10 hS16 hS100 hS101 k35.rd rfl k36 k42 k37.rd rfl k38 k39.rd rfl k40 k43 (hfiles.grown gr12) rfl H) ?_))))))))
          rintro _ w16 ⟨hg13,a,A_a,c_a,rfl,ha,H⟩
          have hb5:=ha.ge'
          have k44:=ha.base (fun g hg=>Nat.le_trans (qF gr12) (hb5 g hg))
          have gr13:=qE gr12 hg13
          have k45:=k35.grown hg13
          have k46:=k36.grown hg13
          have k47:=k37.grown hg13
          have k48:=k38.grown hg13
          have k49:=k39.grown hg13
          have k50:=k40.grown hg13
          have k51:=k42.g0 hg13
          have k52:=k43.g0 hg13
          exact yp (h:=(zd (za (zc (zb (yp (h:=(yp (h:=(False.elim H))))))))))
        ·clear H
         rcases Bool.eq_false_or_eq_true (!decide (d7=(0:Int))) with b8 | b8
         ·exact gn b8 (h:=(gn b8 (h:=(zi rfl (zy (okb b8) rfl) (wk (hQ _ _ ⟨true,rfl,by rw [b8] <;> rfl,rfl⟩))))))
         ·exact gp b8 (h:=(zC rfl rfl (okb b8) rfl (qf Tryz.underlying30 k41 rfl) (zi rfl (zv (okb b8) rfl) (wk (hQ _ _ ⟨!decide (t4212=Er.ok),rfl,by rw [b8] <;> rfl,rfl⟩)))))
       ·obtain ⟨d2,c4,c0,c9,a9,d8,f2,m7,g9,l6,rfl,ht470_L2,i9,ht4702,hge4,dj32,dj33,dj34,H⟩:=hc_
        have hg14:=hg_
        have hb6:=ht470_L2.ge'
        have k53:=ht470_L2.base (fun g hg=>Nat.le_trans (qF gr9) (hb6 g hg))
        have gr14:=qE gr9 hg14
        have k54:=k14.grown hg14
        have k55:=m1.grown hg14
        have k56:=k15.grown hg14
        have k57:=e5.grown hg14
        have k58:=k16.grown hg14
        have k59:=e7.grown hg14
        have k61:=ht420_makers.g0 hg14
        have k62:=ht420.g0 hg14
        refine yp (h:=(yp (h:=(yp (h:=(WL.alloc rfl zero35 (fun g4 w18 hB7 hg15 hl4=>?_)))))))
        have gr15:=qE gr14 hg15
        refine yp (h:=(zH (vs:=[.int .i64 d8,.bool f2,.int .i64 m7,.bool g9,vs l6]) qD rfl rfl rfl (qG rfl (qG rfl (qG rfl (qG rfl (qG rfl qR))))) hB7 rfl rfl (fun w19 hB8 hg16=>?_)))
        have gr16:=qH gr15 hg16 (Ge.le (Ge.box hl4) (qF gr14))
        have k75:=(k54.grown hg15).go hg16 (Dj.new k54.lt' (Ge.box hl4))
        have k76:=(k55.grown hg15).go hg16 (k55.new (Ge.box hl4))
        have k77:=(k56.grown hg15).go hg16 (Dj.new k56.lt' (Ge.box hl4))
        have k78:=(k57.grown hg15).go hg16 (k57.new (Ge.box hl4))
        have k79:=(k58.grown hg15).go hg16 (Dj.new k58.lt' (Ge.box hl4))
        have k80:=(k59.grown hg15).go hg16 (k59.new (Ge.box hl4))
        have k81:=ErrR.go ((ht4212.grown hg14).grown hg15) hG gr15 hg16 gr16 hB7 rfl
        have k82:=(k61.g0 hg15).go hg16 (Dj.new k61.lt' (Ge.box hl4))
        have k83:=(k62.g0 hg15).go hg16 (Dj.new k62.lt' (Ge.box hl4))
        refine zd (za (zc (zc (zb (yp (h:=(zi rfl (zt qD hB8 rfl rfl rfl) (yp (h:=(yp (h:=(zD 3 (fun L' w'=>∃ q7:Bool,L'=[(56,.bool q7),(1,.slice d0 files.length d1),(2,.slice e0 known.length e1),(8,.pointer (some ⟨d5,0,none⟩)),(9,v_t4212),(10,.pointer (some ⟨d2,0,none⟩)),(11,.pointer (some ⟨g4,0,none⟩))]/\((!decide (d8=(0:Int))) || (!decide (t4212=Er.ok)))=q7/\w19=w') ?_ (fun hQ=>?_)))))))))))))
        ·rintro _ _ ⟨q7,rfl,rfl,rfl⟩
         refine zd (za (zk rfl (fun b9=>?_) (fun b9=>?_)))
         ·replace H:=H.1 (b9)
          exact zc (zQ mixed (by kernel_rfl) (zB rfl (ze qD rfl) (zB rfl (qA Tryz.underlying30 k81 rfl) (zB rfl (ze qD rfl) (zB rfl (zt qD hB8 rfl rfl rfl) (zB rfl (ze qD rfl) (zB rfl (qr Tryz.underlying4 rfl rfl) (zB rfl (ze qD rfl) (zW (za (zq (zh (zx rfl rfl ⟨gr16,(decide (t4212=Er.ok)) == (decide (d8=(0:Int))),rfl,H⟩)))))))))))))
         ·replace H:=H.2 (b9)
          refine zm (za (zc (zb (yp (h:=(yp (h:=(zr rfl rfl (W_plan_Fates (hG.grown gr16) hS10 hS16 hS100 hS101 k75.rd rfl k76 k82 k77.rd rfl k78 k79.rd rfl k80 k83 (hfiles.grown gr16) rfl H) ?_))))))))
          rintro _ w20 ⟨hg17,a2,n3,o1,rfl,ha2,H⟩
          have hb7:=ha2.ge'
          have gr17:=qE gr16 hg17
          have k96:=((k53.grown hg15).go hg16 (Dj.new k53.lt' (Ge.box hl4))).grown hg17
          have k97:=((i9.grown hg15).go hg16 (i9.new (Ge.box hl4))).grown hg17
          have k98:=((ht4702.g0 hg15).go hg16 (Dj.new ht4702.lt' (Ge.box hl4))).g0 hg17
          refine yp (h:=(zd (za (zc (zb (yp (h:=(yp (h:=(zr rfl rfl (W_smithyref17_Fates (hG.grown gr17) hS101 k96.rd rfl k97 k98 (hfiles.grown gr17) rfl H) ?_))))))))))
          rintro _ w21 ⟨hg18,b,A_b,c_b,rfl,hb,H⟩
          have hb8:=hb.ge'
          have k99:=hb.base (fun g hg=>Nat.le_trans (qF gr17) (hb8 g hg))
          have gr18:=qE gr17 hg18
          have k100:=(k75.grown hg17).grown hg18
          have k101:=(k76.grown hg17).grown hg18
          have k102:=(k77.grown hg17).grown hg18
          have k103:=(k78.grown hg17).grown hg18
          have k104:=(k79.grown hg17).grown hg18
          have k105:=(k80.grown hg17).grown hg18
          have k106:=(k82.g0 hg17).g0 hg18
          have k107:=(k83.g0 hg17).g0 hg18
          have k108:=k96.grown hg18
          have k109:=k97.grown hg18
          have k110:=k98.g0 hg18
          have k111:=(ha2.base (fun g hg=>Nat.le_trans (qF gr16) (hb7 g hg))).grown hg18
          refine yp (h:=(zd (za (zc (zc (zb (yp (h:=(yp (h:=(yp (h:=(yp (h:=(yp (h:=(zd (za (zk rfl (fun b10=>?_) (fun b10=>?_))))))))))))))))))))
          ·replace H:=H.1 (kN b10)
           exact zc (zb (yp (h:=(zd (za (zq (zh (zx rfl rfl ⟨gr18,false,rfl,H⟩))))))))
          ·replace H:=H.2 (j9 b10)
           refine zm (za (zc (zb (WL.alloc rfl zero42 (fun g5 w22 hB9 hg19 hl5=>?_)))))
           have k113:=k101.grown hg19
           have k115:=k103.grown hg19
           have k117:=k105.grown hg19
           have k121:=k109.grown hg19
           refine zd (za (zc (zc (zb (yp (h:=(zd (za (WC.block ?_)))))))))
           obtain ⟨I1,mu1,o3,HR1⟩:=H
           refine zA (fun n' L' w'=>∃ (i:Int),∃ (has0:List (List UInt8)),∃ (c3:Option Addr),∃ (e2:Nat),∃ (n5:Nat),n'=mu1 i has0/\L'=[(1,.slice d0 files.length d1),(2,.slice e0 known.length e1),(8,.pointer (some ⟨d5,0,none⟩)),(10,.pointer (some ⟨d2,0,none⟩)),(12,.slice n3 a2.length o1),(13,.slice A_b b.length c_b),(14,.pointer (some ⟨g5,0,none⟩)),(15,.int .i64 i)]/\I1 i has0/\n5=has0.length/\w.grownBy w' none/\OwnK 4 qP w' w.heap.size 64 c5 d4 c1/\RelD de64 w' c1 c8/\Own vh w' w.heap.size 24 a3 a8 a1/\RelD de24 w' a1 a0/\Own vh w' w.heap.size 24 a7 b0 a5/\RelD de24 w' a5 a6/\MapB vs okS vi w' a4 c2/\Bl w' d5 71 [.slice c5 c8.length d4,.map (some a4),.slice a3 a0.length a8,.slice a7 a6.length b0]/\OwnK 4 qP w' w.heap.size 64 c0 c9 a9/\RelD de64 w' a9 c4/\Bl w' d2 89 [.slice c0 c4.length c9]/\OwnK 34 enc47 w' w.heap.size 47 n3 o1 a2/\OwnK 34 enc49 w' w.heap.size 49 A_b c_b b/\Bl w' g5 42 [.slice c3 n5 e2]/\Own vs w' w.heap.size 9 c3 e2 has0/\Dj (blk c5) (blk c3)/\DnD de64 c1 c8 (blk c3)/\Dj (blk a3) (blk c3)/\DnD de24 a1 a0 (blk c3)/\Dj (blk a7) (blk c3)/\DnD de24 a5 a6 (blk c3)/\Dj (some a4) (blk c3)/\Dj (some d5) (blk c3)/\Dj (blk c0) (blk c3)/\DnD de64 a9 c4 (blk c3)/\Dj (some d2) (blk c3)/\Dj (blk n3) (blk c3)/\Dj (blk A_b) (blk c3)/\Dj (some g5) (blk c3)) _ _ ⟨(0:Int),[],none,0,0,rfl,rfl,o3,rfl,(qE gr18 hg19),(k100.grown hg19),k113,(k102.grown hg19),k115,(k104.grown hg19),k117,(k106.g0 hg19),(k107.g0 hg19),(k108.grown hg19),k121,(k110.g0 hg19),(k111.grown hg19),(k99.grown hg19),hB9,(Own.nil vs w22 w.heap.size 9),Dj.nr,(DnD.none k113),Dj.nr,(DnD.none k115),Dj.nr,(DnD.none k117),Dj.nr,Dj.nr,Dj.nr,(DnD.none k121),Dj.nr,Dj.nr,Dj.nr,Dj.nr⟩ sb ?_
           clear o3
           rintro _ _ w23 ⟨i,has0,c3,e2,n5,rfl,rfl,hI1,rfl,gr20,k125,k126,k127,k128,k129,k130,k131,k132,k133,k134,k135,k136,k137,k138,k139,dj35,dj36,dj37,dj38,dj39,dj40,dj41,dj42,dj43,dj44,dj45,dj46,dj47,dj48⟩
           have H:=HR1 i has0 hI1
           refine zc (zc (zb (yp (h:=(yp (h:=(yp (h:=(yp (h:=(zd (za (zk rfl (fun b11=>?_) (fun b11=>?_))))))))))))))
           ·replace H:=H.1 (of_decide_eq_true b11)
            refine zm (za (zc ?_))
            obtain ⟨J2,H,hJ2⟩:=H
            refine zL (fun L' w'=>∃ (has02:List (List UInt8)),∃ (c6:Option Addr),∃ (i0:Nat),∃ (m9:Nat),L'=[(1,.slice d0 files.length d1),(2,.slice e0 known.length e1),(8,.pointer (some ⟨d5,0,none⟩)),(10,.pointer (some ⟨d2,0,none⟩)),(12,.slice n3 a2.length o1),(13,.slice A_b b.length c_b),(14,.pointer (some ⟨g5,0,none⟩)),(15,.int .i64 i)]/\J2 has02/\m9=has02.length/\w.grownBy w' none/\OwnK 4 qP w' w.heap.size 64 c5 d4 c1/\RelD de64 w' c1 c8/\Own vh w' w.heap.size 24 a3 a8 a1/\RelD de24 w' a1 a0/\Own vh w' w.heap.size 24 a7 b0 a5/\RelD de24 w' a5 a6/\MapB vs okS vi w' a4 c2/\Bl w' d5 71 [.slice c5 c8.length d4,.map (some a4),.slice a3 a0.length a8,.slice a7 a6.length b0]/\OwnK 4 qP w' w.heap.size 64 c0 c9 a9/\RelD de64 w' a9 c4/\Bl w' d2 89 [.slice c0 c4.length c9]/\OwnK 34 enc47 w' w.heap.size 47 n3 o1 a2/\OwnK 34 enc49 w' w.heap.size 49 A_b c_b b/\Bl w' g5 42 [.slice c6 m9 i0]/\Own vs w' w.heap.size 9 c6 i0 has02/\Dj (blk c5) (blk c6)/\DnD de64 c1 c8 (blk c6)/\Dj (blk a3) (blk c6)/\DnD de24 a1 a0 (blk c6)/\Dj (blk a7) (blk c6)/\DnD de24 a5 a6 (blk c6)/\Dj (some a4) (blk c6)/\Dj (some d5) (blk c6)/\Dj (blk c0) (blk c6)/\DnD de64 a9 c4 (blk c6)/\Dj (some d2) (blk c6)/\Dj (blk n3) (blk c6)/\Dj (blk A_b) (blk c6)/\Dj (some g5) (blk c6)) ?_ (fun hQ=>?_)
            ·clear H
             rintro _ w24 ⟨has02,c6,i0,m9,rfl,H,rfl,gr21,k140,k141,k142,k143,k144,k145,k146,k147,k148,k149,k150,k151,k152,k153,k154,dj49,dj50,dj51,dj52,dj53,dj54,dj55,dj56,dj57,dj58,dj59,dj60,dj61,dj62⟩
             replace H:=hJ2 has02 H
             refine za (zb (yp (h:=?_)))
             obtain ⟨h1,H⟩:=H
             exact zi rfl (Yld.add rfl rfl h1) (yp (h:=(zd (zw _ ⟨i+(1:Int),has02,c6,i0,has02.length,rfl,rfl,H.1,rfl,gr21,k140,k141,k142,k143,k144,k145,k146,k147,k148,k149,k150,k151,k152,k153,k154,dj49,dj50,dj51,dj52,dj53,dj54,dj55,dj56,dj57,dj58,dj59,dj60,dj61,dj62⟩ sb H.2))))
            ·clear hJ2
             refine WC.block (zc (zc (zO (fun k => !(Nat.beq k 8)) (LD [3,7] (fun w'=>RdK 34 enc47 w' n3 o1 a2/\RdK 34 enc49 w' A_b c_b b)) mixed (by kernel_rfl) (fun k w' h _=>⟨(RdK.eqv h k136.rd),(RdK.eqv h k137.rd)⟩) (zu rfl rfl (fun w' hw'=>ze qD rfl) (zu rfl rfl (fun w' hw'=>ze qD rfl) ?_)))))
             obtain ⟨h2,H⟩:=H
             refine zu rfl rfl (fun w' hw'=>zE qD k136.rd rfl rfl rfl rfl h2.1 h2.2) (zu rfl rfl (fun w' hw'=>zU (0,[],[]) qD (hw' rfl).1 rfl rfl (iltN h2 rfl)) (zu rfl rfl (fun w' hw'=>ze qD rfl) (zu rfl rfl (fun w' hw'=>ze qD rfl) ?_)))
             obtain ⟨h3,H⟩:=H
             refine zu rfl rfl (fun w' hw'=>zE qD k137.rd rfl rfl rfl rfl h3.1 h3.2) (zu rfl rfl (fun w' hw'=>zU (0,[],[]) qD (hw' rfl).2 rfl rfl (iltN h3 rfl)) (zT rfl (qI) rfl rfl (W_smithylaw26_same H) (fun v w' h w2 e=>DD.keep (⟨(RdK.grown k136.rd (qQ h.1 e)),(RdK.grown k137.rd (qQ h.1 e))⟩)) ?_))
             rintro _ w25 ⟨hg20,t88,rfl,H⟩
             have gr22:=qE gr20 hg20
             have k155:=k125.grown hg20
             have k156:=k126.grown hg20
             have k157:=k127.grown hg20
             have k158:=k128.grown hg20
             have k159:=k129.grown hg20
             have k160:=k130.grown hg20
             have k161:=k131.g0 hg20
             have k162:=k132.g0 hg20
             have k163:=k133.grown hg20
             have k164:=k134.grown hg20
             have k165:=k135.g0 hg20
             have k166:=k136.grown hg20
             have k167:=k137.grown hg20
             have k168:=k138.g0 hg20
             have k169:=k139.grown hg20
             refine zu rfl rfl (fun w' hw'=>ze qD rfl) (zX (za (zk rfl (fun b12=>?_) (fun b12=>?_))))
             ·replace H:=H.1 (b12)
              exact zc (zb (yp (h:=(zd (za (zq (zh (zp (zh (zh (zp (zh (zx rfl rfl ⟨gr22,false,rfl,H⟩)))))))))))))
             ·replace H:=H.2 (b12)
              refine zm (za (zc (zb (yp (h:=(yp (h:=(zr rfl rfl (kY (hknown.grown gr22) rfl H) ?_))))))))
              rintro _ _ ⟨rfl,t92,rfl,H⟩
              refine zd (za (zk rfl (fun b13=>?_) (fun b13=>?_)))
              ·replace H:=H.1 (b13)
               refine zO (fun k => !(Nat.beq k 6 || Nat.beq k 7 || Nat.beq k 8 || Nat.beq k 9)) (LD [0,5] (fun w'=>Bl w' g5 42 [.slice c3 has0.length e2]/\RdK 34 enc49 w' A_b c_b b)) mixed (by kernel_rfl) (fun k w' h _=>⟨(jU h k168),(RdK.eqv h k167.rd)⟩) (zu rfl rfl (fun w' hw'=>zt qD (hw' rfl).1 rfl rfl rfl) (zu rfl rfl (fun w' hw'=>ze qD rfl) (zu rfl rfl (fun w' hw'=>ze qD rfl) ?_)))
               obtain ⟨h4,H⟩:=H
               refine zu rfl rfl (fun w' hw'=>zE qD k167.rd rfl rfl rfl rfl h4.1 h4.2) (zu rfl rfl (fun w' hw'=>zK qD k167.rd (iltN h4 rfl) rfl rfl rfl) (zu rfl rfl (fun w' hw'=>Yld.iloadP (vs:=(a32 ((b.getD i.toNat (0,[],[])).2.2))) (0,[],[]) qD (hw' rfl).2 rfl rfl (iltN h4 rfl) rfl rfl) (zT rfl (qI) rfl rfl (jW H) (fun v w' h w2 e=>DD.keep (⟨(Bl.g0 k168 (qQ h.1 e)),(RdK.grown k167.rd (qQ h.1 e))⟩)) ?_)))
               rintro _ w26 ⟨hg21,t99,rfl,H⟩
               have gr23:=qE gr22 hg21
               have k182:=k167.grown hg21
               have k183:=k168.g0 hg21
               refine z6 rfl (qI) rfl (Eff.lit qD rfl rfl (qG rfl qR) rfl (by omega)) (fun v w' ⟨_,_,h⟩=>DD.keep (⟨(Bl.g0 k183 (qQ h (Eqv.refl _))),(RdK.grown k182.rd (qQ h (Eqv.refl _)))⟩)) ?_
               rintro _ w27 ⟨rfl,hB10,hg22⟩
               obtain ⟨p4,hl6⟩:∃ g,g=w26.heap.size:=⟨_,rfl⟩
               rw [<-hl6] at hB10
               rw [<-hl6]
               have hO1:Own vs w27 w.heap.size 9 (some ⟨p4,0,none⟩) 1 ([t99]:List (List UInt8)):=Own.ofBl hB10 (Nat.le_trans (qF gr23) (Nat.le_of_eq hl6.symm)) (by simp [maxLen]) rfl
               have gr24:=qE gr23 hg22
               have k185:=(k155.grown hg21).grown hg22
               have k186:=(k156.grown hg21).grown hg22
               have k187:=(k157.grown hg21).grown hg22
               have k188:=(k158.grown hg21).grown hg22
               have k189:=(k159.grown hg21).grown hg22
               have k190:=(k160.grown hg21).grown hg22
               have k191:=(k161.g0 hg21).g0 hg22
               have k192:=(k162.g0 hg21).g0 hg22
               have k193:=(k163.grown hg21).grown hg22
               have k194:=(k164.grown hg21).grown hg22
               have k195:=(k165.g0 hg21).g0 hg22
               have k196:=(k166.grown hg21).grown hg22
               have k197:=k182.grown hg22
               have k198:=k183.g0 hg22
               have k199:=(k169.grown hg21).grown hg22
               obtain ⟨h5,H⟩:=H
               refine z6 rfl (qI) rfl (Eff.append qD rfl One.s k199 rfl rfl hO1.rd rfl rfl h5 (qN h5) (qF gr24)) (fun v w' ⟨_,_,_,_,h,_⟩=>DD.keep (⟨(Bl.go k198 (qQ h (Eqv.refl _)) dj48),(RdK.go k197.rd (qQ h (Eqv.refl _)) (Dn.of dj47))⟩)) ?_
               rintro _ w28 ⟨o0,o2,rfl,hO2,hg23,hk1⟩
               refine qn rfl (qm one42 rfl rfl rfl (k198.go hg23 dj48) (by simp)) (fun w' h=>qv (by kernel_rfl)) ?_
               rintro w29 ⟨hB12,hg24⟩
               have hB11:Bl w29 g5 42 [.slice o0 ((has0++([t99]:List (List UInt8))).length) o2]:=hB12
               refine zX (zg ?_)
               exact WX.weaken sb (hQ _ _ ⟨has0++([t99]:List (List UInt8)),o0,o2,(has0++([t99]:List (List UInt8))).length,rfl,H,rfl,(qH (qH gr24 hg23 k199.ge') hg24 (Ge.le (Ge.box hl5) (qF gr18))),((k185.go hg23 dj35).go hg24 (Dj.new k100.lt' (Ge.box hl5))),((k186.go hg23 dj36).go hg24 (k101.new (Ge.box hl5))),((k187.go hg23 dj37).go hg24 (Dj.new k102.lt' (Ge.box hl5))),((k188.go hg23 dj38).go hg24 (k103.new (Ge.box hl5))),((k189.go hg23 dj39).go hg24 (Dj.new k104.lt' (Ge.box hl5))),((k190.go hg23 dj40).go hg24 (k105.new (Ge.box hl5))),((k191.go hg23 dj41).go hg24 (Dj.new k106.lt' (Ge.box hl5))),((k192.go hg23 dj42).go hg24 (Dj.new k107.lt' (Ge.box hl5))),((k193.go hg23 dj43).go hg24 (Dj.new k108.lt' (Ge.box hl5))),((k194.go hg23 dj44).go hg24 (k109.new (Ge.box hl5))),((k195.go hg23 dj45).go hg24 (Dj.new k110.lt' (Ge.box hl5))),((k196.go hg23 dj46).go hg24 (Dj.new k111.lt' (Ge.box hl5))),((k197.go hg23 dj47).go hg24 (Dj.new k99.lt' (Ge.box hl5))),hB11,(hO2.go hg24 (Dj.app dj48.symm k198.lt' hk1)),(Dj.app dj35.symm k185.lt' hk1).symm,(RelD.app k186 dj36 hk1),(Dj.app dj37.symm k187.lt' hk1).symm,(RelD.app k188 dj38 hk1),(Dj.app dj39.symm k189.lt' hk1).symm,(RelD.app k190 dj40 hk1),(Dj.app dj41.symm k191.lt' hk1).symm,(Dj.app dj42.symm k192.lt' hk1).symm,(Dj.app dj43.symm k193.lt' hk1).symm,(RelD.app k194 dj44 hk1),(Dj.app dj45.symm k195.lt' hk1).symm,(Dj.app dj46.symm k196.lt' hk1).symm,(Dj.app dj47.symm k197.lt' hk1).symm,(Dj.app dj48.symm k198.lt' hk1).symm⟩)
              ·replace H:=H.2 (b13)
               exact zm (zg (WX.weaken sb (hQ _ _ ⟨has0,c3,e2,has0.length,rfl,H,rfl,gr22,k155,k156,k157,k158,k159,k160,k161,k162,k163,k164,k165,k166,k167,k168,k169,dj35,dj36,dj37,dj38,dj39,dj40,dj41,dj42,dj43,dj44,dj45,dj46,dj47,dj48⟩)))
           ·replace H:=H.2 (of_decide_eq_false b11)
            refine zz (zf (zf (zj (za (zc (zb (yp (h:=(zd (za (zc (zc (zb (yp (h:=(zd (za (WC.block ?_))))))))))))))))))
            obtain ⟨I2,mu2,r3,HR2⟩:=H
            refine zA (fun n' L' w'=>∃ (want:List Int),∃ (d3:Option Addr),∃ (f5:Nat),∃ (n6:Nat),∃ (i2:Int),n'=mu2 want i2/\L'=[(1,.slice d0 files.length d1),(8,.pointer (some ⟨d5,0,none⟩)),(10,.pointer (some ⟨d2,0,none⟩)),(13,.slice A_b b.length c_b),(14,.pointer (some ⟨g5,0,none⟩)),(16,.slice d3 n6 f5),(17,.int .i64 i2)]/\I2 want i2/\n6=want.length/\w.grownBy w' none/\OwnK 4 qP w' w.heap.size 64 c5 d4 c1/\RelD de64 w' c1 c8/\Own vh w' w.heap.size 24 a3 a8 a1/\RelD de24 w' a1 a0/\Own vh w' w.heap.size 24 a7 b0 a5/\RelD de24 w' a5 a6/\MapB vs okS vi w' a4 c2/\Bl w' d5 71 [.slice c5 c8.length d4,.map (some a4),.slice a3 a0.length a8,.slice a7 a6.length b0]/\OwnK 4 qP w' w.heap.size 64 c0 c9 a9/\RelD de64 w' a9 c4/\Bl w' d2 89 [.slice c0 c4.length c9]/\OwnK 34 enc49 w' w.heap.size 49 A_b c_b b/\Bl w' g5 42 [.slice c3 has0.length e2]/\Own vs w' w.heap.size 9 c3 e2 has0/\Own vi w' w.heap.size 3 d3 f5 want/\Dj (blk c5) (blk d3)/\DnD de64 c1 c8 (blk d3)/\Dj (blk a3) (blk d3)/\DnD de24 a1 a0 (blk d3)/\Dj (blk a7) (blk d3)/\DnD de24 a5 a6 (blk d3)/\Dj (some a4) (blk d3)/\Dj (some d5) (blk d3)/\Dj (blk c0) (blk d3)/\DnD de64 a9 c4 (blk d3)/\Dj (some d2) (blk d3)/\Dj (blk A_b) (blk d3)/\Dj (some g5) (blk d3)/\Dj (blk c3) (blk d3)) _ _ ⟨[],none,0,0,(0:Int),rfl,rfl,r3,rfl,gr20,k125,k126,k127,k128,k129,k130,k131,k132,k133,k134,k135,k137,k138,k139,(Own.nil vi w23 w.heap.size 3),Dj.nr,(DnD.none k126),Dj.nr,(DnD.none k128),Dj.nr,(DnD.none k130),Dj.nr,Dj.nr,Dj.nr,(DnD.none k134),Dj.nr,Dj.nr,Dj.nr,Dj.nr⟩ sb ?_
            clear r3
            rintro _ _ w30 ⟨want,d3,f5,n6,i2,rfl,rfl,hI2,rfl,gr27,k228,k229,k230,k231,k232,k233,k234,k235,k236,k237,k238,k239,k240,k241,k242,dj63,dj64,dj65,dj66,dj67,dj68,dj69,dj70,dj71,dj72,dj73,dj74,dj75,dj76⟩
            have H:=HR2 want i2 hI2
            refine zc (zc (zb (yp (h:=(yp (h:=(yp (h:=(yp (h:=(zd (za (zk rfl (fun b14=>?_) (fun b14=>?_))))))))))))))
            ·replace H:=H.1 (of_decide_eq_true b14)
             refine zm (za (zc ?_))
             obtain ⟨J3,H,hJ3⟩:=H
             refine zL (fun L' w'=>∃ (want2:List Int),∃ (c7:Option Addr),∃ (i1:Nat),∃ (n0:Nat),L'=[(1,.slice d0 files.length d1),(8,.pointer (some ⟨d5,0,none⟩)),(10,.pointer (some ⟨d2,0,none⟩)),(13,.slice A_b b.length c_b),(14,.pointer (some ⟨g5,0,none⟩)),(16,.slice c7 n0 i1),(17,.int .i64 i2)]/\J3 want2/\n0=want2.length/\w.grownBy w' none/\OwnK 4 qP w' w.heap.size 64 c5 d4 c1/\RelD de64 w' c1 c8/\Own vh w' w.heap.size 24 a3 a8 a1/\RelD de24 w' a1 a0/\Own vh w' w.heap.size 24 a7 b0 a5/\RelD de24 w' a5 a6/\MapB vs okS vi w' a4 c2/\Bl w' d5 71 [.slice c5 c8.length d4,.map (some a4),.slice a3 a0.length a8,.slice a7 a6.length b0]/\OwnK 4 qP w' w.heap.size 64 c0 c9 a9/\RelD de64 w' a9 c4/\Bl w' d2 89 [.slice c0 c4.length c9]/\OwnK 34 enc49 w' w.heap.size 49 A_b c_b b/\Bl w' g5 42 [.slice c3 has0.length e2]/\Own vs w' w.heap.size 9 c3 e2 has0/\Own vi w' w.heap.size 3 c7 i1 want2/\Dj (blk c5) (blk c7)/\DnD de64 c1 c8 (blk c7)/\Dj (blk a3) (blk c7)/\DnD de24 a1 a0 (blk c7)/\Dj (blk a7) (blk c7)/\DnD de24 a5 a6 (blk c7)/\Dj (some a4) (blk c7)/\Dj (some d5) (blk c7)/\Dj (blk c0) (blk c7)/\DnD de64 a9 c4 (blk c7)/\Dj (some d2) (blk c7)/\Dj (blk A_b) (blk c7)/\Dj (some g5) (blk c7)/\Dj (blk c3) (blk c7)) ?_ (fun hQ=>?_)
             ·clear H
              rintro _ w31 ⟨want2,c7,i1,n0,rfl,H,rfl,gr28,k243,k244,k245,k246,k247,k248,k249,k250,k251,k252,k253,k254,k255,k256,k257,dj77,dj78,dj79,dj80,dj81,dj82,dj83,dj84,dj85,dj86,dj87,dj88,dj89,dj90⟩
              replace H:=hJ3 want2 H
              refine za (zb (yp (h:=?_)))
              obtain ⟨h6,H⟩:=H
              exact zi rfl (Yld.add rfl rfl h6) (yp (h:=(zd (zw _ ⟨want2,c7,i1,want2.length,i2+(1:Int),rfl,rfl,H.1,rfl,gr28,k243,k244,k245,k246,k247,k248,k249,k250,k251,k252,k253,k254,k255,k256,k257,dj77,dj78,dj79,dj80,dj81,dj82,dj83,dj84,dj85,dj86,dj87,dj88,dj89,dj90⟩ sb H.2))))
             ·clear hJ3
              refine WC.block (zc (zO (fun k => !(Nat.beq k 13 || Nat.beq k 14)) (LD [4,7,12] (fun w'=>RdK 34 enc49 w' A_b c_b b/\Bl w' g5 42 [.slice c3 has0.length e2])) mixed (by kernel_rfl) (fun k w' h _=>⟨(RdK.eqv h k239.rd),(jU h k240)⟩) (zu rfl rfl (fun w' hw'=>ze qD rfl) (zu rfl rfl (fun w' hw'=>ze qD rfl) ?_))))
              obtain ⟨h7,H⟩:=H
              refine zu rfl rfl (fun w' hw'=>zE qD k239.rd rfl rfl rfl rfl h7.1 h7.2) (zu rfl rfl (fun w' hw'=>zK qD k239.rd (iltN h7 rfl) rfl rfl rfl) (zu rfl rfl (fun w' hw'=>zN (0,[],[]) qD (hw' rfl).1 rfl rfl (iltN h7 rfl) rfl) (zu rfl rfl (fun w' hw'=>ze qD rfl) (zu rfl rfl (fun w' hw'=>ze qD rfl) ?_))))
              obtain ⟨J4,H,hJ4⟩:=H
              refine WJ.midF 10 (fun L' w'=>∃ q8:Bool,L'=[(124,.bool q8),(1,.slice d0 files.length d1),(8,.pointer (some ⟨d5,0,none⟩)),(10,.pointer (some ⟨d2,0,none⟩)),(13,.slice A_b b.length c_b),(14,.pointer (some ⟨g5,0,none⟩)),(16,.slice d3 want.length f5),(17,.int .i64 i2)]/\J4 q8/\w.grownBy w' none/\OwnK 4 qP w' w.heap.size 64 c5 d4 c1/\RelD de64 w' c1 c8/\Own vh w' w.heap.size 24 a3 a8 a1/\RelD de24 w' a1 a0/\Own vh w' w.heap.size 24 a7 b0 a5/\RelD de24 w' a5 a6/\MapB vs okS vi w' a4 c2/\Bl w' d5 71 [.slice c5 c8.length d4,.map (some a4),.slice a3 a0.length a8,.slice a7 a6.length b0]/\OwnK 4 qP w' w.heap.size 64 c0 c9 a9/\RelD de64 w' a9 c4/\Bl w' d2 89 [.slice c0 c4.length c9]/\OwnK 34 enc49 w' w.heap.size 49 A_b c_b b/\Bl w' g5 42 [.slice c3 has0.length e2]/\Own vs w' w.heap.size 9 c3 e2 has0/\Own vi w' w.heap.size 3 d3 f5 want) ?_ (fun hQ=>?_)
              ·clear H
               rintro _ w32 ⟨q8,rfl,H,gr29,k258,k259,k260,k261,k262,k263,k264,k265,k266,k267,k268,k269,k270,k271,k272⟩
               replace H:=hJ4 q8 H
               refine zX (za (zk rfl (fun b15=>?_) (fun b15=>?_)))
               ·replace H:=H.1 (b15)
                refine zb (yp (h:=(yp (h:=(zP qD rfl rfl rfl (qG rfl qR) rfl (by omega) (fun g6 w33 hB13 hg25 hl7=>?_))))))
                have hO3:Own vi w33 w.heap.size 3 (some ⟨g6,0,none⟩) 1 ([i2]:List Int):=Own.ofBl hB13 (Nat.le_trans (qF gr29) hl7) (by simp [maxLen]) rfl
                have gr30:=qE gr29 hg25
                have k273:=k258.grown hg25
                have k274:=k259.grown hg25
                have k275:=k260.grown hg25
                have k276:=k261.grown hg25
                have k277:=k262.grown hg25
                have k278:=k263.grown hg25
                have k279:=k264.g0 hg25
                have k280:=k265.g0 hg25
                have k281:=k266.grown hg25
                have k282:=k267.grown hg25
                have k283:=k268.g0 hg25
                have k284:=k269.grown hg25
                have k285:=k270.g0 hg25
                have k286:=k271.grown hg25
                have k287:=k272.grown hg25
                obtain ⟨h8,H⟩:=H
                exact zG qD rfl rfl One.i k287 rfl rfl hO3.rd rfl rfl h8 (qN h8) (qF gr30) (fun o8 p0 w34 hO4 hg26 hk2=>yp (h:=(zd (zg (WX.weaken sb (hQ _ _ ⟨want++([i2]:List Int),o8,p0,(want++([i2]:List Int)).length,rfl,H,rfl,(qH gr30 hg26 k287.ge'),(k273.go hg26 dj63),(k274.go hg26 dj64),(k275.go hg26 dj65),(k276.go hg26 dj66),(k277.go hg26 dj67),(k278.go hg26 dj68),(k279.go hg26 dj69),(k280.go hg26 dj70),(k281.go hg26 dj71),(k282.go hg26 dj72),(k283.go hg26 dj73),(k284.go hg26 dj74),(k285.go hg26 dj75),(k286.go hg26 dj76),hO4,(Dj.app dj63.symm k273.lt' hk2).symm,(RelD.app k274 dj64 hk2),(Dj.app dj65.symm k275.lt' hk2).symm,(RelD.app k276 dj66 hk2),(Dj.app dj67.symm k277.lt' hk2).symm,(RelD.app k278 dj68 hk2),(Dj.app dj69.symm k279.lt' hk2).symm,(Dj.app dj70.symm k280.lt' hk2).symm,(Dj.app dj71.symm k281.lt' hk2).symm,(RelD.app k282 dj72 hk2),(Dj.app dj73.symm k283.lt' hk2).symm,(Dj.app dj74.symm k284.lt' hk2).symm,(Dj.app dj75.symm k285.lt' hk2).symm,(Dj.app dj76.symm k286.lt' hk2).symm⟩))))))
               ·replace H:=H.2 (b15)
                exact zm (zg (WX.weaken sb (hQ _ _ ⟨want,d3,f5,want.length,rfl,H,rfl,gr29,k258,k259,k260,k261,k262,k263,k264,k265,k266,k267,k268,k269,k270,k271,k272,dj63,dj64,dj65,dj66,dj67,dj68,dj69,dj70,dj71,dj72,dj73,dj74,dj75,dj76⟩)))
              ·clear hJ4
               rcases Bool.eq_false_or_eq_true (decide (((b.getD i2.toNat (0,[],[])).1)=(1:Int))) with b16 | b16
               ·replace H:=H.1 b16
                refine WJ.yw rfl (qX rfl rfl (okb b16)) rfl (fun w' hw'=>zt qD (hw' rfl).2 rfl rfl rfl) (WJ.yw rfl (qX rfl rfl (okb b16)) rfl (fun w' hw'=>ze qD rfl) (WJ.yw rfl (qX rfl rfl (okb b16)) rfl (fun w' hw'=>ze qD rfl) ?_))
                obtain ⟨h9,H⟩:=H
                refine WJ.yw rfl (qX rfl rfl (okb b16)) rfl (fun w' hw'=>zE qD k239.rd rfl rfl rfl rfl h9.1 h9.2) (WJ.yw rfl (qX rfl rfl (okb b16)) rfl (fun w' hw'=>zK qD k239.rd (iltN h9 rfl) rfl rfl rfl) (WJ.yw rfl (qX rfl rfl (okb b16)) rfl (fun w' hw'=>Yld.iloadP (vs:=(a32 ((b.getD i2.toNat (0,[],[])).2.2))) (0,[],[]) qD (hw' rfl).1 rfl rfl (iltN h9 rfl) rfl rfl) (zT rfl (qX rfl rfl (okb b16)) rfl rfl (jW H) (fun v w' h w2 e=>DD.keep (⟨(RdK.grown k239.rd (qQ h.1 e)),(Bl.g0 k240 (qQ h.1 e))⟩)) ?_)))
                rintro _ w35 ⟨hg27,t121,rfl,H⟩
                have k313:=k239.grown hg27
                have k314:=k240.g0 hg27
                have k315:=k241.grown hg27
                refine zT rfl (qX rfl rfl (okb b16)) rfl rfl (W_smithyref_AmongTexts k315.rd rfl H) (fun v w' h w2 e=>DD.keep (⟨(RdK.eqv (eqvL h.1 e) k313.rd),(jU (eqvL h.1 e) k314)⟩)) ?_
                rintro _ _ ⟨rfl,t122,rfl,H⟩
                exact WJ.yw rfl (qX rfl rfl (okb b16)) rfl (fun w' hw'=>ze qD rfl) (zu rfl rfl (fun w' hw'=>zy (okb b16) rfl) (WJ.weaken sb (hQ _ _ ⟨decide (t122<(0:Int)),rfl,H,(qE gr27 hg27),(k228.grown hg27),(k229.grown hg27),(k230.grown hg27),(k231.grown hg27),(k232.grown hg27),(k233.grown hg27),(k234.g0 hg27),(k235.g0 hg27),(k236.grown hg27),(k237.grown hg27),(k238.g0 hg27),k313,k314,k315,(k242.grown hg27)⟩)))
               ·replace H:=H.2 b16
                exact WJ.no rfl rfl (okb b16) rfl (WJ.no rfl rfl (okb b16) rfl (WJ.no rfl rfl (okb b16) rfl (WJ.no rfl rfl (okb b16) rfl (WJ.no rfl rfl (okb b16) rfl (WJ.no rfl rfl (okb b16) rfl (WJ.no rfl rfl (okb b16) rfl (WJ.no rfl rfl (okb b16) rfl (WJ.no rfl rfl (okb b16) rfl (zu rfl rfl (fun w' hw'=>zv (okb b16) rfl) (WJ.weaken sb (hQ _ _ ⟨false,rfl,H,gr27,k228,k229,k230,k231,k232,k233,k234,k235,k236,k237,k238,k239,k240,k241,k242⟩)))))))))))
            ·replace H:=H.2 (of_decide_eq_false b14)
             refine zz (zf (zf (zj (za (zc (zb (yp (h:=(yp (h:=(zi rfl (Yld.mkf rfl) (zr rfl rfl (Zr (hG.grown gr27) hS10 hS16 hS100 hS101 k228.rd rfl k229 k234 k230.rd rfl k231 k232.rd rfl k233 k235 (hfiles.grown gr27) rfl k241.rd rfl k240 H) ?_))))))))))))
             rintro _ w36 ⟨hg28,dirty,r5,r6,rfl,hdirty,H⟩
             have hb9:=hdirty.ge'
             have gr33:=qE gr27 hg28
             have k318:=k228.grown hg28
             have k319:=k229.grown hg28
             have k320:=k230.grown hg28
             have k321:=k231.grown hg28
             have k322:=k232.grown hg28
             have k323:=k233.grown hg28
             have k324:=k234.g0 hg28
             have k325:=k235.g0 hg28
             have k326:=k236.grown hg28
             have k327:=k237.grown hg28
             have k328:=k238.g0 hg28
             refine yp (h:=(zd (za (zc (zb (yp (h:=(yp (h:=(zr rfl rfl (W_smithyref_SameInts (hdirty.base (fun g hg=>Nat.le_trans (qF gr27) (hb9 g hg))).rd rfl (k242.grown hg28).rd rfl H) ?_))))))))))
             rintro _ _ ⟨rfl,t135,rfl,H⟩
             refine yp (h:=?_)
             obtain ⟨J5,H,hJ5⟩:=H
             refine zD 8 (fun L' w'=>∃ q9:Bool,L'=[(144,.bool q9),(8,.pointer (some ⟨d5,0,none⟩)),(10,.pointer (some ⟨d2,0,none⟩))]/\J5 q9/\w.grownBy w' none/\OwnK 4 qP w' w.heap.size 64 c5 d4 c1/\RelD de64 w' c1 c8/\Own vh w' w.heap.size 24 a3 a8 a1/\RelD de24 w' a1 a0/\Own vh w' w.heap.size 24 a7 b0 a5/\RelD de24 w' a5 a6/\MapB vs okS vi w' a4 c2/\Bl w' d5 71 [.slice c5 c8.length d4,.map (some a4),.slice a3 a0.length a8,.slice a7 a6.length b0]/\OwnK 4 qP w' w.heap.size 64 c0 c9 a9/\RelD de64 w' a9 c4/\Bl w' d2 89 [.slice c0 c4.length c9]) ?_ (fun hQ=>?_)
             ·clear H
              rintro _ w37 ⟨q9,rfl,H,gr34,k330,k331,k332,k333,k334,k335,k336,k337,k338,k339,k340⟩
              replace H:=hJ5 q9 H
              refine yp (h:=?_)
              obtain ⟨J6,H,hJ6⟩:=H
              refine zD 6 (fun L' w'=>∃ q10:Bool,L'=[(151,.bool q10)]/\J6 q10/\w37=w') ?_ (fun hQ=>?_)
              ·clear H
               rintro _ _ ⟨q10,rfl,H,rfl⟩
               replace H:=hJ6 q10 H
               exact yp (h:=(zd (za (zq (zx rfl rfl ⟨gr34,q10,rfl,H⟩)))))
              ·clear hJ6
               rcases Bool.eq_false_or_eq_true (q9) with b17 | b17
               ·replace H:=H.1 b17
                refine gp b17 (h:=(qe (qX rfl rfl (okb b17)) rfl rfl (W_plan_Steps k330.rd rfl k331 k336 k332.rd rfl k333 k334.rd rfl k335 k337 H) ?_))
                rintro _ _ ⟨rfl,t147,rfl,H⟩
                refine gp b17 (h:=(qe (qX rfl rfl (okb b17)) rfl rfl (W_smithyref17_Steps k338.rd rfl k339 k340 H) ?_))
                rintro _ _ ⟨rfl,t149,rfl,H⟩
                exact gp b17 (h:=(zi rfl (zy (okb b17) rfl) (wk (hQ _ _ ⟨decide (t147=t149),rfl,H,rfl⟩))))
               ·replace H:=H.2 b17
                exact gn b17 (h:=(gn b17 (h:=(gn b17 (h:=(gn b17 (h:=(gn b17 (h:=(zi rfl (zv (okb b17) rfl) (wk (hQ _ _ ⟨false,rfl,H,rfl⟩))))))))))))
             ·clear hJ5
              rcases Bool.eq_false_or_eq_true (t135) with b18 | b18
              ·replace H:=H.1 b18
               refine gp b18 (h:=(gp b18 (h:=(qe (qX rfl rfl (okb b18)) rfl rfl (W_plan_Outputs (hG.grown gr33) hS10 hS16 hS100 hS101 k318.rd rfl k319 k324 k320.rd rfl k321 k322.rd rfl k323 k325 (hfiles.grown gr33) rfl H) ?_))))
               rintro _ w38 ⟨hg29,t139,r8,s1,rfl,ht139,H⟩
               have hb10:=ht139.ge'
               have gr35:=qE gr33 hg29
               have k350:=k326.grown hg29
               have k351:=k327.grown hg29
               have k352:=k328.g0 hg29
               refine gp b18 (h:=(gp b18 (h:=(qe (qX rfl rfl (okb b18)) rfl rfl (W_smithyref17_Outputs (hG.grown gr35) hS101 k350.rd rfl k351 k352 (hfiles.grown gr35) rfl H) ?_))))
               rintro _ w39 ⟨hg30,t142,r9,s2,rfl,ht142,H⟩
               have hb11:=ht142.ge'
               have k353:=ht142.base (fun g hg=>Nat.le_trans (qF gr35) (hb11 g hg))
               have k365:=(ht139.base (fun g hg=>Nat.le_trans (qF gr33) (hb10 g hg))).grown hg30
               refine qe (qX rfl rfl (okb b18)) rfl rfl (W_smithyref_SameFiles k365.rd rfl k353.rd rfl H) ?_
               rintro _ w40 ⟨hg31,t143,rfl,H⟩
               have k377:=k365.grown hg31
               have k378:=k353.grown hg31
               exact zi rfl (zy (okb b18) rfl) (wk (hQ _ _ ⟨t143,rfl,H,(qE (qE gr35 hg30) hg31),(((k318.grown hg29).grown hg30).grown hg31),(((k319.grown hg29).grown hg30).grown hg31),(((k320.grown hg29).grown hg30).grown hg31),(((k321.grown hg29).grown hg30).grown hg31),(((k322.grown hg29).grown hg30).grown hg31),(((k323.grown hg29).grown hg30).grown hg31),(((k324.g0 hg29).g0 hg30).g0 hg31),(((k325.g0 hg29).g0 hg30).g0 hg31),((k350.grown hg30).grown hg31),((k351.grown hg30).grown hg31),((k352.g0 hg30).g0 hg31)⟩))
              ·replace H:=H.2 b18
               exact gn b18 (h:=(gn b18 (h:=(gn b18 (h:=(gn b18 (h:=(gn b18 (h:=(gn b18 (h:=(gn b18 (h:=(zi rfl (zv (okb b18) rfl) (wk (hQ _ _ ⟨false,rfl,H,gr33,k318,k319,k320,k321,k322,k323,k324,k325,k326,k327,k328⟩))))))))))))))))
        ·clear H
         rcases Bool.eq_false_or_eq_true (!decide (d8=(0:Int))) with b19 | b19
         ·exact gn b19 (h:=(gn b19 (h:=(zi rfl (zy (okb b19) rfl) (wk (hQ _ _ ⟨true,rfl,by rw [b19] <;> rfl,rfl⟩))))))
         ·exact gp b19 (h:=(zC rfl rfl (okb b19) rfl (qf Tryz.underlying30 k81 rfl) (zi rfl (zv (okb b19) rfl) (wk (hQ _ _ ⟨!decide (t4212=Er.ok),rfl,by rw [b19] <;> rfl,rfl⟩)))))
    ·clear H
     rcases Bool.eq_false_or_eq_true (q1 || (decide ((30:Int)<(known.length:Int)))) with b20 | b20
     ·exact gn b20 (h:=(gn b20 (h:=(zi rfl (zy (okb b20) rfl) (wk (hQ _ _ ⟨true,rfl,by rw [b20] <;> rfl,rfl⟩))))))
     ·exact gp b20 (h:=(gp b20 (h:=(zi rfl (zv (okb b20) rfl) (wk (hQ _ _ ⟨!ok,rfl,by rw [b20] <;> rfl,rfl⟩))))))
   ·clear H
    rcases Bool.eq_false_or_eq_true (q1) with b21 | b21
    ·exact gn b21 (h:=(gn b21 (h:=(gn b21 (h:=(zi rfl (zy (okb b21) rfl) (wk (hQ _ _ ⟨true,rfl,by rw [b21] <;> rfl,rfl⟩))))))))
    ·exact gp b21 (h:=(gp b21 (h:=(gp b21 (h:=(zi rfl (zv (okb b21) rfl) (wk (hQ _ _ ⟨decide ((30:Int)<(known.length:Int)),rfl,by rw [b21] <;> rfl,rfl⟩))))))))
  ·clear hJ1
   rcases Bool.eq_false_or_eq_true (!t23) with b22 | b22
   ·replace H:=H.1 b22
    exact gn b22 (h:=(gn b22 (h:=(gn b22 (h:=(zi rfl (zy (okb b22) rfl) (wk (hQ _ _ ⟨true,rfl,H,rfl⟩))))))))
   ·replace H:=H.2 b22
    refine gp b22 (h:=(qe (qX rfl rfl (okb b22)) rfl rfl (W_smithyworld_Files (hfiles.grown gr1) rfl H) ?_))
    rintro _ _ ⟨rfl,t27,rfl,H⟩
    exact gp b22 (h:=(zi rfl (zv (okb b22) rfl) (wk (hQ _ _ ⟨!t27,rfl,H,rfl⟩))))
end
 
section
open Go Go.RowKit
theorem amongV_M {l:TL} {s:List UInt8} {K:Int->Prop} (hl:l.length<=1000000000) (h:∀ t:Int,decide (0<=t)=decide (s∈l)->K t):jk l s K :=
 amongTexts_M hl (fun hn=>h _ (by rw [decide_eq_false hn]; rfl)) fun i h0 hm=>h _ (by rw [decide_eq_true hm,decide_eq_true h0])
section
variable {l:List GAct}
theorem outF_mem {fs:List FT} {x:List UInt8 × List UInt8}:∀ {m:Nat},x∈outF l fs m↔∃ j,j<m/\(fs.getD j fz).1=1/\x=((l.getD j az).2.2.2,(fs.getD j fz).2.1)
 | 0=>by simp [outF]
 | m+1=>by
  unfold outF
  rw [List.mem_append,outF_mem]
  constructor
  ·rintro (⟨j,h1,h2,h3⟩ | h)
   ·exact ⟨j,by omega,h2,h3⟩
   ·split at h
    ·rename_i hc
     exact ⟨m,by omega,hc,List.mem_singleton.1 h⟩
    ·cases h
  ·rintro ⟨j,h1,h2,h3⟩
   by_cases e:j=m
   ·subst e
    right
    rw [if_pos h2,h3]
    exact List.mem_singleton.2 rfl
   ·exact .inl ⟨j,by omega,h2,h3⟩
theorem outF_nodup {fs:List FT} (hd:Dst l):∀ m,m<=l.length->((outF l fs m).map Prod.fst).Nodup
 | 0,_=>List.nodup_nil
 | m+1,h=>by
  unfold outF
  rw [List.map_append,List.nodup_append]
  refine ⟨outF_nodup hd m (by omega),by split <;> simp,fun a ha b hb e=>?_⟩
  obtain ⟨x,hx,rfl⟩:=List.mem_map.1 ha
  obtain ⟨j,h1,_,rfl⟩:=outF_mem.1 hx
  split at hb
  ·rw [List.map_cons,List.map_nil,List.mem_singleton] at hb
   have:=hd j m (by omega) (by omega) (e.trans hb)
   omega
  ·cases hb
theorem sortedF_strict {ys:TX} (hy:SortedF ys) (hn:(ys.map Prod.fst).Nodup):Strict (ys.map Prod.fst):=by
 unfold Strict
 rw [List.pairwise_iff_getElem]
 intro i j hi hj hij
 rw [List.length_map] at hi hj
 have h1:=hy i j hij hj
 have e1:∀ k (h:k<ys.length),ys.getD k ([],[])=ys[k]:=fun k h=>by simp [List.getD,h]
 rw [e1 i hi,e1 j hj] at h1
 rw [List.getElem_map,List.getElem_map]
 have hne:ys[i].1≠ys[j].1:=fun e=>by
  have:=(List.pairwise_iff_getElem.1 hn) i j (by rw [List.length_map]; exact hi) (by rw [List.length_map]; exact hj) hij
  rw [List.getElem_map,List.getElem_map] at this
  exact this e
 have hle:ys[i].1<=ys[j].1:=List.not_lt.1 h1
 exact Classical.byContradiction fun h=>hne (List.le_antisymm hle (List.not_lt.1 h))
theorem routputs_M {files:TX} {ys:TX} {K:TX->Prop} (hs:GSmall l) (g:GOk l) (hty:∀ j,j<l.length->1<=(l.getD j az).1/\(l.getD j az).1<=5) (hf:files.length<=100) (hfp:∀ f∈files,f.1.length<=1000/\f.2.length<=100000)
  (hp:ys.Perm (outF l (kE FQ1 l files) l.length)) (hy:SortedF ys) (h:K ys):kb l files K:=by
 intro _ _
 have hl:=hs.len
 refine rfates_M hs g hty hf hfp ?_
 have la:(kE FQ1 l files).length=l.length:=Zg (F:=FQ1) files g l.length (Nat.le_refl _)
 generalize kE FQ1 l files=fs at *
 have hyl:ys.length<=l.length:=by rw [hp.length_eq]; exact outF_len l fs l.length
 refine ⟨fun p i=>0<=i/\i<=l.length/\p=(outF l fs i.toNat).map Prod.fst,fun _ i=>l.length - i.toNat,⟨by omega,by omega,rfl⟩,?_⟩
 rintro _ i ⟨a0,a1,rfl⟩
 rw [la]
 refine ⟨fun hi=>?_,fun hi=>?_⟩
 ·have hil:i.toNat<l.length:=by omega
  have hol:=outF_len l fs i.toNat
  have hst:(outF l fs (i+1).toNat).map Prod.fst=(outF l fs i.toNat).map Prod.fst++if (fs.getD i.toNat fz).1=1 then [(l.getD i.toNat az).2.2.2] else []:=by
   rw [show (i+1).toNat=i.toNat+1 by omega,outF,List.map_append]
   split <;> rfl
  refine ⟨fun p=>p=(outF l fs (i+1).toNat).map Prod.fst,⟨by omega,fun hc=>⟨by omega,by simp only [List.length_map,List.length_cons,List.length_nil]; omega,?_⟩,fun hc=>?_⟩,?_⟩
  ·have hc':(fs.getD i.toNat fz).1=1:=hc
   rw [hst,if_pos hc']; rfl
  ·have hc':¬ (fs.getD i.toNat fz).1=1:=hc
   rw [hst,if_neg hc',List.append_nil]
  ·rintro _ rfl
   exact ⟨by simp only [In]; omega,⟨by omega,by omega,rfl⟩,by (try dsimp only); omega⟩
 ·rw [show i.toNat=l.length by omega]
  have hol:=outF_len l fs l.length
  have hn:(ys.map Prod.fst).Nodup:=(hp.map Prod.fst).nodup_iff.2 (outF_nodup g.dst l.length (Nat.le_refl _))
  have hsort:ys.map Prod.fst=sortU ((outF l fs l.length).map Prod.fst):=sortU_of (sortedF_strict hy hn) fun x=>(hp.map Prod.fst).mem_iff
  refine sortedTexts_M (by rw [List.length_map]; omega) ?_
  rw [<-hsort]
  refine ⟨fun o k=>0<=k/\k<=ys.length/\o=ys.take k.toNat,fun _ k=>ys.length - k.toNat,⟨by omega,by omega,rfl⟩,?_⟩
  rintro _ k ⟨b0,b1,rfl⟩
  rw [List.length_map]
  refine ⟨fun hk=>?_,fun hk=>?_⟩
  ·have hkl:k.toNat<ys.length:=by omega
   have hm:ys[k.toNat]∈outF l fs l.length:=hp.mem_iff.1 (List.getElem_mem hkl)
   obtain ⟨j,hj,hd,he⟩:=outF_mem.1 hm
   have hpk:(ys.map Prod.fst).getD k.toNat []=(l.getD j az).2.2.2:=by
    simp only [List.getD,List.getElem?_map,List.getElem?_eq_getElem hkl,Option.map_some,Option.getD_some,he]
   rw [hpk]
   refine ⟨by omega,by omega,rmaker_M (by omega) g.dst ?_⟩
   rw [mkI_out g hj,Int.toNat_natCast]
   refine ⟨by omega,by simp only [List.length_take,List.length_cons,List.length_nil]; omega,by simp only [In]; omega,⟨by omega,by omega,?_⟩,by (try dsimp only); omega⟩
   rw [show (k+1).toNat=k.toNat+1 by omega,List.take_add_one,List.getElem?_eq_getElem hkl,he]; rfl
  ·rw [List.take_of_length_le (by omega)]
   exact h
def selF (fs:List FT) (cap:TL):Nat->List Int
 | 0=>[]
 | m+1=>selF fs cap m++if (fs.getD m fz).1=1/\hexS (fs.getD m fz).2.2∉cap then [(m:Int)] else []
theorem selF_len (fs:List FT) (cap:TL):∀ m,(selF fs cap m).length<=m
 | 0=>Nat.le_refl _
 | m+1=>by
  have:=selF_len fs cap m
  unfold selF
  rw [List.length_append]
  split <;> simp <;> omega
theorem dirty_M {files:TX} {cap:TL} {K:List Int->Prop} (hs:GSmall l) (g:GOk l) (hty:∀ j,j<l.length->1<=(l.getD j az).1/\(l.getD j az).1<=5) (hf:files.length<=100) (hfp:∀ f∈files,f.1.length<=1000/\f.2.length<=100000) (hc:cap.length<=1000)
  (h:K (selF (kE FQ1 l files) cap l.length)):ja l (mkP l l.length) (befL l l.length) (aftL l l.length) files cap K:=by
 intro _ _ _ _ _
 have hl:=hs.len
 refine fates_M hs g hty hf hfp ?_
 have la:(kE FQ1 l files).length=l.length:=Zg (F:=FQ1) files g l.length (Nat.le_refl _)
 have hkey:=fates_key files g
 generalize kE FQ1 l files=fs at *
 refine ⟨fun o k=>0<=k/\k<=l.length/\o=selF fs cap k.toNat,fun _ k=>l.length - k.toNat,⟨by omega,by omega,rfl⟩,?_⟩
 rintro _ k ⟨a0,a1,rfl⟩
 rw [la]
 refine ⟨fun hk=>?_,fun hk=>?_⟩
 ·have hkl:k.toNat<l.length:=by omega
  have hol:=selF_len fs cap k.toNat
  have hst:selF fs cap (k+1).toNat=selF fs cap k.toNat++if (fs.getD k.toNat fz).1=1/\hexS (fs.getD k.toNat fz).2.2∉cap then [k] else []:=by
   rw [show (k+1).toNat=k.toNat+1 by omega,selF,Int.toNat_of_nonneg a0]
  have hK:=hkey k.toNat hkl
  refine ⟨fun o=>o=selF fs cap (k+1).toNat,⟨by omega,fun b=>b=decide ((fs.getD k.toNat fz).1=1/\hexS (fs.getD k.toNat fz).2.2∉cap),⟨fun e=>?_,fun e=>?_⟩,?_⟩,?_⟩
  ·have e:(fs.getD k.toNat fz).1=1:=of_decide_eq_true e
   intro _
   refine text_M hK (amongV_M (by omega) fun t ht=>?_)
   rw [ht]
   show (!decide (hexS (fs.getD k.toNat fz).2.2∈cap))=decide ((fs.getD k.toNat fz).1=1/\hexS (fs.getD k.toNat fz).2.2∉cap)
   rw [Bool.eq_iff_iff]
   simp only [Bool.not_eq_true',decide_eq_false_iff_not,decide_eq_true_eq]
   exact ⟨fun q=>⟨e,q⟩,fun q=>q.2⟩
  ·have e:¬ (fs.getD k.toNat fz).1=1:=of_decide_eq_false e
   exact (decide_eq_false fun q=>e q.1).symm
  ·rintro _ rfl
   refine ⟨fun e=>⟨by simp only [List.length_cons,List.length_nil]; omega,?_⟩,fun e=>?_⟩
   ·rw [hst,if_pos (of_decide_eq_true e)]
   ·rw [hst,if_neg (of_decide_eq_false e),List.append_nil]
  ·rintro _ rfl
   exact ⟨by simp only [In]; omega,⟨by omega,by omega,rfl⟩,by (try dsimp only); omega⟩
 ·rw [show k.toNat=l.length by omega]
  exact h
end
theorem sameFiles_M {a:TX} {K:Bool->Prop} (ha:a.length<=1000) (h:K true):kd a a K:=by
 intro _ _
 refine ⟨fun e=>absurd rfl e,fun _=>⟨fun i=>0<=i/\i<=a.length,fun i=>a.length - i.toNat,⟨by omega,by omega⟩,?_⟩⟩
 rintro i ⟨a0,a1⟩
 refine ⟨fun hi=>⟨by omega,by omega,?_⟩,fun _=>h⟩
 have e:((decide ((a.getD i.toNat ([],[])).1=(a.getD i.toNat ([],[])).1)) && (decide ((a.getD i.toNat ([],[])).2=(a.getD i.toNat ([],[])).2)))=true:=by simp
 show (_/\_)
 rw [e]
 exact ⟨fun q=>(by cases q),fun _=>⟨by simp only [In]; omega,⟨by omega,by omega⟩,by (try dsimp only); omega⟩⟩
def hasF (fs:List FT) (known:List Int):Nat->TL
 | 0=>[]
 | m+1=>hasF fs known m++if (m:Int)∈known then [hexS (fs.getD m fz).2.2] else []
theorem hasF_len (fs:List FT) (known:List Int):∀ m,(hasF fs known m).length<=m
 | 0=>Nat.le_refl _
 | m+1=>by
  have:=hasF_len fs known m
  unfold hasF
  rw [List.length_append]
  split <;> simp <;> omega
theorem same_fate {s:Int} {o k:List UInt8} {K:Bool->Prop} (hk:k.length=32) (h:K true):kG s o k s o k K:=by
 refine ⟨fun b=>b=true,⟨fun _=>sameSum_M hk hk (decide_eq_true rfl),fun e=>?_⟩,fun b hb=>by rw [hb]; exact h⟩
 rw [decide_eq_true rfl,decide_eq_true rfl] at e; cases e
set_option maxHeartbeats 1000000 in
theorem says_pl {l:List GAct} {files:TX} {known:List Int} {K:Bool->Prop} (H:K true):jw l files known K:=by
 intro _ _ _
 refine pfirst_M ⟨fun h=>by simp at h,fun _=>gacts_B fun t ht=>?_⟩
 refine ⟨fun q=>q=false->GSmall l/\files.length<=40/\∀ f∈files,f.1.length<=250/\f.2.length<=3000,⟨fun _ h=>(by cases h),fun e=>files_B fun t2 ht2 h2=>?_⟩,fun q hq=>⟨fun _=>H,fun hc=>?_⟩⟩
 ·have:=ht2 (by simpa using h2)
  exact ⟨ht (by simpa using e),by omega,this.2⟩
 rw [Bool.or_eq_false_iff,Bool.or_eq_false_iff,decide_eq_false_iff_not] at hc
 obtain ⟨hs,f1,f2⟩:=hq hc.1.1
 have hkn:known.length<=30:=by have:=hc.1.2; omega
 have hl:=hs.len
 have hsz:=hs.sz
 refine new_R (by omega) hsz (fun e he hne=>rnew_R (by omega) hsz (fun e' he' hne'=>?_) fun hok=>absurd (he.uniq hok) hne) fun hok=>rnew_R (by omega) hsz (fun e' he' hne'=>absurd (he'.uniq hok) hne') fun _=>?_
 ·have hfc:fC e'≠0:=by
   cases e' with
   | ok=>exact absurd rfl hne'
   | e n=>show (101+(n:Int))≠0; omega
   | at_ p n=>show (101+(n:Int))≠0; omega
  rw [decide_eq_false hne,decide_eq_false hfc]
  exact ⟨fun _=>H,fun h=>by cases h⟩
 have g:=hok.good
 have hty:=hok.ty
 have hfp:∀ f∈files,f.1.length<=1000/\f.2.length<=100000:=fun f hf=>by have:=f2 f hf; omega
 refine ⟨fun h=>by simp at h,fun _=>fates_M hs g hty (by omega) hfp (rfates_M hs g hty (by omega) hfp ⟨fun e=>absurd rfl e,fun _=>?_⟩)⟩
 have la:(kE FQ1 l files).length=l.length:=Zg (F:=FQ1) files g l.length (Nat.le_refl _)
 have hkey:=fates_key files g
 obtain ⟨fs,hfs⟩:∃ fs,kE FQ1 l files=fs:=⟨_,rfl⟩
 rw [hfs] at la hkey |-
 refine ⟨fun i has=>0<=i/\i<=l.length/\has=hasF fs known i.toNat,fun i _=>l.length - i.toNat,⟨by omega,by omega,rfl⟩,?_⟩
 rintro i _ ⟨a0,a1,rfl⟩
 rw [la]
 refine ⟨fun hi=>?_,fun hi=>?_⟩
 ·have hil:i.toNat<l.length:=by omega
  have hK:=hkey i.toNat hil
  have hol:=hasF_len fs known i.toNat
  have hst:hasF fs known (i+1).toNat=hasF fs known i.toNat++if i∈known then [hexS (fs.getD i.toNat fz).2.2] else []:=by
   rw [show (i+1).toNat=i.toNat+1 by omega,hasF,Int.toNat_of_nonneg a0]
  refine ⟨fun h=>h=hasF fs known (i+1).toNat,⟨by omega,by omega,same_fate hK ⟨fun e=>(by cases e),fun _=>amongI_M (by omega) ⟨fun e=>⟨by omega,hex_M hK ⟨by simp only [List.length_cons,List.length_nil]; omega,?_⟩⟩,fun e=>?_⟩⟩⟩,?_⟩
  ·rw [hst,if_pos (of_decide_eq_true e)]; rfl
  ·rw [hst,if_neg (of_decide_eq_false e),List.append_nil]
  ·rintro _ rfl
   exact ⟨by simp only [In]; omega,⟨by omega,by omega,rfl⟩,by (try dsimp only); omega⟩
 ·rw [show i.toNat=l.length by omega]
  have hcl:=hasF_len fs known l.length
  generalize hasF fs known l.length=cap at hcl |-
  refine ⟨fun w k=>0<=k/\k<=l.length/\w=selF fs cap k.toNat,fun _ k=>l.length - k.toNat,⟨by omega,by omega,rfl⟩,?_⟩
  rintro _ k ⟨b0,b1,rfl⟩
  refine ⟨fun hk=>?_,fun hk=>?_⟩
  ·have hkl:k.toNat<l.length:=by omega
   have hol:=selF_len fs cap k.toNat
   have hst:selF fs cap (k+1).toNat=selF fs cap k.toNat++if (fs.getD k.toNat fz).1=1/\hexS (fs.getD k.toNat fz).2.2∉cap then [k] else []:=by
    rw [show (k+1).toNat=k.toNat+1 by omega,selF,Int.toNat_of_nonneg b0]
   have hK:=hkey k.toNat hkl
   refine ⟨fun o=>o=selF fs cap (k+1).toNat,⟨by omega,fun b=>b=decide ((fs.getD k.toNat fz).1=1/\hexS (fs.getD k.toNat fz).2.2∉cap),⟨fun e=>?_,fun e=>?_⟩,?_⟩,?_⟩
   ·have e:(fs.getD k.toNat fz).1=1:=of_decide_eq_true e
    refine ⟨by omega,hex_M hK (amongV_M (by omega) fun t ht=>?_)⟩
    show decide (t<0)=decide ((fs.getD k.toNat fz).1=1/\hexS (fs.getD k.toNat fz).2.2∉cap)
    rw [Bool.eq_iff_iff,decide_eq_true_eq,decide_eq_true_eq]
    have ht2:(0<=t)↔(hexS (fs.getD k.toNat fz).2.2∈cap):=by
     rw [<-decide_eq_true_eq (p:=0<=t),ht,decide_eq_true_eq]; exact Iff.rfl
    exact ⟨fun q=>⟨e,fun hm=>by have:=ht2.2 hm; omega⟩,fun q=>by
     have:¬ 0<=t:=fun h0=>q.2 (ht2.1 h0)
     omega⟩
   ·have e:¬ (fs.getD k.toNat fz).1=1:=of_decide_eq_false e
    exact (decide_eq_false fun q=>e q.1).symm
   ·rintro _ rfl
    refine ⟨fun e=>⟨by simp only [List.length_cons,List.length_nil]; omega,?_⟩,fun e=>?_⟩
    ·rw [hst,if_pos (of_decide_eq_true e)]
    ·rw [hst,if_neg (of_decide_eq_false e),List.append_nil]
   ·rintro _ rfl
    exact ⟨by simp only [In]; omega,⟨by omega,by omega,rfl⟩,by (try dsimp only); omega⟩
  ·rw [show k.toNat=l.length by omega]
   have hsl:=selF_len fs cap l.length
   refine dirty_M hs g hty (by omega) hfp (by omega) ?_
   rw [hfs]
   refine sameInts_M (by omega) ?_
   rw [decide_eq_true rfl]
   refine ⟨fun b=>b=true,⟨fun _=>outputs_M hs g hty (by omega) hfp fun ys hp hy=>routputs_M hs g hty (by omega) hfp hp hy (sameFiles_M (by rw [hp.length_eq]; have:=outF_len l (kE FQ1 l files) l.length; omega) rfl),fun e=>(by cases e)⟩,?_⟩
   rintro _ rfl
   refine ⟨fun b=>b=true,⟨fun _ _ _ _ _ _ _=>⟨by simp only [In]; omega,by simp only [In]; omega,fun _=>⟨by simp only [In]; omega,by simp only [In]; omega,decide_eq_true rfl⟩⟩,fun e=>(by cases e)⟩,?_⟩
   rintro _ rfl
   exact H
theorem says_pl3 {P0 P1 P2:Prop} {l:List GAct} {files:TX} {known:List Int} {K:Bool->Prop} (_:P0) (_:P1) (_:P2) (H:K true):jw l files known K:=says_pl H
end
 end Go.Proofs.YtjobklaengaamaaGreatDoor
