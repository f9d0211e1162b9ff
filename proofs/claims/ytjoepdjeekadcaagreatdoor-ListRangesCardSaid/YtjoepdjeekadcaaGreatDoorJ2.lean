/- Texts of this claim, joined by a program: Mut, Pool, Deep, DeepO, Num0, Num1, Num2, Num3, Num4, Dig, Pv, Num5, Num6, Num7, Num8, Num9, Num10. -/
import Derived.Test.YtjoepdjeekadcaaGreatDoorJ1
namespace Go.Proofs.YtjoepdjeekadcaaGreatDoor

section
open Go Go.RowKit
structure GrL (ps:List (Option Nat)) (w w':World):Prop where
 os:w'.os=w.os
 tape:w'.tape=w.tape
 output:w'.output=w.output
 size:w.heap.size<=w'.heap.size
 block:∀ i,i<w.heap.size->(∀ p,List.Mem p ps->p≠some i)->w'.heap[i]? = w.heap[i]?
def AllP (Q:Option Nat->Prop) (ps:List (Option Nat)):Prop:=∀ p,List.Mem p ps->Q p
theorem apN {Q:Option Nat->Prop}:AllP Q []:=fun _ h=>by cases h
theorem apC {Q:Option Nat->Prop} {p:Option Nat} {ps:List (Option Nat)} (h:Q p) (t:AllP Q ps):AllP Q (p :: ps):=fun x hx=>by
 cases hx with
 | head=>exact h
 | tail _ hx=>exact t x hx
def InP (ps:List (Option Nat)) (n:Nat) (p:Option Nat):Prop:=∀ g,p=some g->n<=g∨List.Mem (some g) ps
section
variable {ps qs:List (Option Nat)} {p p' q row:Option Nat} {n m:Nat} {a b c w w':World}
theorem InP.ge (h:Ge p n):InP ps n p:=fun g hg=>.inl (h g hg)
theorem InP.mem (h:List.Mem p ps):InP ps n p:=fun _ hg=>.inr (hg ▸ h)
theorem InP.none:InP ps n none:=fun _ h=>by cases h
theorem InP.app (h:InP ps n p) (k:∀ g,p'=some g->p=some g∨m<=g) (hm:n<=m):InP ps n p':=fun g hg=>by
 rcases k g hg with h1 | h1
 ·exact h g h1
 ·exact .inl (Nat.le_trans hm h1)
theorem InP.trans (h:InP qs m p) (k:AllP (InP ps n) qs) (hm:n<=m):InP ps n p:=fun g hg=>by
 rcases h g hg with h1 | h1
 ·exact .inl (Nat.le_trans hm h1)
 ·exact k _ h1 g rfl
theorem InP.toGe (h:InP qs m p) (k:AllP (fun q=>Ge q n) qs) (hm:n<=m):Ge p n:=fun g hg=>by
 rcases h g hg with h1 | h1
 ·exact Nat.le_trans hm h1
 ·exact k _ h1 g rfl
theorem InP.dj (h:InP qs m p) (hq:Lt q m) (k:AllP (Dj q) qs):Dj p q:=fun g hg hqg=>by
 rcases h g hg with h1 | h1
 ·have:=hq g hqg; omega
 ·exact k _ h1 g hqg rfl
theorem InP.dn {α:Type} {xs:List α} (h:InP qs m p) (hq:xs≠[]->Lt q m) (k:AllP (Dn xs q) qs):Dn xs q p:=fun hx g hqg hg=>by
 rcases h g hg with h1 | h1
 ·have:=hq hx g hqg; omega
 ·exact k _ h1 hx g hqg rfl
theorem GrL.refl (w:World):GrL ps w w:=⟨rfl,rfl,rfl,Nat.le_refl _,fun _ _ _=>rfl⟩
theorem GrL.of0 (h:w.grownBy w' none):GrL ps w w':=⟨h.os,h.tape,h.output,h.size,fun i hi _=>h.block i hi (by simp)⟩
theorem GrL.of1 (h:w.grownBy w' row):GrL [row] w w':=⟨h.os,h.tape,h.output,h.size,fun i hi k=>h.block i hi fun e=>k row (List.Mem.head _) e.symm⟩
theorem GrL.toL (h:GrL [] w w'):w.grownBy w' none:=⟨h.os,h.tape,h.output,h.size,fun i hi _=>h.block i hi fun _ hp=>by cases hp⟩
theorem GrL.trans (h:GrL ps a b) (k:GrL ps b c):GrL ps a c :=
 ⟨k.os.trans h.os,k.tape.trans h.tape,k.output.trans h.output,Nat.le_trans h.size k.size,fun i hi hp=>(k.block i (Nat.lt_of_lt_of_le hi h.size) hp).trans (h.block i hi hp)⟩
theorem GrL.modL (h:GrL ps a b) (k:GrL qs b c) (hi:AllP (InP ps a.heap.size) qs):GrL ps a c :=
 ⟨k.os.trans h.os,k.tape.trans h.tape,k.output.trans h.output,Nat.le_trans h.size k.size,fun i hl hp=>(k.block i (Nat.lt_of_lt_of_le hl h.size) fun q hq e=>by
  rcases hi q hq i e with h1 | h1
  ·omega
  ·exact hp _ h1 rfl).trans (h.block i hl hp)⟩
theorem GrL.mod (h:GrL ps a b) (k:b.grownBy c row) (hi:InP ps a.heap.size row):GrL ps a c:=h.modL (GrL.of1 k) (apC hi apN)
theorem GrL.add0 (h:GrL ps a b) (k:b.grownBy c none):GrL ps a c:=h.trans (GrL.of0 k)
theorem gr_modL (h:a.grownBy b none) (k:GrL qs b c) (hi:AllP (fun q=>Ge q a.heap.size) qs):a.grownBy c none :=
 (GrL.modL (ps:=[]) (GrL.of0 h) k fun q hq=>InP.ge (hi q hq)).toL
theorem GrL.sizeL (h:GrL ps a b):a.heap.size<=b.heap.size:=h.size
theorem GrL.cell (h:GrL ps w w') {ad:Addr} {v:Value} (hc:w.cell? ad=some v) (hp:∀ p,List.Mem p ps->p≠some ad.block):w'.cell? ad=some v:=by
 have hlt:=World.block_lt_of_cell? w _ hc
 have:=h.block ad.block hlt hp
 unfold World.cell? at hc |-
 rw [this]; exact hc
variable {α:Type} {f:α->Value} {A:Option Addr} {B cc g k:Nat} {xs:List α} {e:TypeId} {us:List Value} {fk:α->List Value}
theorem Bl.goL (h:Bl w g e us) (hg:GrL ps w w') (hd:AllP (Dj (some g)) ps):Bl w' g e us:=(hg.block g h.lt fun p hp e=>hd p hp g rfl e).trans h
theorem Rd.goL (h:Rd f w A cc xs) (hg:GrL ps w w') (hd:AllP (Dn xs (blk A)) ps):Rd f w' A cc xs :=
 ⟨h.cap,h.max,fun hx=>by
  obtain ⟨ad,rfl,hc⟩:=h.cells hx
  refine ⟨ad,rfl,fun j x hj=>hg.cell (hc j x hj) fun p hp e=>?_⟩
  rw [addr_block] at e
  exact hd p hp hx ad.block rfl e⟩
theorem RdK.goL (h:RdK k fk w A cc xs) (hg:GrL ps w w') (hd:AllP (Dn xs (blk A)) ps):RdK k fk w' A cc xs :=
 ⟨h.ok,h.cap,h.max,fun hx=>by
  obtain ⟨g',o,rfl,hc⟩:=h.cells hx
  refine ⟨g',o,rfl,fun j x i u hj hi=>hg.cell (hc j x i u hj hi) fun p hp e=>?_⟩
  exact hd p hp hx g' rfl e⟩
theorem Own.goL (h:Own f w B e A cc xs) (hg:GrL ps w w') (hd:AllP (Dj (blk A)) ps):Own f w' B e A cc xs:=by
 have hlt:=h.lt'
 unfold Own at h |-
 refine ⟨h.1,?_⟩
 rcases h.2 with h2 | ⟨g,cap,cur,hv,hb,hg',r⟩
 ·exact .inl h2
 ·refine .inr ⟨g,cap,cur,hv,hb,?_,r⟩
  simp only [Value.slice.injEq] at hv
  obtain ⟨rfl,_⟩:=hv
  exact (hg.block g (hlt g rfl) fun p hp e=>hd p hp g rfl e).trans hg'
theorem OwnK.goL (h:OwnK k fk w B e A cc xs) (hg:GrL ps w w') (hd:AllP (Dj (blk A)) ps):OwnK k fk w' B e A cc xs:=by
 have hlt:=h.lt'
 refine ⟨h.1,h.2.1,?_⟩
 rcases h.2.2 with h2 | ⟨g,cap,cur,hv,hb,hg',r⟩
 ·exact .inl h2
 ·refine .inr ⟨g,cap,cur,hv,hb,?_,r⟩
  simp only [Value.slice.injEq] at hv
  obtain ⟨rfl,_⟩:=hv
  exact (hg.block g (hlt g rfl) fun p hp e=>hd p hp g rfl e).trans hg'
theorem MapB.goL {κ ν:Type} {mk:κ->Value} {ok:κ->Prop} {fv:ν->Value} {mm:List (κ × ν)} (h:MapB mk ok fv w g mm) (hg:GrL ps w w') (hd:AllP (Dj (some g)) ps):MapB mk ok fv w' g mm:=by
 have hlt:=h.lt
 obtain ⟨es,clock,hb,r⟩:=h
 exact ⟨es,clock,(hg.block g hlt (fun p hp e=>hd p hp g rfl e)).trans hb,r⟩
variable {S:List Nat}
def GB (S:List Nat) (B:Nat) (w:World):Prop:=∃ W,GOK S W/\W.heap.size<=B/\Below W.heap.size W w
theorem GB.ok (h:GB S B w):GOK S w:=by
 obtain ⟨W,h1,_,h3⟩:=h
 exact h1.grown (gr_below h3 none)
theorem GB.of (h:GOK S w):GB S w.heap.size w:=⟨w,h,Nat.le_refl _,Below.refl _ _⟩
theorem belowL {W:World} {n:Nat} (h3:Below n W w) (hn:n<=B) (hg:GrL ps w w') (hp:AllP (fun p=>Ge p B) ps) (hW:n<=W.heap.size):Below n W w':=by
 refine ⟨hg.os.trans h3.os,hg.tape.trans h3.tape,hg.output.trans h3.output,Nat.le_trans h3.size hg.size,fun i hi=>?_⟩
 refine (hg.block i (Nat.lt_of_lt_of_le (Nat.lt_of_lt_of_le hi hW) h3.size) fun p hm e=>?_).trans (h3.block i hi)
 have:=hp p hm i e
 omega
theorem GB.goL (h:GB S B w) (hg:GrL ps w w') (hp:AllP (fun p=>Ge p B) ps):GB S B w':=by
 obtain ⟨W,h1,h2,h3⟩:=h
 exact ⟨W,h1,h2,belowL h3 h2 hg hp (Nat.le_refl _)⟩
theorem GB.g0 (h:GB S B w) (hg:w.grownBy w' none):GB S B w':=h.goL (ps:=[]) (GrL.of0 hg) apN
theorem GB.mono {B':Nat} (h:GB S B w) (hB:B<=B'):GB S B' w:=by
 obtain ⟨W,h1,h2,h3⟩:=h
 exact ⟨W,h1,Nat.le_trans h2 hB,h3⟩
theorem GB.grown {W:World} (h:GOK S W) (hg:W.grownBy w none):GB S W.heap.size w:=⟨W,h,Nat.le_refl _,below_gr hg⟩
def NoAt (w:World) (p:Option Nat):Prop:=∀ g us,p=some g->¬ Bl w g 302 us
theorem NoAt.bl (h:Bl w g e us) (ht:Nat.beq e 302=false):NoAt w (some g):=fun g' us' hg' hB=>by
 cases hg'
 exact Bl.ne h hB (Nat.ne_of_beq_eq_false ht) rfl
theorem NoAt.own (h:Own f w B e A cc xs) (ht:Nat.beq e 302=false):NoAt w (blk A):=fun g' us' hg' hB=>by
 rcases h.2 with ⟨hv,_⟩ | ⟨g,cap,cur,hv,_,hb,_⟩
 ·simp only [Value.slice.injEq] at hv
  obtain ⟨rfl,_⟩:=hv
  cases hg'
 ·simp only [Value.slice.injEq] at hv
  obtain ⟨rfl,_⟩:=hv
  cases hg'
  exact Bl.ne (us:=cur.toList) hb hB (Nat.ne_of_beq_eq_false ht) rfl
theorem NoAt.map {κ ν:Type} {mk:κ->Value} {ok:κ->Prop} {fv:ν->Value} {mm:List (κ × ν)} (h:MapB mk ok fv w g mm):NoAt w (some g):=fun g' us' hg' hB=>by
 cases hg'
 obtain ⟨es,clock,hb,_⟩:=h
 unfold Bl at hB
 rw [hb] at hB
 cases hB
theorem ErrR.goB {v:Value} {er:Er} (h:ErrR S w v er) (hG:GB S B w) (hg:GrL ps w w') (hp:AllP (fun p=>Ge p B) ps) (hn:AllP (NoAt w) ps):ErrR S w' v er:=by
 have key:∀ {v:Value} {n:Nat},ErV w v n->n∈S->ErV w' v n:=fun {v n} hv hS=>by
  obtain ⟨W,h1,h2,h3⟩:=hG
  obtain ⟨u,hu⟩:=h1.er n hS hv.lt
  rw [ErV.uniq hv (hu.grown (gr_below h3 none))]
  exact hu.grown (gr_below (belowL h3 h2 hg hp (Nat.le_refl _)) none)
 cases er with
 | ok=>exact h
 | e n=>exact ⟨key h.1 h.2,h.2⟩
 | at_ pos n =>
  obtain ⟨b,u,k1,k2,k3,k4⟩:=h
  exact ⟨b,u,k1,k2.goL hg fun p hm g' hg' hpe=>by cases hg'; exact hn p hm _ _ hpe k2,key k3 k4,k4⟩
end
end
 
section
open Go Go.RowKit
section
variable {κ ν μ:Type} [DecidableEq κ]
def mmap (g:ν->μ) (m:List (κ × ν)):List (κ × μ):=m.map fun p=>(p.1,g p.2)
theorem mput_mmap (g:ν->μ) (k:κ) (v:ν):∀ m:List (κ × ν),mput (mmap g m) k (g v)=mmap g (mput m k v)
 | []=>rfl
 | p :: m=>by
  show (if p.1=k then (k,g v) :: mmap g m else (p.1,g p.2) :: mput (mmap g m) k (g v))=mmap g (if p.1=k then (k,v) :: m else p :: mput m k v)
  split
  ·rfl
  ·rw [mput_mmap g k v m]; rfl
theorem mget_keys:∀ {a:List (κ × ν)} {b:List (κ × μ)},a.map (·.1)=b.map (·.1)->∀ k,(mget a k).isSome=(mget b k).isSome
 | [],[],_,_=>rfl
 | [],_ :: _,h,_=>by simp at h
 | _ :: _,[],h,_=>by simp at h
 | p :: a,r :: b,h,k=>by
  simp only [List.map_cons,List.cons.injEq] at h
  unfold mget
  rw [h.1]
  split
  ·rfl
  ·exact mget_keys h.2 k
end
abbrev PH:=Nat × Option Nat
def vP (o:Option PH):Value:=.pointer (o.map fun h=>⟨h.1,0,none⟩)
theorem getD_some {α:Type} {o:Option α} {z:α} (h:o.isSome=true):o=some (o.getD z):=by
 cases o with
 | none=>cases h
 | some x=>rfl
section
variable {ps:List (Option Nat)} {Q:Option Nat->Prop} {n m:Nat} {F qs:List (Option Nat)} {q row:Option Nat} {w:World}
theorem InA.mem (h:∀ p,List.Mem p F->List.Mem p ps):AllP (InP ps n) F:=fun p hp=>InP.mem (h p hp)
theorem InA.ge (h:AllP (fun p=>Ge p n) F):AllP (InP ps n) F:=fun p hp=>InP.ge (h p hp)
theorem InA.trans (h:AllP (InP qs m) F) (k:AllP (InP ps n) qs) (hm:n<=m):AllP (InP ps n) F:=fun p hp=>(h p hp).trans k hm
theorem InA.toGe (h:AllP (InP qs m) F) (k:AllP (fun q=>Ge q n) qs) (hm:n<=m):AllP (fun q=>Ge q n) F:=fun p hp=>(h p hp).toGe k hm
theorem InA.dj (h:AllP (InP qs m) F) (hq:Lt q m) (k:AllP (Dj q) qs):AllP (Dj q) F:=fun p hp=>((h p hp).dj hq k).symm
theorem InA.dn {α:Type} {xs:List α} (h:AllP (InP qs m) F) (hq:xs≠[]->Lt q m) (k:AllP (Dn xs q) qs):AllP (Dn xs q) F:=fun p hp=>(h p hp).dn hq k
end
def FP (m:Nat) (hs:List (List UInt8 × PH)) (q0:Option (List UInt8)):List (Option Nat):=some m :: (hs.filter fun h=>decide (some h.1≠q0)).flatMap fun h=>[some h.2.1,h.2.2]
structure PE (X:Type) where
 rel:World->PH->X->Prop
 goL:∀ {w w':World} {h:PH} {x:X} {ps:List (Option Nat)},rel w h x->GrL ps w w'->AllP (Dj (some h.1)) ps->AllP (Dj h.2) ps->rel w' h x
 lt:∀ {w:World} {h:PH} {x:X},rel w h x->Lt (some h.1) w.heap.size/\Lt h.2 w.heap.size
 isc:Nat->Bool
 sc:X->Nat->Value
 hsc:∀ {w:World} {h:PH} {x:X} {o:Nat},isc o=true->rel w h x->w.cell? ⟨h.1,o,none⟩=some (sc x o)
 noat:∀ {w:World} {h:PH} {x:X},rel w h x->NoAt w (some h.1)/\NoAt w h.2
structure jv {X:Type} (d:PE X) (w:World) (m:Nat) (hs:List (List UInt8 × PH)) (fs:List (List UInt8 × X)) (q0:Option (List UInt8)):Prop where
 map:MapB vs okS vP w m (mmap some hs)
 keys:hs.map (·.1)=fs.map (·.1)
 rel:∀ q h x,mget hs q=some h->mget fs q=some x->some q≠q0->d.rel w h x
 dm:∀ q h,mget hs q=some h->some q≠q0->Dj (some m) (some h.1)/\Dj (some m) h.2
 dd:∀ q q' h h',q≠q'->mget hs q=some h->mget hs q'=some h'->some q≠q0->some q'≠q0->Dj (some h.1) (some h'.1)/\Dj (some h.1) h'.2/\Dj h.2 (some h'.1)/\Dj h.2 h'.2
section
variable {X:Type} {d:PE X} {w w':World} {m:Nat} {hs:List (List UInt8 × PH)} {fs:List (List UInt8 × X)} {q0:Option (List UInt8)} {Q:Option Nat->Prop} {ps:List (Option Nat)} {row p:Option Nat} {q:List UInt8} {x x':X} {b:Nat} {r r':Option Nat}
theorem jv.uq (h:jv d w m hs fs q0):Uq hs:=by
 have:=h.map.uq
 unfold Uq mmap at *
 rw [List.map_map] at this
 exact this
theorem jv.some_iff (h:jv d w m hs fs q0) (q:List UInt8):(mget hs q).isSome=(mget fs q).isSome:=mget_keys h.keys q
theorem allFP (hu:Uq hs):AllP Q (FP m hs q0)↔Q (some m)/\∀ q h,mget hs q=some h->some q≠q0->Q (some h.1)/\Q h.2:=by
 constructor
 ·intro h
  refine ⟨h _ (List.Mem.head _),fun q k hk hq=>?_⟩
  have hm:=(mget_mem hu).1 hk
  have hf:(q,k)∈hs.filter fun h=>decide (some h.1≠q0):=List.mem_filter.2 ⟨hm,by simpa using hq⟩
  exact ⟨h _ (List.Mem.tail _ (List.mem_flatMap.2 ⟨_,hf,by simp⟩)),h _ (List.Mem.tail _ (List.mem_flatMap.2 ⟨_,hf,by simp⟩))⟩
 ·rintro ⟨h1,h2⟩ p hp
  cases hp with
  | head=>exact h1
  | tail _ hp =>
   obtain ⟨k,hk,hp⟩:=List.mem_flatMap.1 hp
   obtain ⟨hm,hq⟩:=List.mem_filter.1 hk
   have h3:=h2 k.1 k.2 ((mget_mem hu).2 hm) (by simpa using hq)
   simp only [List.mem_cons,List.not_mem_nil,or_false] at hp
   rcases hp with rfl | rfl
   ·exact h3.1
   ·exact h3.2
theorem jv.goL (h:jv d w m hs fs q0) (hg:GrL ps w w') (hd:AllP (fun r=>AllP (Dj r) (FP m hs q0)) ps):jv d w' m hs fs q0 :=
 ⟨h.map.goL hg fun p hp=>(((allFP h.uq).1 (hd p hp)).1).symm,h.keys,fun q k x hk hx hq=>d.goL (h.rel q k x hk hx hq) hg (fun p hp=>((((allFP h.uq).1 (hd p hp)).2 q k hk hq).1).symm) (fun p hp=>((((allFP h.uq).1 (hd p hp)).2 q k hk hq).2).symm),h.dm,h.dd⟩
theorem jv.go (h:jv d w m hs fs q0) (hg:w.grownBy w' row) (hd:AllP (Dj row) (FP m hs q0)):jv d w' m hs fs q0:=h.goL (GrL.of1 hg) (apC hd apN)
theorem jv.g0 (h:jv d w m hs fs q0) (hg:w.grownBy w' none):jv d w' m hs fs q0:=h.goL (ps:=[]) (GrL.of0 hg) apN
theorem jv.lts (h:jv d w m hs fs q0) (hf:(∀ q,(mget hs q).isSome=(mget fs q).isSome)):AllP (fun p=>Lt p w.heap.size) (FP m hs q0):=(allFP h.uq).2 ⟨h.map.lt',fun q k hk hq=>by
 have h1:=hf q
 rw [hk,Option.isSome_some] at h1
 obtain ⟨x,hx⟩:=Option.isSome_iff_exists.1 h1.symm
 exact d.lt (h.rel q k x hk hx hq)⟩
theorem jv.lt' (h:jv d w m hs fs q0):AllP (fun p=>Lt p w.heap.size) (FP m hs q0):=h.lts h.some_iff
theorem jv.new (h:jv d w m hs fs q0) (hp:Ge p w.heap.size):AllP (Dj p) (FP m hs q0):=fun r hr=>(Dj.new (h.lt' r hr) hp).symm
theorem jv.inp (h:jv d w m hs fs q0) (hp:InP ps w.heap.size p) (hd:AllP (fun r=>AllP (Dj r) (FP m hs q0)) ps):AllP (Dj p) (FP m hs q0):=fun r hr=>InP.dj hp (h.lt' r hr) (fun s hs'=>(hd s hs' r hr).symm)
theorem jv.app {p':Option Nat} (h:jv d w m hs fs q0) (k:AllP (Dj p) (FP m hs q0)) (hk:∀ g,p'=some g->p=some g∨w.heap.size<=g):AllP (Dj p') (FP m hs q0):=fun r hr=>Dj.app (k r hr) (h.lt' r hr) hk
theorem jv.open (h:jv d w m hs fs none) (hx:mget fs q=some x):∃ b r,mget hs q=some (b,r)/\d.rel w (b,r) x/\jv d w m hs fs (some q)/\AllP (Dj (some b)) (FP m hs (some q))/\AllP (Dj r) (FP m hs (some q)):=by
 have h1:=h.some_iff q
 rw [hx,Option.isSome_some] at h1
 obtain ⟨⟨b,r⟩,hk⟩:=Option.isSome_iff_exists.1 h1
 have hm:=h.dm q _ hk (by simp)
 refine ⟨b,r,hk,h.rel q _ x hk hx (by simp),⟨h.map,h.keys,fun q' k y hk' hy _=>h.rel q' k y hk' hy (by simp),fun q' k hk' _=>h.dm q' k hk' (by simp),fun q' q2 k k2 hne hk' hk2 _ _=>h.dd q' q2 k k2 hne hk' hk2 (by simp) (by simp)⟩,?_,?_⟩
 ·refine (allFP h.uq).2 ⟨hm.1.symm,fun q' k hk' hq'=>?_⟩
  have:=h.dd q q' _ k (fun e=>hq' (by rw [e])) hk hk' (by simp) (by simp)
  exact ⟨this.1,this.2.1⟩
 ·refine (allFP h.uq).2 ⟨hm.2.symm,fun q' k hk' hq'=>?_⟩
  have:=h.dd q q' _ k (fun e=>hq' (by rw [e])) hk hk' (by simp) (by simp)
  exact ⟨this.2.2.1,this.2.2.2⟩
theorem jv.sub (h:jv d w m hs fs q0) (k:AllP Q (FP m hs none)):AllP Q (FP m hs (some q)):=(allFP h.uq).2 ⟨((allFP h.uq).1 k).1,fun q' k' hk' _=>((allFP h.uq).1 k).2 q' k' hk' (by simp)⟩
theorem jv.at1 (h:jv d w m hs fs q0) (hk:mget hs q=some (b,r)) (k:AllP Q (FP m hs none)):Q (some b):=(((allFP h.uq).1 k).2 q _ hk (by simp)).1
theorem jv.back (h:jv d w m hs fs (some q)) (hk:mget hs q=some (b,r)) (hx:mget fs q=some x) (hr:d.rel w (b,r) x) (h1:AllP (Dj (some b)) (FP m hs (some q))) (h2:AllP (Dj r) (FP m hs (some q))):jv d w m hs fs none:=by
 have hu:=h.uq
 have h1':=(allFP hu).1 h1
 have h2':=(allFP hu).1 h2
 refine ⟨h.map,h.keys,fun q' k y hk' hy _=>?_,fun q' k hk' _=>?_,fun q1 q2 k1 k2 hne hk1 hk2 _ _=>?_⟩
 ·by_cases e:q'=q
  ·subst e; rw [hk] at hk'; rw [hx] at hy; cases hk'; cases hy; exact hr
  ·exact h.rel q' k y hk' hy (fun e2=>e (Option.some.inj e2))
 ·by_cases e:q'=q
  ·subst e; rw [hk] at hk'; cases hk'; exact ⟨h1'.1.symm,h2'.1.symm⟩
  ·exact h.dm q' k hk' (fun e2=>e (Option.some.inj e2))
 ·by_cases e1:q1=q
  ·subst e1
   rw [hk] at hk1; cases hk1
   have e2:some q2≠some q1:=fun e=>hne (Option.some.inj e).symm
   have a:=h1'.2 q2 k2 hk2 e2
   have c:=h2'.2 q2 k2 hk2 e2
   exact ⟨a.1,a.2,c.1,c.2⟩
  ·by_cases e2:q2=q
   ·subst e2
    rw [hk] at hk2; cases hk2
    have e3:some q1≠some q2:=fun e=>hne (Option.some.inj e)
    have a:=h1'.2 q1 k1 hk1 e3
    have c:=h2'.2 q1 k1 hk1 e3
    exact ⟨a.1.symm,c.1.symm,a.2.symm,c.2.symm⟩
   ·exact h.dd q1 q2 k1 k2 hne hk1 hk2 (fun e=>e1 (Option.some.inj e)) (fun e=>e2 (Option.some.inj e))
theorem jv.put (h:jv d w m hs fs none) (hM:MapB vs okS vP w' m (mput (mmap some hs) q (some (b,r)))) (hg:w.grownBy w' (some m)) (hr:d.rel w (b,r) x) (h1:AllP (Dj (some b)) (FP m hs none)) (h2:AllP (Dj r) (FP m hs none)):jv d w' m (mput hs q (b,r)) (mput fs q x) none:=by
 have hu:=h.uq
 have h1':=(allFP hu).1 h1
 have h2':=(allFP hu).1 h2
 have old:∀ {q' k},mget (mput hs q (b,r)) q'=some k->(q'=q/\k=(b,r))∨(q'≠q/\mget hs q'=some k):=fun {q' k} e=>by
  rw [mget_mput] at e
  split at e
  ·rename_i e2; simp only [Option.some.injEq] at e; exact .inl ⟨e2.symm,e.symm⟩
  ·rename_i e2; exact .inr ⟨fun e3=>e2 e3.symm,e⟩
 have hkeys:(mput hs q (b,r)).map (·.1)=(mput fs q x).map (·.1):=by
  rw [mput_keys,mput_keys,h.some_iff q,h.keys]
 rw [mput_mmap] at hM
 refine ⟨hM,hkeys,?_,?_,?_⟩
 ·intro q' k x0 hk' hx _
  rw [mget_mput] at hx
  rcases old hk' with ⟨rfl,rfl⟩ | ⟨hq',hk'⟩
  ·rw [if_pos rfl] at hx
   cases hx
   exact d.goL hr (GrL.of1 hg) (apC h1'.1 apN) (apC h2'.1 apN)
  ·rw [if_neg (fun e=>hq' e.symm)] at hx
   have hm:=h.dm q' k hk' (by simp)
   exact d.goL (h.rel q' k x0 hk' hx (by simp)) (GrL.of1 hg) (apC hm.1.symm apN) (apC hm.2.symm apN)
 ·intro q' k hk' _
  rcases old hk' with ⟨rfl,rfl⟩ | ⟨hq',hk'⟩
  ·exact ⟨h1'.1.symm,h2'.1.symm⟩
  ·exact h.dm q' k hk' (by simp)
 ·intro q1 q2 k1 k2 hne hk1 hk2 _ _
  rcases old hk1 with ⟨rfl,rfl⟩ | ⟨hq1,hj1⟩ <;> rcases old hk2 with ⟨rfl,rfl⟩ | ⟨hq2,hj2⟩
  ·exact absurd rfl hne
  ·have a:=h1'.2 q2 k2 hj2 (by simp)
   have c:=h2'.2 q2 k2 hj2 (by simp)
   exact ⟨a.1,a.2,c.1,c.2⟩
  ·have a:=h1'.2 q1 k1 hj1 (by simp)
   have c:=h2'.2 q1 k1 hj1 (by simp)
   exact ⟨a.1.symm,c.1.symm,a.2.symm,c.2.symm⟩
  ·exact h.dd q1 q2 k1 k2 hne hj1 hj2 (by simp) (by simp)
theorem jv.empty (d:PE X) (h:MapB vs okS vP w m ([]:List (List UInt8 × Option PH))):jv d w m [] [] none:=⟨h,rfl,fun q k x hk=>by simp [mget] at hk,fun q k hk=>by simp [mget] at hk,fun q q' k k' _ hk=>by simp [mget] at hk⟩
theorem FP.nil (h:Q (some m)):AllP Q (FP m [] q0):=by
 unfold FP
 exact apC h apN
variable {P:Program} {N:Nat} {L:qP} {ty t t' k e:TypeId} {pos:String} {af:Array Edge} {dd:Option Tmp} {y z u:Operand}
end
end
 
section
open Go Go.RowKit
structure Hdr where
 A:Option Addr
 n:Nat
 c:Nat
def hd0:Hdr:=⟨none,0,0⟩
def vh (h:Hdr):Value:=.slice h.A h.n h.c
theorem One.h:One vh:=fun _=>rfl
structure DE (H X:Type) where
 rel:World->H->X->Prop
 dn:H->X->Option Nat->Prop
 goL:∀ {w w':World} {h:H} {x:X} {ps:List (Option Nat)},rel w h x->GrL ps w w'->AllP (dn h x) ps->rel w' h x
 new:∀ {w:World} {h:H} {x:X} {p:Option Nat},rel w h x->Ge p w.heap.size->dn h x p
 app:∀ {w:World} {h:H} {x:X} {ps:List (Option Nat)} {p:Option Nat},rel w h x->AllP (dn h x) ps->InP ps w.heap.size p->dn h x p
def DE.sl {α:Type} (f:α->Value):DE Hdr (List α) where
 rel w h x:=h.n=x.length/\Rd f w h.A h.c x
 dn h x p:=Dn x (blk h.A) p
 goL h k a:=⟨h.1,h.2.goL k a⟩
 new h k:=Dn.new (fun hx=>h.2.lt' hx) k
 app h a k:=InP.dn k (fun hx=>h.2.lt' hx) a
def RelD {H X:Type} (d:DE H X) (w:World) (hs:List H) (xs:List X):Prop:=hs.length=xs.length/\∀ (i:Nat) (h:H) (x:X),hs[i]? = some h->xs[i]? = some x->d.rel w h x
def DnD {H X:Type} (d:DE H X) (hs:List H) (xs:List X) (p:Option Nat):Prop:=∀ (i:Nat) (h:H) (x:X),hs[i]? = some h->xs[i]? = some x->d.dn h x p
section
variable {H X:Type} {d:DE H X} {w w':World} {hs hs':List H} {xs xs':List X} {ps:List (Option Nat)} {p:Option Nat} {i:Nat} {h:H} {x:X} {row:Option Nat}
theorem RelD.goL (k:RelD d w hs xs) (hg:GrL ps w w') (a:AllP (DnD d hs xs) ps):RelD d w' hs xs:=⟨k.1,fun i h x hh hx=>d.goL (k.2 i h x hh hx) hg fun p hp=>a p hp i h x hh hx⟩
theorem RelD.go (k:RelD d w hs xs) (hg:w.grownBy w' row) (a:DnD d hs xs row):RelD d w' hs xs:=k.goL (GrL.of1 hg) (apC a apN)
theorem RelD.grown (k:RelD d w hs xs) (hg:w.grownBy w' none):RelD d w' hs xs:=k.goL (ps:=[]) (GrL.of0 hg) apN
theorem RelD.new (k:RelD d w hs xs) (hp:Ge p w.heap.size):DnD d hs xs p:=fun i h x hh hx=>d.new (k.2 i h x hh hx) hp
theorem RelD.inp (k:RelD d w hs xs) (a:AllP (DnD d hs xs) ps) (hp:InP ps w.heap.size p):DnD d hs xs p:=fun i h x hh hx=>d.app (k.2 i h x hh hx) (fun q hq=>a q hq i h x hh hx) hp
theorem RelD.app {p':Option Nat} (k:RelD d w hs xs) (a:DnD d hs xs p) (hk:∀ g,p'=some g->p=some g∨w.heap.size<=g):DnD d hs xs p':=fun i h x hh hx=>d.app (k.2 i h x hh hx) (ps:=[p]) (apC (a i h x hh hx) apN) (InP.app (ps:=[p]) (InP.mem (List.Mem.head _)) hk (Nat.le_refl _))
theorem RelD.nil:RelD d w [] []:=⟨rfl,fun i h x hh=>by simp at hh⟩
theorem DnD.nil:DnD d [] [] p:=fun i h x hh=>by simp at hh
theorem DnD.none (k:RelD d w hs xs):DnD d hs xs none:=k.new Ge.none
theorem RelD.cons (k:d.rel w h x) (t:RelD d w hs xs):RelD d w (h :: hs) (x :: xs):=⟨by simp [t.1],fun i h' x' hh hx=>by
 cases i with
 | zero=>simp only [List.getElem?_cons_zero,Option.some.injEq] at hh hx; subst hh; subst hx; exact k
 | succ i=>exact t.2 i h' x' (by simpa using hh) (by simpa using hx)⟩
theorem DnD.cons (k:d.dn h x p) (t:DnD d hs xs p):DnD d (h :: hs) (x :: xs) p:=fun i h' x' hh hx=>by
 cases i with
 | zero=>simp only [List.getElem?_cons_zero,Option.some.injEq] at hh hx; subst hh; subst hx; exact k
 | succ i=>exact t i h' x' (by simpa using hh) (by simpa using hx)
theorem RelD.append (k:RelD d w hs xs) (t:RelD d w hs' xs'):RelD d w (hs++hs') (xs++xs'):=⟨by simp [k.1,t.1],fun i h x hh hx=>by
 by_cases hi:i<hs.length
 ·rw [List.getElem?_append_left hi] at hh
  rw [List.getElem?_append_left (by rw [<-k.1]; exact hi)] at hx
  exact k.2 i h x hh hx
 ·rw [List.getElem?_append_right (by omega)] at hh
  rw [List.getElem?_append_right (by rw [<-k.1]; omega),<-k.1] at hx
  exact t.2 _ h x hh hx⟩
theorem DnD.append (hl:hs.length=xs.length) (k:DnD d hs xs p) (t:DnD d hs' xs' p):DnD d (hs++hs') (xs++xs') p:=fun i h x hh hx=>by
 by_cases hi:i<hs.length
 ·rw [List.getElem?_append_left hi] at hh
  rw [List.getElem?_append_left (by rw [<-hl]; exact hi)] at hx
  exact k i h x hh hx
 ·rw [List.getElem?_append_right (by omega)] at hh
  rw [List.getElem?_append_right (by rw [<-hl]; omega),<-hl] at hx
  exact t _ h x hh hx
theorem RelD.set (k:RelD d w hs xs) (t:d.rel w h x) (j:Nat):RelD d w (hs.set j h) (xs.set j x):=⟨by simp [k.1],fun i h' x' hh hx=>by
 rw [List.getElem?_set] at hh hx
 by_cases hj:j=i
 ·subst hj
  rw [if_pos rfl] at hh hx
  split at hh
  ·split at hx
   ·simp only [Option.some.injEq] at hh hx
    subst hh; subst hx; exact t
   ·cases hx
  ·cases hh
 ·rw [if_neg hj] at hh hx
  exact k.2 i h' x' hh hx⟩
theorem DnD.set (k:DnD d hs xs p) (t:d.dn h x p) (j:Nat):DnD d (hs.set j h) (xs.set j x) p:=fun i h' x' hh hx=>by
 rw [List.getElem?_set] at hh hx
 by_cases hj:j=i
 ·subst hj
  rw [if_pos rfl] at hh hx
  split at hh
  ·split at hx
   ·simp only [Option.some.injEq] at hh hx
    subst hh; subst hx; exact t
   ·cases hx
  ·cases hh
 ·rw [if_neg hj] at hh hx
  exact k i h' x' hh hx
def NewD (d:DE H X) (hs:List H) (xs:List X) (n:Nat):Prop:=∀ p:Option Nat,(∀ g,p=some g->g<n)->DnD d hs xs p
theorem NewD.nil {n:Nat}:NewD d [] [] n:=fun _ _=>DnD.nil
theorem NewD.append {n:Nat} (hl:hs.length=xs.length) (a:NewD d hs xs n) (b:NewD d hs' xs' n):NewD d (hs++hs') (xs++xs') n:=fun p hp=>DnD.append hl (a p hp) (b p hp)
theorem NewD.cons {n:Nat} (a:∀ p:Option Nat,(∀ g,p=some g->g<n)->d.dn h x p) (b:NewD d hs xs n):NewD d (h :: hs) (x :: xs) n:=fun p hp=>DnD.cons (a p hp) (b p hp)
theorem NewD.le {n m:Nat} (a:NewD d hs xs n) (h:m<=n):NewD d hs xs m:=fun p hp=>a p fun g e=>Nat.lt_of_lt_of_le (hp g e) h
theorem RelD.drop (k:RelD d w hs xs) (n:Nat):RelD d w (hs.drop n) (xs.drop n):=⟨by simp [k.1],fun i h x hh hx=>k.2 (n+i) h x (by simpa [List.getElem?_drop] using hh) (by simpa [List.getElem?_drop] using hx)⟩
theorem DnD.drop (k:DnD d hs xs p) (n:Nat):DnD d (hs.drop n) (xs.drop n) p:=fun i h x hh hx=>k (n+i) h x (by simpa [List.getElem?_drop] using hh) (by simpa [List.getElem?_drop] using hx)
theorem RelD.take (k:RelD d w hs xs) (n:Nat):RelD d w (hs.take n) (xs.take n):=⟨by simp [k.1],fun i h x hh hx=>by
 rw [List.getElem?_take] at hh hx
 split at hh
 ·rw [if_pos (by assumption)] at hx; exact k.2 i h x hh hx
 ·cases hh⟩
theorem DnD.take (k:DnD d hs xs p) (n:Nat):DnD d (hs.take n) (xs.take n) p:=fun i h x hh hx=>by
 rw [List.getElem?_take] at hh hx
 split at hh
 ·rw [if_pos (by assumption)] at hx; exact k i h x hh hx
 ·cases hh
theorem RelD.at (k:RelD d w hs xs) (dh:H) (dx:X) {j:Nat} (hj:j<xs.length):∃ h,hs.getD j dh=h/\d.rel w h (xs.getD j dx):=by
 have hj2:j<hs.length:=by rw [k.1]; exact hj
 refine ⟨_,rfl,k.2 j _ _ ?_ ?_⟩
 ·simp [List.getD,hj2]
 ·simp [List.getD,hj]
theorem DnD.at (k:DnD d hs xs p) (hl:hs.length=xs.length) {dh:H} {dx:X} {j:Nat} (hj:j<xs.length) {h:H} (hh:hs.getD j dh=h):d.dn h (xs.getD j dx) p:=by
 have hj2:j<hs.length:=by rw [hl]; exact hj
 subst hh
 exact k j _ _ (by simp [List.getD,hj2]) (by simp [List.getD,hj])
end
section
variable {P:Program} {N:Nat} {L:qP} {w:World} {o:Oper} {u v:Value}
theorem qd (h:Yld P N w o L u) (e:u=v):Yld P N w o L v:=e ▸ h
end
section
variable {P:Program} {N:Nat} {L:qP} {w:World}
end
end
 
section
open Go Go.RowKit
abbrev Hd:=Option Addr × Nat
def hz:Hd:=(none,0)
def hA (hs:List Hd) (j:Nat):Option Addr:=(hs.getD j hz).1
def hC (hs:List Hd) (j:Nat):Nat:=(hs.getD j hz).2
def hv {α:Type} (y:List α × Hd):Value:=.slice y.2.1 y.1.length y.2.2
def FPd (A:Option Addr) (hs:List Hd) (q0:Option Nat):List (Option Nat):=blk A :: ((List.range hs.length).filter fun j=>decide (some j≠q0)).map fun j=>blk (hA hs j)
structure jI {α:Type} (f:α->Value) (w:World) (B:Nat) (e e':TypeId) (A:Option Addr) (c:Nat) (hs:List Hd) (xs:List (List α)) (q0:Option Nat):Prop where
 out:Own hv w B e A c (xs.zip hs)
 len:hs.length=xs.length
 inn:∀ j,j<xs.length->some j≠q0->Own f w B e' (hA hs j) (hC hs j) (xs.getD j [])
 dm:∀ j,j<xs.length->some j≠q0->Dj (blk A) (blk (hA hs j))
 dd:∀ i j,i≠j->i<xs.length->j<xs.length->some i≠q0->some j≠q0->Dj (blk (hA hs i)) (blk (hA hs j))
section
variable {α:Type} {f:α->Value} {w w':World} {B n:Nat} {e e':TypeId} {A A':Option Addr} {c c':Nat} {hs:List Hd} {xs:List (List α)} {ys:List α} {q0:Option Nat} {Q:Option Nat->Prop} {ps:List (Option Nat)} {row p:Option Nat} {j:Nat}
theorem allFPd:AllP Q (FPd A hs q0)↔Q (blk A)/\∀ j,j<hs.length->some j≠q0->Q (blk (hA hs j)):=by
 constructor
 ·intro h
  exact ⟨h _ (List.Mem.head _),fun j hj hq=>h _ (List.Mem.tail _ (List.mem_map.2 ⟨j,List.mem_filter.2 ⟨List.mem_range.2 hj,by simpa using hq⟩,rfl⟩))⟩
 ·rintro ⟨h1,h2⟩ p hp
  cases hp with
  | head=>exact h1
  | tail _ hp =>
   obtain ⟨j,hj,rfl⟩:=List.mem_map.1 hp
   obtain ⟨hm,hq⟩:=List.mem_filter.1 hj
   exact h2 j (List.mem_range.1 hm) (by simpa using hq)
theorem jI.goL (h:jI f w B e e' A c hs xs q0) (hg:GrL ps w w') (hd:AllP (fun r=>AllP (Dj r) (FPd A hs q0)) ps):jI f w' B e e' A c hs xs q0 :=
 ⟨h.out.goL hg fun p hp=>((allFPd.1 (hd p hp)).1).symm,h.len,fun j hj hq=>(h.inn j hj hq).goL hg fun p hp=>((allFPd.1 (hd p hp)).2 j (by rw [h.len]; exact hj) hq).symm,h.dm,h.dd⟩
theorem jI.go (h:jI f w B e e' A c hs xs q0) (hg:w.grownBy w' row) (hd:AllP (Dj row) (FPd A hs q0)):jI f w' B e e' A c hs xs q0:=h.goL (GrL.of1 hg) (apC hd apN)
theorem jI.g0 (h:jI f w B e e' A c hs xs q0) (hg:w.grownBy w' none):jI f w' B e e' A c hs xs q0:=h.goL (ps:=[]) (GrL.of0 hg) apN
theorem jI.lt' (h:jI f w B e e' A c hs xs q0):AllP (fun p=>Lt p w.heap.size) (FPd A hs q0):=allFPd.2 ⟨h.out.lt',fun j hj hq=>(h.inn j (by rw [<-h.len]; exact hj) hq).lt'⟩
theorem jI.ge' (h:jI f w B e e' A c hs xs q0):AllP (fun p=>Ge p B) (FPd A hs q0):=allFPd.2 ⟨h.out.ge',fun j hj hq=>(h.inn j (by rw [<-h.len]; exact hj) hq).ge'⟩
theorem jI.new (h:jI f w B e e' A c hs xs q0) (hp:Ge p w.heap.size):AllP (Dj p) (FPd A hs q0):=fun r hr=>(Dj.new (h.lt' r hr) hp).symm
theorem jI.inp (h:jI f w B e e' A c hs xs q0) (hp:InP ps w.heap.size p) (hd:AllP (fun r=>AllP (Dj r) (FPd A hs q0)) ps):AllP (Dj p) (FPd A hs q0):=fun r hr=>InP.dj hp (h.lt' r hr) (fun s hs'=>(hd s hs' r hr).symm)
theorem jI.app {p':Option Nat} (h:jI f w B e e' A c hs xs q0) (k:AllP (Dj p) (FPd A hs q0)) (hk:∀ g,p'=some g->p=some g∨w.heap.size<=g):AllP (Dj p') (FPd A hs q0):=fun r hr=>Dj.app (k r hr) (h.lt' r hr) hk
theorem jI.rd (h:jI f w B e e' A c hs xs none) (hj:j<xs.length):Rd f w (hA hs j) (hC hs j) (xs.getD j []):=(h.inn j hj (by simp)).rd
theorem jI.open (h:jI f w B e e' A c hs xs none) (hj:j<xs.length):Own f w B e' (hA hs j) (hC hs j) (xs.getD j [])/\jI f w B e e' A c hs xs (some j)/\AllP (Dj (blk (hA hs j))) (FPd A hs (some j)):=by
 refine ⟨h.inn j hj (by simp),⟨h.out,h.len,fun i hi _=>h.inn i hi (by simp),fun i hi _=>h.dm i hi (by simp),fun i k hik hi hk _ _=>h.dd i k hik hi hk (by simp) (by simp)⟩,allFPd.2 ⟨(h.dm j hj (by simp)).symm,fun i hi hq=>?_⟩⟩
 exact h.dd j i (fun e=>hq (by rw [e])) hj (by rw [<-h.len]; exact hi) (by simp) (by simp)
theorem FPd.sub (k:AllP Q (FPd A hs none)):AllP Q (FPd A hs (some j)):=allFPd.2 ⟨(allFPd.1 k).1,fun i hi _=>(allFPd.1 k).2 i hi (by simp)⟩
theorem FPd.at (hl:j<hs.length) (k:AllP Q (FPd A hs none)):Q (blk (hA hs j)):=(allFPd.1 k).2 j hl (by simp)
theorem jI.at (h:jI f w B e e' A c hs xs q0) (hj:j<xs.length) (k:AllP Q (FPd A hs none)):Q (blk (hA hs j)):=FPd.at (by rw [h.len]; exact hj) k
theorem jI.sub (h:jI f w B e e' A c hs xs none) (j:Nat):jI f w B e e' A c hs xs (some j):=⟨h.out,h.len,fun i hi _=>h.inn i hi (by simp),fun i hi _=>h.dm i hi (by simp),fun i k hik hi hk _ _=>h.dd i k hik hi hk (by simp) (by simp)⟩
theorem jI.back (h:jI f w B e e' A c hs xs (some j)) (hE:Own f w B e' (hA hs j) (hC hs j) (xs.getD j [])) (hd:AllP (Dj (blk (hA hs j))) (FPd A hs (some j))):jI f w B e e' A c hs xs none:=by
 have hd':=allFPd.1 hd
 refine ⟨h.out,h.len,fun i hi _=>?_,fun i hi _=>?_,fun i k hik hi hk _ _=>?_⟩
 ·by_cases e:i=j
  ·subst e; exact hE
  ·exact h.inn i hi (fun e2=>e (Option.some.inj e2))
 ·by_cases e:i=j
  ·subst e; exact hd'.1.symm
  ·exact h.dm i hi (fun e2=>e (Option.some.inj e2))
 ·by_cases e:i=j
  ·subst e
   exact hd'.2 k (by rw [h.len]; exact hk) (fun e2=>hik (Option.some.inj e2).symm)
  ·by_cases e2:k=j
   ·subst e2
    exact (hd'.2 i (by rw [h.len]; exact hi) (fun e3=>hik (Option.some.inj e3))).symm
   ·exact h.dd i k hik hi hk (fun e3=>e (Option.some.inj e3)) (fun e3=>e2 (Option.some.inj e3))
variable {P:Program} {N:Nat} {L:qP} {ty t:TypeId} {pos:String} {af:Array Edge} {dd:Option Tmp} {x y:Operand} {T:Tab}
end
section
variable {P:Program} {N:Nat} {ops:Array Oper} {fl:Nat->Bool} {D:Nat->World->Prop} {Q:Post} {L:qP} {w:World} {k d:Nat} {ty:TypeId} {pos:String} {af:Array Edge} {rest:List Oper}
theorem WJ.callv {R:Value->World->Prop} {g:FuncId} {x:Operand} {ao:List Operand} {ts:Array TypeId} {vs cs:List Value} (hf:fl k=false) (hd:Nat.blt d N=true) (hx:opv L x=some (.func (.func g) #[] ⟨cs⟩)) (hv:opvs L ao=some vs) (hc:Fn P g ⟨vs++cs⟩ w R) (hD:∀ v w',R v w'->∀ w2,Eqv w' w2->DD .any ops fl D k w2)
  (hk:∀ v w',R v w'->WJ P N ops fl D Q rest (k+1) ((d,v) :: L) w'):WJ P N ops fl D Q (⟨some d,.call ⟨.value x,⟨ao⟩,ts⟩,ty,pos,af,none⟩ :: rest) k L w:=fun a w1 e ha=>by
 unfold wpJ
 rw [hf]
 show sRun _ _ _ _ _ _ _
 unfold sRun
 rw [if_pos (Wants.wanted (o:=⟨some d,.call ⟨.value x,⟨ao⟩,ts⟩,ty,pos,af,none⟩) (L:=L) (N:=N) (ops:=ops) qK ha),run_callv ha hc.1 hx hv]
 refine (hc.2 w1 e).mono ?_
 rintro en w' ⟨v,w0,rfl,h0,hR⟩
 exact ⟨v,rfl,hD v w0 hR w' h0,hk v w0 hR _ w' h0 (ha.put hd v)⟩
end
end
 section
open Go Go.RowKit
attribute [local irreducible] WL WC WX WQ Yld Eff Fn
def val:List Nat->Nat
 | []=>0
 | x :: xs=>x+1000000000*val xs
theorem val_app:∀ a b:List Nat,val (a++b)=val a+1000000000 ^ a.length*val b
 | [],b=>by simp [val]
 | x :: a,b=>by
  have:=val_app a b
  simp only [List.cons_append,val,this,List.length_cons]
  grind
theorem val_one (d:Nat):val [d]=d:=rfl
theorem val_push (a:List Nat) (d:Nat):val (a++[d])=val a+1000000000 ^ a.length*d:=by rw [val_app,val_one]
theorem take_push (l:List Nat) (k:Nat) (h:k<l.length):l.take (k+1)=l.take k++[l.getD k 0]:=by
 rw [List.take_succ_eq_append_getElem h]; simp [List.getD,h]
theorem j4 (l:List Nat) (k:Nat):val (l.take (k+1))=val (l.take k)+1000000000 ^ k*l.getD k 0:=by
 rcases Nat.lt_or_ge k l.length with h | h
 ·rw [take_push l k h,val_push,List.length_take,Nat.min_eq_left (by omega)]
 ·have e:l.getD k 0=0:=by simp [List.getD,List.getElem?_eq_none h]
  rw [List.take_of_length_le (by omega),List.take_of_length_le h,e]
  omega
def Dg (l:List Nat):Prop:=∀ i:Nat,l.getD i 0<1000000000
theorem Dg.nil:Dg []:=fun i=>by simp
theorem Dg.push {l:List Nat} (h:Dg l) {d:Nat} (hd:d<1000000000):Dg (l++[d]):=fun i=>by
 rcases Nat.lt_trichotomy i l.length with h1 | h1 | h1
 ·have:=h i
  simpa [List.getD,List.getElem?_append,h1] using this
 ·subst h1; simpa [List.getD] using hd
 ·have e:(l++[d]).getD i 0=0:=by simp only [List.getD]; rw [List.getElem?_eq_none (by simp; omega)]; rfl
  omega
theorem Dg.take {l:List Nat} (h:Dg l) (k:Nat):Dg (l.take k):=fun i=>by
 rcases Nat.lt_or_ge i k with h1 | h1
 ·have:=h i
  simpa [List.getD,List.getElem?_take,h1] using this
 ·have e:(l.take k).getD i 0=0:=by simp only [List.getD]; rw [List.getElem?_eq_none (by simp; omega)]; rfl
  omega
theorem val_lt {l:List Nat} (h:Dg l):∀ k,val (l.take k)<1000000000 ^ k
 | 0=>by simp [val]
 | k+1=>by
  have h1:=val_lt h k
  have h2:=h k
  rw [j4,Nat.pow_succ]
  generalize 1000000000 ^ k=p at *
  generalize l.getD k 0=d at *
  have:p*d<=p*999999999:=Nat.mul_le_mul_left _ (by omega)
  omega
theorem val_lt' {l:List Nat} (h:Dg l):val l<1000000000 ^ l.length:=by
 have:=val_lt h l.length
 rwa [List.take_of_length_le (Nat.le_refl _)] at this
def Can (l:List Nat):Prop:=l≠[]->l.getD (l.length - 1) 0≠0
theorem val_ge {l:List Nat} (h:Can l) (hl:l≠[]):1000000000 ^ (l.length - 1)<=val l:=by
 have h1:=h hl
 have hp:0<l.length:=List.length_pos_iff.mpr hl
 have e:=j4 l (l.length - 1)
 rw [show l.length - 1+1=l.length by omega,List.take_of_length_le (Nat.le_refl _)] at e
 rw [e]
 generalize 1000000000 ^ (l.length - 1)=p at *
 generalize l.getD (l.length - 1) 0=d at *
 have:p*1<=p*d:=Nat.mul_le_mul_left _ (by omega)
 omega
theorem val_zero {l:List Nat} (h:Can l):val l=0↔l=[]:=by
 constructor
 ·intro e
  rcases Classical.em (l=[]) with h1 | h1
  ·exact h1
  ·have:=val_ge h h1
   have:0<1000000000 ^ (l.length - 1):=Nat.pow_pos (by omega)
   omega
 ·intro e; subst e; rfl
structure Nm (w:World) (v:Value) (z:Int) (m:Nat):Prop where
 at_:∃ (neg:Bool) (A:Option Addr) (c:Nat) (l:List Nat),v=.agg ⟨[.bool neg,.slice A l.length c]⟩/\Rd vd w A c l/\Dg l/\Can l/\l.length<=m/\(neg=true->l≠[])/\z=bif neg then -(val l:Int) else (val l:Int)
theorem Nm.grown {w w':World} {v:Value} {z:Int} {m:Nat} (h:Nm w v z m) (hg:w.grownBy w' none):Nm w' v z m:=by
 obtain ⟨neg,A,c,l,h1,h2,h3⟩:=h
 exact ⟨neg,A,c,l,h1,h2.grown hg,h3⟩
theorem Nm.mono {w:World} {v:Value} {z:Int} {m m':Nat} (h:Nm w v z m) (hm:m<=m'):Nm w v z m':=by
 obtain ⟨neg,A,c,l,h1,h2,h3,h4,h5,h6⟩:=h
 exact ⟨neg,A,c,l,h1,h2,h3,h4,by omega,h6⟩
theorem made_end {w w':World} {g:Nat} {neg:Bool} {A:Option Addr} {c:Nat} {l j:List Nat} (hR:Rd vd w A c j) (hg:w.grownBy w' (some g)) (hA:blk A≠some g∨j=[]) (hD:Dg j) (hC:Can j) (hj:j.length<=l.length) (hv:val j=val l) :
  Nm w' (.agg ⟨[.bool (bif neg then decide ((0:Int)<(j.length:Int)) else false),.slice A j.length c]⟩) (bif neg then -(val l:Int) else (val l:Int)) l.length:=by
 refine ⟨_,A,c,j,rfl,hR.keep' hg (fun hne q hq e=>?_),hD,hC,hj,fun h=>?_,?_⟩
 ·injection hq with hq
  subst hq
  rcases hA with hA | hA
  ·exact hA e
  ·exact hne hA
 ·cases neg
  ·cases h
  ·intro e; subst e; simp at h
 ·rw [<-hv]
  cases neg
  ·rfl
  ·rcases Classical.em (j=[]) with e | e
   ·subst e; rfl
   ·have:0<j.length:=List.length_pos_iff.mpr e
    simp [this]
def Lies (v:Value) (p:Nat->Prop):Prop:=∀ neg A n c,v=.agg ⟨[.bool neg,.slice A n c]⟩->∀ g,blk A=some g->p g
theorem Lies.mk {neg:Bool} {A:Option Addr} {n c:Nat} {p:Nat->Prop} (h:∀ g,blk A=some g->p g):Lies (.agg ⟨[.bool neg,.slice A n c]⟩) p:=fun neg' A' n' c' e=>by
 simp only [Value.agg.injEq,Array.mk.injEq,List.cons.injEq,Value.slice.injEq] at e
 obtain ⟨_,⟨rfl,_⟩,_⟩:=e
 exact h
theorem made_fn' (neg:Bool) (A:Option Addr) (c:Nat) (l:List Nat) (w:World) (hR:Rd vd w A c l) (hD:Dg l) (hl:l.length<=1000000) :
  Fn Tryz.prog 89 ⟨[.bool neg,.slice A l.length c]⟩ w fun v w'=>Nm w' v (bif neg then -(val l:Int) else (val l:Int)) l.length/\w.grownBy w' none/\Lies v (fun q=>blk A=some q):=by
 refine Fn.enter (by kernel_rfl) Tryz.func89 rfl Tryz.ntmps89 rfl ?_
 repeat (first | refine zg ?_ | refine WC.block ?_ | refine zc ?_ | refine zh ?_ | refine za ?_ | refine zt ?_ | refine zy ?_ | refine zx ?_ | refine zm ?_ | refine zi ?_ | refine zf ?_ | refine zn ?_ | refine zk ?_ | refine zl rfl ?_ | refine zv ?_ | refine zw ?_ | refine zj ?_ | refine zp ?_ | refine zo ?_ | refine zd rfl (Yld.sub rfl rfl (by simp only [In]; omega)) ?_ | refine zd rfl (ze qH rfl) ?_ | refine zd rfl (zq rfl rfl rfl) ?_ | refine zJ rfl rfl rfl rfl ?_ | refine zb rfl rfl rfl rfl (Yld.sub rfl rfl (by simp only [In]; omega)) ?_ | refine zb rfl rfl rfl rfl (ze qH rfl) ?_)
 refine WL.alloc rfl qX (fun g w1 hB1 hg1 hl1=>?_)
 repeat (first | refine zg ?_ | refine WC.block ?_ | refine zc ?_ | refine zh ?_ | refine za ?_ | refine zt ?_ | refine zy ?_ | refine zx ?_ | refine zm ?_ | refine zi ?_ | refine zf ?_ | refine zn ?_ | refine zk ?_ | refine zl rfl ?_ | refine zv ?_ | refine zw ?_ | refine zj ?_ | refine zp ?_ | refine zo ?_ | refine zd rfl (Yld.sub rfl rfl (by simp only [In]; omega)) ?_ | refine zd rfl (ze qH rfl) ?_ | refine zd rfl (zq rfl rfl rfl) ?_ | refine zJ rfl rfl rfl rfl ?_ | refine zb rfl rfl rfl rfl (Yld.sub rfl rfl (by simp only [In]; omega)) ?_ | refine zb rfl rfl rfl rfl (ze qH rfl) ?_)
 refine WC.loop3 (fun j _ _=>j.length) (fun j A' c'=>[(1,.slice A' j.length c'),(0,.bool neg),(4,.pointer (some ⟨g,0,none⟩))])
  (fun j A' c' w2=>Dg j/\j.length<=l.length/\val j=val l/\Rd vd w1 A' c' j/\(blk A'≠some g∨j=[])/\(∀ q,blk A'=some q->blk A=some q)/\w2=w1) l A c ⟨hD,by simp,rfl,hR.grown hg1,?_,fun _ e=>e,rfl⟩ (by repeat (first | exact zS | refine Sub.cons rfl ?_)) (fun j A' c' w2 ⟨hDj,hk,hv,hR2,hgA,hbA,hw2⟩=>?_)
 ·rcases Classical.em (l=[]) with e | e
  ·exact .inr e
  ·exact .inl fun q=>by have:=hR.lt e q; omega
 subst hw2
 repeat (first | refine zg ?_ | refine WC.block ?_ | refine zc ?_ | refine zh ?_ | refine za ?_ | refine zt ?_ | refine zy ?_ | refine zx ?_ | refine zm ?_ | refine zi ?_ | refine zf ?_ | refine zn ?_ | refine zk ?_ | refine zl rfl ?_ | refine zv ?_ | refine zw ?_ | refine zj ?_ | refine zp ?_ | refine zo ?_ | refine zd rfl (Yld.sub rfl rfl (by simp only [In]; omega)) ?_ | refine zd rfl (ze qH rfl) ?_ | refine zd rfl (zq rfl rfl rfl) ?_ | refine zJ rfl rfl rfl rfl ?_ | refine zb rfl rfl rfl rfl (Yld.sub rfl rfl (by simp only [In]; omega)) ?_ | refine zb rfl rfl rfl rfl (ze qH rfl) ?_)
 generalize hb:decide ((0:Int)<(j.length:Int))=b
 cases b
 ·simp only [decide_eq_false_iff_not] at hb
  obtain rfl:j=[]:=List.length_eq_zero_iff.mp (by omega)
  have hCj:Can []:=fun h=>absurd rfl h
  repeat (first | refine zg ?_ | refine WC.block ?_ | refine zc ?_ | refine zh ?_ | refine za ?_ | refine zt ?_ | refine zy ?_ | refine zx ?_ | refine zm ?_ | refine zi ?_ | refine zf ?_ | refine zn ?_ | refine zk ?_ | refine zl rfl ?_ | refine zv ?_ | refine zw ?_ | refine zj ?_ | refine zp ?_ | refine zo ?_ | refine zd rfl (Yld.sub rfl rfl (by simp only [In]; omega)) ?_ | refine zd rfl (ze qH rfl) ?_ | refine zd rfl (zq rfl rfl rfl) ?_ | refine zJ rfl rfl rfl rfl ?_ | refine zb rfl rfl rfl rfl (Yld.sub rfl rfl (by simp only [In]; omega)) ?_ | refine zb rfl rfl rfl rfl (ze qH rfl) ?_)
  refine zE rfl (fun h=>by cases h) (fun _=>?_)
  repeat (first | refine zg ?_ | refine WC.block ?_ | refine zc ?_ | refine zh ?_ | refine za ?_ | refine zt ?_ | refine zy ?_ | refine zx ?_ | refine zm ?_ | refine zi ?_ | refine zf ?_ | refine zn ?_ | refine zk ?_ | refine zl rfl ?_ | refine zv ?_ | refine zw ?_ | refine zj ?_ | refine zp ?_ | refine zo ?_ | refine zd rfl (Yld.sub rfl rfl (by simp only [In]; omega)) ?_ | refine zd rfl (ze qH rfl) ?_ | refine zd rfl (zq rfl rfl rfl) ?_ | refine zJ rfl rfl rfl rfl ?_ | refine zb rfl rfl rfl rfl (Yld.sub rfl rfl (by simp only [In]; omega)) ?_ | refine zb rfl rfl rfl rfl (ze qH rfl) ?_)
  cases neg
  ·repeat (first | refine zg ?_ | refine WC.block ?_ | refine zc ?_ | refine zh ?_ | refine za ?_ | refine zt ?_ | refine zy ?_ | refine zx ?_ | refine zm ?_ | refine zi ?_ | refine zf ?_ | refine zn ?_ | refine zk ?_ | refine zl rfl ?_ | refine zv ?_ | refine zw ?_ | refine zj ?_ | refine zp ?_ | refine zo ?_ | refine zd rfl (Yld.sub rfl rfl (by simp only [In]; omega)) ?_ | refine zd rfl (ze qH rfl) ?_ | refine zd rfl (zq rfl rfl rfl) ?_ | refine zJ rfl rfl rfl rfl ?_ | refine zb rfl rfl rfl rfl (Yld.sub rfl rfl (by simp only [In]; omega)) ?_ | refine zb rfl rfl rfl rfl (ze qH rfl) ?_)
   refine zd rfl (z3 (us:=[.bool (bif false then decide ((0:Int)<(([]:List Nat).length:Int)) else false),.slice A' ([]:List Nat).length c']) qX places75 rfl rfl) ?_
   refine zT (vs:=[.bool (bif false then decide ((0:Int)<(([]:List Nat).length:Int)) else false),.slice A' ([]:List Nat).length c']) qH rfl rfl rfl (by intro u hu; simp at hu; rcases hu with rfl | rfl <;> rfl) hB1 rfl rfl (fun w3 hB3 hg3=>?_)
   repeat (first | refine zg ?_ | refine WC.block ?_ | refine zc ?_ | refine zh ?_ | refine za ?_ | refine zt ?_ | refine zy ?_ | refine zx ?_ | refine zm ?_ | refine zi ?_ | refine zf ?_ | refine zn ?_ | refine zk ?_ | refine zl rfl ?_ | refine zv ?_ | refine zw ?_ | refine zj ?_ | refine zp ?_ | refine zo ?_ | refine zd rfl (Yld.sub rfl rfl (by simp only [In]; omega)) ?_ | refine zd rfl (ze qH rfl) ?_ | refine zd rfl (zq rfl rfl rfl) ?_ | refine zJ rfl rfl rfl rfl ?_ | refine zb rfl rfl rfl rfl (Yld.sub rfl rfl (by simp only [In]; omega)) ?_ | refine zb rfl rfl rfl rfl (ze qH rfl) ?_)
   exact qc qH rfl rfl rfl hB3 rfl ⟨made_end hR2 hg3 hgA hDj hCj (by first | exact hk | simp) hv,jp hg1 hg3 hl1,Lies.mk hbA⟩
  ·repeat (first | refine zg ?_ | refine WC.block ?_ | refine zc ?_ | refine zh ?_ | refine za ?_ | refine zt ?_ | refine zy ?_ | refine zx ?_ | refine zm ?_ | refine zi ?_ | refine zf ?_ | refine zn ?_ | refine zk ?_ | refine zl rfl ?_ | refine zv ?_ | refine zw ?_ | refine zj ?_ | refine zp ?_ | refine zo ?_ | refine zd rfl (Yld.sub rfl rfl (by simp only [In]; omega)) ?_ | refine zd rfl (ze qH rfl) ?_ | refine zd rfl (zq rfl rfl rfl) ?_ | refine zJ rfl rfl rfl rfl ?_ | refine zb rfl rfl rfl rfl (Yld.sub rfl rfl (by simp only [In]; omega)) ?_ | refine zb rfl rfl rfl rfl (ze qH rfl) ?_)
   refine zd rfl (z3 (us:=[.bool (bif true then decide ((0:Int)<(([]:List Nat).length:Int)) else false),.slice A' ([]:List Nat).length c']) qX places75 rfl rfl) ?_
   refine zT (vs:=[.bool (bif true then decide ((0:Int)<(([]:List Nat).length:Int)) else false),.slice A' ([]:List Nat).length c']) qH rfl rfl rfl (by intro u hu; simp at hu; rcases hu with rfl | rfl <;> rfl) hB1 rfl rfl (fun w3 hB3 hg3=>?_)
   repeat (first | refine zg ?_ | refine WC.block ?_ | refine zc ?_ | refine zh ?_ | refine za ?_ | refine zt ?_ | refine zy ?_ | refine zx ?_ | refine zm ?_ | refine zi ?_ | refine zf ?_ | refine zn ?_ | refine zk ?_ | refine zl rfl ?_ | refine zv ?_ | refine zw ?_ | refine zj ?_ | refine zp ?_ | refine zo ?_ | refine zd rfl (Yld.sub rfl rfl (by simp only [In]; omega)) ?_ | refine zd rfl (ze qH rfl) ?_ | refine zd rfl (zq rfl rfl rfl) ?_ | refine zJ rfl rfl rfl rfl ?_ | refine zb rfl rfl rfl rfl (Yld.sub rfl rfl (by simp only [In]; omega)) ?_ | refine zb rfl rfl rfl rfl (ze qH rfl) ?_)
   exact qc qH rfl rfl rfl hB3 rfl ⟨made_end hR2 hg3 hgA hDj hCj (by first | exact hk | simp) hv,jp hg1 hg3 hl1,Lies.mk hbA⟩
 ·simp only [decide_eq_true_eq] at hb
  repeat (first | refine zb rfl rfl rfl rfl (qm qH hR2 rfl rfl rfl rfl (by omega) (by omega)) ?_ | refine zb rfl rfl rfl rfl (zQ 0 qH hR2 rfl rfl (by omega)) ?_ | refine zg ?_ | refine WC.block ?_ | refine zc ?_ | refine zh ?_ | refine za ?_ | refine zt ?_ | refine zy ?_ | refine zx ?_ | refine zm ?_ | refine zi ?_ | refine zf ?_ | refine zn ?_ | refine zk ?_ | refine zl rfl ?_ | refine zv ?_ | refine zw ?_ | refine zj ?_ | refine zp ?_ | refine zo ?_ | refine zd rfl (Yld.sub rfl rfl (by simp only [In]; omega)) ?_ | refine zd rfl (ze qH rfl) ?_ | refine zd rfl (zq rfl rfl rfl) ?_ | refine zJ rfl rfl rfl rfl ?_ | refine zb rfl rfl rfl rfl (Yld.sub rfl rfl (by simp only [In]; omega)) ?_ | refine zb rfl rfl rfl rfl (ze qH rfl) ?_)
  have hjt:((j.length:Int) - 1).toNat=j.length - 1:=by omega
  rw [hjt]
  refine zE rfl (fun h=>?_) (fun h=>?_)
  ·simp only [cond_true,decide_eq_true_eq] at h
   repeat (first | refine zg ?_ | refine WC.block ?_ | refine zc ?_ | refine zh ?_ | refine za ?_ | refine zt ?_ | refine zy ?_ | refine zx ?_ | refine zm ?_ | refine zi ?_ | refine zf ?_ | refine zn ?_ | refine zk ?_ | refine zl rfl ?_ | refine zv ?_ | refine zw ?_ | refine zj ?_ | refine zp ?_ | refine zo ?_ | refine zd rfl (Yld.sub rfl rfl (by simp only [In]; omega)) ?_ | refine zd rfl (ze qH rfl) ?_ | refine zd rfl (zq rfl rfl rfl) ?_ | refine zJ rfl rfl rfl rfl ?_ | refine zb rfl rfl rfl rfl (Yld.sub rfl rfl (by simp only [In]; omega)) ?_ | refine zb rfl rfl rfl rfl (ze qH rfl) ?_)
   refine WL.cut qH hR2 rfl rfl rfl rfl rfl rfl (by omega) (by omega) (by omega) (fun A2 c2 hR3 hb3=>?_)
   have he:(j.drop (0:Int).toNat).take (((j.length:Int) - 1).toNat - (0:Int).toNat)=j.take (j.length - 1):=by rw [hjt]; simp
   rw [he] at hR3 |-
   repeat (first | refine zg ?_ | refine WC.block ?_ | refine zc ?_ | refine zh ?_ | refine za ?_ | refine zt ?_ | refine zy ?_ | refine zx ?_ | refine zm ?_ | refine zi ?_ | refine zf ?_ | refine zn ?_ | refine zk ?_ | refine zl rfl ?_ | refine zv ?_ | refine zw ?_ | refine zj ?_ | refine zp ?_ | refine zo ?_ | refine zd rfl (Yld.sub rfl rfl (by simp only [In]; omega)) ?_ | refine zd rfl (ze qH rfl) ?_ | refine zd rfl (zq rfl rfl rfl) ?_ | refine zJ rfl rfl rfl rfl ?_ | refine zb rfl rfl rfl rfl (Yld.sub rfl rfl (by simp only [In]; omega)) ?_ | refine zb rfl rfl rfl rfl (ze qH rfl) ?_)
   refine WX.round3 (j.take (j.length - 1)) A2 c2 ⟨hDj.take _,by rw [List.length_take]; omega,?_,hR3,?_,fun q e=>hbA q (hb3 q e),rfl⟩ (by rw [List.length_take]; omega) (by repeat (first | exact zS | refine Sub.cons rfl ?_))
   ·have e:=j4 j (j.length - 1)
    rw [show j.length - 1+1=j.length by omega,List.take_of_length_le (Nat.le_refl _),show j.getD (j.length - 1) 0=0 by omega] at e
    omega
   ·rcases hgA with h1 | h1
    ·exact .inl fun q=>h1 (hb3 _ q)
    ·subst h1; simp at hb
  ·simp only [cond_true,decide_eq_false_iff_not] at h
   have hCj:Can j:=fun _ e=>h (by rw [e]; rfl)
   repeat (first | refine zg ?_ | refine WC.block ?_ | refine zc ?_ | refine zh ?_ | refine za ?_ | refine zt ?_ | refine zy ?_ | refine zx ?_ | refine zm ?_ | refine zi ?_ | refine zf ?_ | refine zn ?_ | refine zk ?_ | refine zl rfl ?_ | refine zv ?_ | refine zw ?_ | refine zj ?_ | refine zp ?_ | refine zo ?_ | refine zd rfl (Yld.sub rfl rfl (by simp only [In]; omega)) ?_ | refine zd rfl (ze qH rfl) ?_ | refine zd rfl (zq rfl rfl rfl) ?_ | refine zJ rfl rfl rfl rfl ?_ | refine zb rfl rfl rfl rfl (Yld.sub rfl rfl (by simp only [In]; omega)) ?_ | refine zb rfl rfl rfl rfl (ze qH rfl) ?_)
   cases neg
   ·repeat (first | refine zg ?_ | refine WC.block ?_ | refine zc ?_ | refine zh ?_ | refine za ?_ | refine zt ?_ | refine zy ?_ | refine zx ?_ | refine zm ?_ | refine zi ?_ | refine zf ?_ | refine zn ?_ | refine zk ?_ | refine zl rfl ?_ | refine zv ?_ | refine zw ?_ | refine zj ?_ | refine zp ?_ | refine zo ?_ | refine zd rfl (Yld.sub rfl rfl (by simp only [In]; omega)) ?_ | refine zd rfl (ze qH rfl) ?_ | refine zd rfl (zq rfl rfl rfl) ?_ | refine zJ rfl rfl rfl rfl ?_ | refine zb rfl rfl rfl rfl (Yld.sub rfl rfl (by simp only [In]; omega)) ?_ | refine zb rfl rfl rfl rfl (ze qH rfl) ?_)
    refine zd rfl (z3 (us:=[.bool (bif false then decide ((0:Int)<(j.length:Int)) else false),.slice A' j.length c']) qX places75 rfl rfl) ?_
    refine zT (vs:=[.bool (bif false then decide ((0:Int)<(j.length:Int)) else false),.slice A' j.length c']) qH rfl rfl rfl (by intro u hu; simp at hu; rcases hu with rfl | rfl <;> rfl) hB1 rfl rfl (fun w3 hB3 hg3=>?_)
    repeat (first | refine zg ?_ | refine WC.block ?_ | refine zc ?_ | refine zh ?_ | refine za ?_ | refine zt ?_ | refine zy ?_ | refine zx ?_ | refine zm ?_ | refine zi ?_ | refine zf ?_ | refine zn ?_ | refine zk ?_ | refine zl rfl ?_ | refine zv ?_ | refine zw ?_ | refine zj ?_ | refine zp ?_ | refine zo ?_ | refine zd rfl (Yld.sub rfl rfl (by simp only [In]; omega)) ?_ | refine zd rfl (ze qH rfl) ?_ | refine zd rfl (zq rfl rfl rfl) ?_ | refine zJ rfl rfl rfl rfl ?_ | refine zb rfl rfl rfl rfl (Yld.sub rfl rfl (by simp only [In]; omega)) ?_ | refine zb rfl rfl rfl rfl (ze qH rfl) ?_)
    exact qc qH rfl rfl rfl hB3 rfl ⟨made_end hR2 hg3 hgA hDj hCj (by first | exact hk | simp) hv,jp hg1 hg3 hl1,Lies.mk hbA⟩
   ·repeat (first | refine zg ?_ | refine WC.block ?_ | refine zc ?_ | refine zh ?_ | refine za ?_ | refine zt ?_ | refine zy ?_ | refine zx ?_ | refine zm ?_ | refine zi ?_ | refine zf ?_ | refine zn ?_ | refine zk ?_ | refine zl rfl ?_ | refine zv ?_ | refine zw ?_ | refine zj ?_ | refine zp ?_ | refine zo ?_ | refine zd rfl (Yld.sub rfl rfl (by simp only [In]; omega)) ?_ | refine zd rfl (ze qH rfl) ?_ | refine zd rfl (zq rfl rfl rfl) ?_ | refine zJ rfl rfl rfl rfl ?_ | refine zb rfl rfl rfl rfl (Yld.sub rfl rfl (by simp only [In]; omega)) ?_ | refine zb rfl rfl rfl rfl (ze qH rfl) ?_)
    refine zd rfl (z3 (us:=[.bool (bif true then decide ((0:Int)<(j.length:Int)) else false),.slice A' j.length c']) qX places75 rfl rfl) ?_
    refine zT (vs:=[.bool (bif true then decide ((0:Int)<(j.length:Int)) else false),.slice A' j.length c']) qH rfl rfl rfl (by intro u hu; simp at hu; rcases hu with rfl | rfl <;> rfl) hB1 rfl rfl (fun w3 hB3 hg3=>?_)
    repeat (first | refine zg ?_ | refine WC.block ?_ | refine zc ?_ | refine zh ?_ | refine za ?_ | refine zt ?_ | refine zy ?_ | refine zx ?_ | refine zm ?_ | refine zi ?_ | refine zf ?_ | refine zn ?_ | refine zk ?_ | refine zl rfl ?_ | refine zv ?_ | refine zw ?_ | refine zj ?_ | refine zp ?_ | refine zo ?_ | refine zd rfl (Yld.sub rfl rfl (by simp only [In]; omega)) ?_ | refine zd rfl (ze qH rfl) ?_ | refine zd rfl (zq rfl rfl rfl) ?_ | refine zJ rfl rfl rfl rfl ?_ | refine zb rfl rfl rfl rfl (Yld.sub rfl rfl (by simp only [In]; omega)) ?_ | refine zb rfl rfl rfl rfl (ze qH rfl) ?_)
    exact qc qH rfl rfl rfl hB3 rfl ⟨made_end hR2 hg3 hgA hDj hCj (by first | exact hk | simp) hv,jp hg1 hg3 hl1,Lies.mk hbA⟩
theorem js (neg:Bool) (A:Option Addr) (c:Nat) (l:List Nat) (w:World) (hR:Rd vd w A c l) (hD:Dg l) (hl:l.length<=1000000) :
  Fn Tryz.prog 89 ⟨[.bool neg,.slice A l.length c]⟩ w fun v w'=>Nm w' v (bif neg then -(val l:Int) else (val l:Int)) l.length/\w.grownBy w' none:=(made_fn' neg A c l w hR hD hl).mono fun _ _ h=>⟨h.1,h.2.1⟩
end
 section
open Go Go.RowKit
attribute [local irreducible] WL WC WX WQ Yld Eff Fn
theorem getD_ge (l:List Nat) (i:Nat) (h:l.length<=i):l.getD i 0=0:=by simp [List.getD,List.getElem?_eq_none h]
theorem qE {α:Type} {f:α->Value} {w:World} {g:Nat} {e:TypeId} {xs:List α} {m:Nat} (h:Bl w g e (xs.map f)) (hm:xs.length<=m) (h63:m<=maxLen):Rd f w (some ⟨g,0,none⟩) m xs :=
 ⟨hm,h63,fun _=>⟨_,rfl,fun j x hj=>by rw [Addr.add_mid,Nat.zero_add,h.cell]; simp [hj]⟩⟩
theorem plus_step (p d c' c a b o x y:Nat) (h:d+1000000000*c'=c+a+b) (h0:o+c*p=x+y):o+p*d+c'*(p*1000000000)=(x+p*a)+(y+p*b):=by grind
theorem plus_fn' (A:Option Addr) (c:Nat) (la:List Nat) (B:Option Addr) (cb:Nat) (lb:List Nat) (w:World) (hA:Rd vd w A c la) (hB:Rd vd w B cb lb) (hDa:Dg la) (hDb:Dg lb) (hla:la.length<=1000000) (hlb:lb.length<=1000000) :
  Fn Tryz.prog 166 ⟨[.slice A la.length c,.slice B lb.length cb]⟩ w fun v w'=>∃ A' c' o,v=.slice A' o.length c'/\Rd vd w' A' c' o/\Dg o/\val o=val la+val lb/\o.length=max la.length lb.length+1/\w.grownBy w' none/\∀ q,blk A'=some q->w.heap.size<=q/\q<w'.heap.size:=by
 refine Fn.enter (by kernel_rfl) Tryz.func166 rfl Tryz.ntmps166 rfl ?_
 have hmx:(if (lb.length:Int) > (la.length:Int) then (lb.length:Int) else (la.length:Int))=((max la.length lb.length:Nat):Int):=by split <;> omega
 repeat (first | refine zg ?_ | refine WC.block ?_ | refine zc ?_ | refine zh ?_ | refine za ?_ | refine zt ?_ | refine zy ?_ | refine zx ?_ | refine zm ?_ | refine zi ?_ | refine zf ?_ | refine zn ?_ | refine zk ?_ | refine zl rfl ?_ | refine zv ?_ | refine zw ?_ | refine zj ?_ | refine zp ?_ | refine zo ?_ | refine zd rfl (Yld.add rfl rfl (by simp only [In]; omega)) ?_ | refine zd rfl (Yld.sub rfl rfl (by simp only [In]; omega)) ?_ | refine zd rfl (zC rfl rfl (by simp only [In]; omega)) ?_ | refine zd rfl (zr qH rfl rfl rfl rfl) ?_ | refine zd rfl (zu qH rfl rfl rfl (by simp only [In]; omega)) ?_ | refine zd rfl (zz rfl rfl (by omega) (by omega) (by simp only [In]; omega)) ?_ | refine zd rfl (zA rfl rfl (by omega) (by omega)) ?_ | refine zd rfl (zI rfl rfl (by omega)) ?_ | refine zd rfl (zG rfl rfl (by omega)) ?_ | refine zd rfl (ze qH rfl) ?_)
 refine zd rfl (zD rfl rfl) ?_
 rw [hmx]
 generalize hM:max la.length lb.length=M at *
 repeat (first | refine zg ?_ | refine WC.block ?_ | refine zc ?_ | refine zh ?_ | refine za ?_ | refine zt ?_ | refine zy ?_ | refine zx ?_ | refine zm ?_ | refine zi ?_ | refine zf ?_ | refine zn ?_ | refine zk ?_ | refine zl rfl ?_ | refine zv ?_ | refine zw ?_ | refine zj ?_ | refine zp ?_ | refine zo ?_ | refine zd rfl (Yld.add rfl rfl (by simp only [In]; omega)) ?_ | refine zd rfl (Yld.sub rfl rfl (by simp only [In]; omega)) ?_ | refine zd rfl (zC rfl rfl (by simp only [In]; omega)) ?_ | refine zd rfl (zr qH rfl rfl rfl rfl) ?_ | refine zd rfl (zu qH rfl rfl rfl (by simp only [In]; omega)) ?_ | refine zd rfl (zz rfl rfl (by omega) (by omega) (by simp only [In]; omega)) ?_ | refine zd rfl (zA rfl rfl (by omega) (by omega)) ?_ | refine zd rfl (zI rfl rfl (by omega)) ?_ | refine zd rfl (zG rfl rfl (by omega)) ?_ | refine zd rfl (ze qH rfl) ?_ | refine zd rfl (zF qJ rfl rfl rfl) ?_ | refine zd rfl (zD rfl rfl) ?_ | refine zd rfl (zB rfl rfl) ?_ | refine zd rfl (zq rfl rfl rfl) ?_ | refine zJ rfl rfl rfl rfl ?_ | refine zb rfl rfl rfl rfl (Yld.add rfl rfl (by simp only [In]; omega)) ?_ | refine zb rfl rfl rfl rfl (Yld.sub rfl rfl (by simp only [In]; omega)) ?_ | refine zb rfl rfl rfl rfl (zC rfl rfl (by simp only [In]; omega)) ?_ | refine zb rfl rfl rfl rfl (zr qH rfl rfl rfl rfl) ?_ | refine zb rfl rfl rfl rfl (zu qH rfl rfl rfl (by simp only [In]; omega)) ?_ | refine zb rfl rfl rfl rfl (zz rfl rfl (by omega) (by omega) (by simp only [In]; omega)) ?_ | refine zb rfl rfl rfl rfl (zA rfl rfl (by omega) (by omega)) ?_ | refine zb rfl rfl rfl rfl (zI rfl rfl (by omega)) ?_ | refine zb rfl rfl rfl rfl (zG rfl rfl (by omega)) ?_ | refine zb rfl rfl rfl rfl (ze qH rfl) ?_ | refine zb rfl rfl rfl rfl (zF qJ rfl rfl rfl) ?_ | refine zb rfl rfl rfl rfl (zD rfl rfl) ?_ | refine zb rfl rfl rfl rfl (zB rfl rfl) ?_ | refine zb rfl rfl rfl rfl (zq rfl rfl rfl) ?_)
 refine WC.loop5 (S1:=Nat) (S2:=List Nat) (S3:=Option Addr) (S4:=Nat) (S5:=Nat) (fun i _ _ _ _=>M+1 - i)
  (fun i o A' c' k=>[(15,vi i),(14,.int .i64 ((M:Int)+1)),(5,.slice A' o.length c'),(6,vd k),(0,.slice A la.length c),(1,.slice B lb.length cb)])
  (fun i o A' c' k w2=>i<=M+1/\o.length=i/\Dg o/\k<=1/\val o+k*1000000000 ^ i=val (la.take i)+val (lb.take i)/\Own vd w2 w.heap.size 171 A' c' o/\w.grownBy w2 none) 0 [] none 0 0
  ⟨by omega,rfl,Dg.nil,by omega,by simp [val],Own.nil _ _ _ _,qR _ _⟩ (by repeat (first | exact zS | refine Sub.cons rfl ?_)) (fun i o A' c' k w2 ⟨hi,hol,hDo,hk,hv,hO,hg⟩=>?_)
 have hA2:=hA.grown hg
 have hB2:=hB.grown hg
 have hda:=hDa i
 have hdb:=hDb i
 repeat (first | refine zg ?_ | refine WC.block ?_ | refine zc ?_ | refine zh ?_ | refine za ?_ | refine zt ?_ | refine zy ?_ | refine zx ?_ | refine zm ?_ | refine zi ?_ | refine zf ?_ | refine zn ?_ | refine zk ?_ | refine zl rfl ?_ | refine zv ?_ | refine zw ?_ | refine zj ?_ | refine zp ?_ | refine zo ?_ | refine zd rfl (Yld.add rfl rfl (by simp only [In]; omega)) ?_ | refine zd rfl (Yld.sub rfl rfl (by simp only [In]; omega)) ?_ | refine zd rfl (zC rfl rfl (by simp only [In]; omega)) ?_ | refine zd rfl (zr qH rfl rfl rfl rfl) ?_ | refine zd rfl (zu qH rfl rfl rfl (by simp only [In]; omega)) ?_ | refine zd rfl (zz rfl rfl (by omega) (by omega) (by simp only [In]; omega)) ?_ | refine zd rfl (zA rfl rfl (by omega) (by omega)) ?_ | refine zd rfl (zI rfl rfl (by omega)) ?_ | refine zd rfl (zG rfl rfl (by omega)) ?_ | refine zd rfl (ze qH rfl) ?_ | refine zd rfl (zF qJ rfl rfl rfl) ?_ | refine zd rfl (zD rfl rfl) ?_ | refine zd rfl (zB rfl rfl) ?_ | refine zd rfl (zq rfl rfl rfl) ?_ | refine zJ rfl rfl rfl rfl ?_ | refine zb rfl rfl rfl rfl (Yld.add rfl rfl (by simp only [In]; omega)) ?_ | refine zb rfl rfl rfl rfl (Yld.sub rfl rfl (by simp only [In]; omega)) ?_ | refine zb rfl rfl rfl rfl (zC rfl rfl (by simp only [In]; omega)) ?_ | refine zb rfl rfl rfl rfl (zr qH rfl rfl rfl rfl) ?_ | refine zb rfl rfl rfl rfl (zu qH rfl rfl rfl (by simp only [In]; omega)) ?_ | refine zb rfl rfl rfl rfl (zz rfl rfl (by omega) (by omega) (by simp only [In]; omega)) ?_ | refine zb rfl rfl rfl rfl (zA rfl rfl (by omega) (by omega)) ?_ | refine zb rfl rfl rfl rfl (zI rfl rfl (by omega)) ?_ | refine zb rfl rfl rfl rfl (zG rfl rfl (by omega)) ?_ | refine zb rfl rfl rfl rfl (ze qH rfl) ?_ | refine zb rfl rfl rfl rfl (zF qJ rfl rfl rfl) ?_ | refine zb rfl rfl rfl rfl (zD rfl rfl) ?_ | refine zb rfl rfl rfl rfl (zB rfl rfl) ?_ | refine zb rfl rfl rfl rfl (zq rfl rfl rfl) ?_)
 refine zE rfl (fun h=>?_) (fun h=>?_)
 ·simp only [decide_eq_true_eq] at h
  repeat (first | refine zg ?_ | refine WC.block ?_ | refine zc ?_ | refine zh ?_ | refine za ?_ | refine zt ?_ | refine zy ?_ | refine zx ?_ | refine zm ?_ | refine zi ?_ | refine zf ?_ | refine zn ?_ | refine zk ?_ | refine zl rfl ?_ | refine zv ?_ | refine zw ?_ | refine zj ?_ | refine zp ?_ | refine zo ?_ | refine zd rfl (Yld.add rfl rfl (by simp only [In]; omega)) ?_ | refine zd rfl (Yld.sub rfl rfl (by simp only [In]; omega)) ?_ | refine zd rfl (zC rfl rfl (by simp only [In]; omega)) ?_ | refine zd rfl (zr qH rfl rfl rfl rfl) ?_ | refine zd rfl (zu qH rfl rfl rfl (by simp only [In]; omega)) ?_ | refine zd rfl (zz rfl rfl (by omega) (by omega) (by simp only [In]; omega)) ?_ | refine zd rfl (zA rfl rfl (by omega) (by omega)) ?_ | refine zd rfl (zI rfl rfl (by omega)) ?_ | refine zd rfl (zG rfl rfl (by omega)) ?_ | refine zd rfl (ze qH rfl) ?_ | refine zd rfl (zF qJ rfl rfl rfl) ?_ | refine zd rfl (zD rfl rfl) ?_ | refine zd rfl (zB rfl rfl) ?_ | refine zd rfl (zq rfl rfl rfl) ?_ | refine zJ rfl rfl rfl rfl ?_ | refine zb rfl rfl rfl rfl (Yld.add rfl rfl (by simp only [In]; omega)) ?_ | refine zb rfl rfl rfl rfl (Yld.sub rfl rfl (by simp only [In]; omega)) ?_ | refine zb rfl rfl rfl rfl (zC rfl rfl (by simp only [In]; omega)) ?_ | refine zb rfl rfl rfl rfl (zr qH rfl rfl rfl rfl) ?_ | refine zb rfl rfl rfl rfl (zu qH rfl rfl rfl (by simp only [In]; omega)) ?_ | refine zb rfl rfl rfl rfl (zz rfl rfl (by omega) (by omega) (by simp only [In]; omega)) ?_ | refine zb rfl rfl rfl rfl (zA rfl rfl (by omega) (by omega)) ?_ | refine zb rfl rfl rfl rfl (zI rfl rfl (by omega)) ?_ | refine zb rfl rfl rfl rfl (zG rfl rfl (by omega)) ?_ | refine zb rfl rfl rfl rfl (ze qH rfl) ?_ | refine zb rfl rfl rfl rfl (zF qJ rfl rfl rfl) ?_ | refine zb rfl rfl rfl rfl (zD rfl rfl) ?_ | refine zb rfl rfl rfl rfl (zB rfl rfl) ?_ | refine zb rfl rfl rfl rfl (zq rfl rfl rfl) ?_)
  refine WC.merge [(8,.int .u32 ((k:Int)+(la.getD i 0:Nat))),(7,vi i),(15,vi i),(14,.int .i64 ((M:Int)+1)),(5,.slice A' o.length c'),(0,.slice A la.length c),(1,.slice B lb.length cb)] rfl (fun h Q' hQ=>?_) (fun h Q' hQ=>?_) ?_
  ·simp only [decide_eq_true_eq] at h
   repeat (first | refine zd rfl (qr qH hA2 rfl rfl rfl rfl (by omega)) ?_ | refine zd rfl (zQ 0 qH hA2 rfl rfl (by omega)) ?_ | refine zg ?_ | refine WC.block ?_ | refine zc ?_ | refine zh ?_ | refine za ?_ | refine zt ?_ | refine zy ?_ | refine zx ?_ | refine zm ?_ | refine zi ?_ | refine zf ?_ | refine zn ?_ | refine zk ?_ | refine zl rfl ?_ | refine zv ?_ | refine zw ?_ | refine zj ?_ | refine zp ?_ | refine zo ?_ | refine zd rfl (Yld.add rfl rfl (by simp only [In]; omega)) ?_ | refine zd rfl (Yld.sub rfl rfl (by simp only [In]; omega)) ?_ | refine zd rfl (zC rfl rfl (by simp only [In]; omega)) ?_ | refine zd rfl (zr qH rfl rfl rfl rfl) ?_ | refine zd rfl (zu qH rfl rfl rfl (by simp only [In]; omega)) ?_ | refine zd rfl (zz rfl rfl (by omega) (by omega) (by simp only [In]; omega)) ?_ | refine zd rfl (zA rfl rfl (by omega) (by omega)) ?_ | refine zd rfl (zI rfl rfl (by omega)) ?_ | refine zd rfl (zG rfl rfl (by omega)) ?_ | refine zd rfl (ze qH rfl) ?_ | refine zd rfl (zF qJ rfl rfl rfl) ?_ | refine zd rfl (zD rfl rfl) ?_ | refine zd rfl (zB rfl rfl) ?_ | refine zd rfl (zq rfl rfl rfl) ?_ | refine zJ rfl rfl rfl rfl ?_ | refine zb rfl rfl rfl rfl (Yld.add rfl rfl (by simp only [In]; omega)) ?_ | refine zb rfl rfl rfl rfl (Yld.sub rfl rfl (by simp only [In]; omega)) ?_ | refine zb rfl rfl rfl rfl (zC rfl rfl (by simp only [In]; omega)) ?_ | refine zb rfl rfl rfl rfl (zr qH rfl rfl rfl rfl) ?_ | refine zb rfl rfl rfl rfl (zu qH rfl rfl rfl (by simp only [In]; omega)) ?_ | refine zb rfl rfl rfl rfl (zz rfl rfl (by omega) (by omega) (by simp only [In]; omega)) ?_ | refine zb rfl rfl rfl rfl (zA rfl rfl (by omega) (by omega)) ?_ | refine zb rfl rfl rfl rfl (zI rfl rfl (by omega)) ?_ | refine zb rfl rfl rfl rfl (zG rfl rfl (by omega)) ?_ | refine zb rfl rfl rfl rfl (ze qH rfl) ?_ | refine zb rfl rfl rfl rfl (zF qJ rfl rfl rfl) ?_ | refine zb rfl rfl rfl rfl (zD rfl rfl) ?_ | refine zb rfl rfl rfl rfl (zB rfl rfl) ?_ | refine zb rfl rfl rfl rfl (zq rfl rfl rfl) ?_)
   exact WX.weaken (by repeat (first | exact zS | refine Sub.cons rfl ?_)) hQ
  ·simp only [decide_eq_false_iff_not] at h
   repeat (first | refine zg ?_ | refine WC.block ?_ | refine zc ?_ | refine zh ?_ | refine za ?_ | refine zt ?_ | refine zy ?_ | refine zx ?_ | refine zm ?_ | refine zi ?_ | refine zf ?_ | refine zn ?_ | refine zk ?_ | refine zl rfl ?_ | refine zv ?_ | refine zw ?_ | refine zj ?_ | refine zp ?_ | refine zo ?_ | refine zd rfl (Yld.add rfl rfl (by simp only [In]; omega)) ?_ | refine zd rfl (Yld.sub rfl rfl (by simp only [In]; omega)) ?_ | refine zd rfl (zC rfl rfl (by simp only [In]; omega)) ?_ | refine zd rfl (zr qH rfl rfl rfl rfl) ?_ | refine zd rfl (zu qH rfl rfl rfl (by simp only [In]; omega)) ?_ | refine zd rfl (zz rfl rfl (by omega) (by omega) (by simp only [In]; omega)) ?_ | refine zd rfl (zA rfl rfl (by omega) (by omega)) ?_ | refine zd rfl (zI rfl rfl (by omega)) ?_ | refine zd rfl (zG rfl rfl (by omega)) ?_ | refine zd rfl (ze qH rfl) ?_ | refine zd rfl (zF qJ rfl rfl rfl) ?_ | refine zd rfl (zD rfl rfl) ?_ | refine zd rfl (zB rfl rfl) ?_ | refine zd rfl (zq rfl rfl rfl) ?_ | refine zJ rfl rfl rfl rfl ?_ | refine zb rfl rfl rfl rfl (Yld.add rfl rfl (by simp only [In]; omega)) ?_ | refine zb rfl rfl rfl rfl (Yld.sub rfl rfl (by simp only [In]; omega)) ?_ | refine zb rfl rfl rfl rfl (zC rfl rfl (by simp only [In]; omega)) ?_ | refine zb rfl rfl rfl rfl (zr qH rfl rfl rfl rfl) ?_ | refine zb rfl rfl rfl rfl (zu qH rfl rfl rfl (by simp only [In]; omega)) ?_ | refine zb rfl rfl rfl rfl (zz rfl rfl (by omega) (by omega) (by simp only [In]; omega)) ?_ | refine zb rfl rfl rfl rfl (zA rfl rfl (by omega) (by omega)) ?_ | refine zb rfl rfl rfl rfl (zI rfl rfl (by omega)) ?_ | refine zb rfl rfl rfl rfl (zG rfl rfl (by omega)) ?_ | refine zb rfl rfl rfl rfl (ze qH rfl) ?_ | refine zb rfl rfl rfl rfl (zF qJ rfl rfl rfl) ?_ | refine zb rfl rfl rfl rfl (zD rfl rfl) ?_ | refine zb rfl rfl rfl rfl (zB rfl rfl) ?_ | refine zb rfl rfl rfl rfl (zq rfl rfl rfl) ?_)
   rw [getD_ge la i (by omega)] at hQ
   have e0:(k:Int)+((0:Nat):Int)=(k:Int):=by omega
   rw [e0] at hQ
   exact WX.weaken (by repeat (first | exact zS | refine Sub.cons rfl ?_)) hQ
  repeat (first | refine zg ?_ | refine WC.block ?_ | refine zc ?_ | refine zh ?_ | refine za ?_ | refine zt ?_ | refine zy ?_ | refine zx ?_ | refine zm ?_ | refine zi ?_ | refine zf ?_ | refine zn ?_ | refine zk ?_ | refine zl rfl ?_ | refine zv ?_ | refine zw ?_ | refine zj ?_ | refine zp ?_ | refine zo ?_ | refine zd rfl (Yld.add rfl rfl (by simp only [In]; omega)) ?_ | refine zd rfl (Yld.sub rfl rfl (by simp only [In]; omega)) ?_ | refine zd rfl (zC rfl rfl (by simp only [In]; omega)) ?_ | refine zd rfl (zr qH rfl rfl rfl rfl) ?_ | refine zd rfl (zu qH rfl rfl rfl (by simp only [In]; omega)) ?_ | refine zd rfl (zz rfl rfl (by omega) (by omega) (by simp only [In]; omega)) ?_ | refine zd rfl (zA rfl rfl (by omega) (by omega)) ?_ | refine zd rfl (zI rfl rfl (by omega)) ?_ | refine zd rfl (zG rfl rfl (by omega)) ?_ | refine zd rfl (ze qH rfl) ?_ | refine zd rfl (zF qJ rfl rfl rfl) ?_ | refine zd rfl (zD rfl rfl) ?_ | refine zd rfl (zB rfl rfl) ?_ | refine zd rfl (zq rfl rfl rfl) ?_ | refine zJ rfl rfl rfl rfl ?_ | refine zb rfl rfl rfl rfl (Yld.add rfl rfl (by simp only [In]; omega)) ?_ | refine zb rfl rfl rfl rfl (Yld.sub rfl rfl (by simp only [In]; omega)) ?_ | refine zb rfl rfl rfl rfl (zC rfl rfl (by simp only [In]; omega)) ?_ | refine zb rfl rfl rfl rfl (zr qH rfl rfl rfl rfl) ?_ | refine zb rfl rfl rfl rfl (zu qH rfl rfl rfl (by simp only [In]; omega)) ?_ | refine zb rfl rfl rfl rfl (zz rfl rfl (by omega) (by omega) (by simp only [In]; omega)) ?_ | refine zb rfl rfl rfl rfl (zA rfl rfl (by omega) (by omega)) ?_ | refine zb rfl rfl rfl rfl (zI rfl rfl (by omega)) ?_ | refine zb rfl rfl rfl rfl (zG rfl rfl (by omega)) ?_ | refine zb rfl rfl rfl rfl (ze qH rfl) ?_ | refine zb rfl rfl rfl rfl (zF qJ rfl rfl rfl) ?_ | refine zb rfl rfl rfl rfl (zD rfl rfl) ?_ | refine zb rfl rfl rfl rfl (zB rfl rfl) ?_ | refine zb rfl rfl rfl rfl (zq rfl rfl rfl) ?_)
  refine WC.merge [(8,.int .u32 ((k:Int)+(la.getD i 0:Nat)+(lb.getD i 0:Nat))),(15,vi i),(14,.int .i64 ((M:Int)+1)),(5,.slice A' o.length c'),(0,.slice A la.length c),(1,.slice B lb.length cb)] rfl (fun h Q' hQ=>?_) (fun h Q' hQ=>?_) ?_
  ·simp only [decide_eq_true_eq] at h
   repeat (first | refine zd rfl (qr qH hB2 rfl rfl rfl rfl (by omega)) ?_ | refine zd rfl (zQ 0 qH hB2 rfl rfl (by omega)) ?_ | refine zg ?_ | refine WC.block ?_ | refine zc ?_ | refine zh ?_ | refine za ?_ | refine zt ?_ | refine zy ?_ | refine zx ?_ | refine zm ?_ | refine zi ?_ | refine zf ?_ | refine zn ?_ | refine zk ?_ | refine zl rfl ?_ | refine zv ?_ | refine zw ?_ | refine zj ?_ | refine zp ?_ | refine zo ?_ | refine zd rfl (Yld.add rfl rfl (by simp only [In]; omega)) ?_ | refine zd rfl (Yld.sub rfl rfl (by simp only [In]; omega)) ?_ | refine zd rfl (zC rfl rfl (by simp only [In]; omega)) ?_ | refine zd rfl (zr qH rfl rfl rfl rfl) ?_ | refine zd rfl (zu qH rfl rfl rfl (by simp only [In]; omega)) ?_ | refine zd rfl (zz rfl rfl (by omega) (by omega) (by simp only [In]; omega)) ?_ | refine zd rfl (zA rfl rfl (by omega) (by omega)) ?_ | refine zd rfl (zI rfl rfl (by omega)) ?_ | refine zd rfl (zG rfl rfl (by omega)) ?_ | refine zd rfl (ze qH rfl) ?_ | refine zd rfl (zF qJ rfl rfl rfl) ?_ | refine zd rfl (zD rfl rfl) ?_ | refine zd rfl (zB rfl rfl) ?_ | refine zd rfl (zq rfl rfl rfl) ?_ | refine zJ rfl rfl rfl rfl ?_ | refine zb rfl rfl rfl rfl (Yld.add rfl rfl (by simp only [In]; omega)) ?_ | refine zb rfl rfl rfl rfl (Yld.sub rfl rfl (by simp only [In]; omega)) ?_ | refine zb rfl rfl rfl rfl (zC rfl rfl (by simp only [In]; omega)) ?_ | refine zb rfl rfl rfl rfl (zr qH rfl rfl rfl rfl) ?_ | refine zb rfl rfl rfl rfl (zu qH rfl rfl rfl (by simp only [In]; omega)) ?_ | refine zb rfl rfl rfl rfl (zz rfl rfl (by omega) (by omega) (by simp only [In]; omega)) ?_ | refine zb rfl rfl rfl rfl (zA rfl rfl (by omega) (by omega)) ?_ | refine zb rfl rfl rfl rfl (zI rfl rfl (by omega)) ?_ | refine zb rfl rfl rfl rfl (zG rfl rfl (by omega)) ?_ | refine zb rfl rfl rfl rfl (ze qH rfl) ?_ | refine zb rfl rfl rfl rfl (zF qJ rfl rfl rfl) ?_ | refine zb rfl rfl rfl rfl (zD rfl rfl) ?_ | refine zb rfl rfl rfl rfl (zB rfl rfl) ?_ | refine zb rfl rfl rfl rfl (zq rfl rfl rfl) ?_)
   exact WX.weaken (by repeat (first | exact zS | refine Sub.cons rfl ?_)) hQ
  ·simp only [decide_eq_false_iff_not] at h
   repeat (first | refine zg ?_ | refine WC.block ?_ | refine zc ?_ | refine zh ?_ | refine za ?_ | refine zt ?_ | refine zy ?_ | refine zx ?_ | refine zm ?_ | refine zi ?_ | refine zf ?_ | refine zn ?_ | refine zk ?_ | refine zl rfl ?_ | refine zv ?_ | refine zw ?_ | refine zj ?_ | refine zp ?_ | refine zo ?_ | refine zd rfl (Yld.add rfl rfl (by simp only [In]; omega)) ?_ | refine zd rfl (Yld.sub rfl rfl (by simp only [In]; omega)) ?_ | refine zd rfl (zC rfl rfl (by simp only [In]; omega)) ?_ | refine zd rfl (zr qH rfl rfl rfl rfl) ?_ | refine zd rfl (zu qH rfl rfl rfl (by simp only [In]; omega)) ?_ | refine zd rfl (zz rfl rfl (by omega) (by omega) (by simp only [In]; omega)) ?_ | refine zd rfl (zA rfl rfl (by omega) (by omega)) ?_ | refine zd rfl (zI rfl rfl (by omega)) ?_ | refine zd rfl (zG rfl rfl (by omega)) ?_ | refine zd rfl (ze qH rfl) ?_ | refine zd rfl (zF qJ rfl rfl rfl) ?_ | refine zd rfl (zD rfl rfl) ?_ | refine zd rfl (zB rfl rfl) ?_ | refine zd rfl (zq rfl rfl rfl) ?_ | refine zJ rfl rfl rfl rfl ?_ | refine zb rfl rfl rfl rfl (Yld.add rfl rfl (by simp only [In]; omega)) ?_ | refine zb rfl rfl rfl rfl (Yld.sub rfl rfl (by simp only [In]; omega)) ?_ | refine zb rfl rfl rfl rfl (zC rfl rfl (by simp only [In]; omega)) ?_ | refine zb rfl rfl rfl rfl (zr qH rfl rfl rfl rfl) ?_ | refine zb rfl rfl rfl rfl (zu qH rfl rfl rfl (by simp only [In]; omega)) ?_ | refine zb rfl rfl rfl rfl (zz rfl rfl (by omega) (by omega) (by simp only [In]; omega)) ?_ | refine zb rfl rfl rfl rfl (zA rfl rfl (by omega) (by omega)) ?_ | refine zb rfl rfl rfl rfl (zI rfl rfl (by omega)) ?_ | refine zb rfl rfl rfl rfl (zG rfl rfl (by omega)) ?_ | refine zb rfl rfl rfl rfl (ze qH rfl) ?_ | refine zb rfl rfl rfl rfl (zF qJ rfl rfl rfl) ?_ | refine zb rfl rfl rfl rfl (zD rfl rfl) ?_ | refine zb rfl rfl rfl rfl (zB rfl rfl) ?_ | refine zb rfl rfl rfl rfl (zq rfl rfl rfl) ?_)
   rw [getD_ge lb i (by omega)] at hQ
   have e0:∀ z:Int,z+((0:Nat):Int)=z:=by intro z; omega
   rw [e0] at hQ
   exact WX.weaken (by repeat (first | exact zS | refine Sub.cons rfl ?_)) hQ
  repeat (first | refine zg ?_ | refine WC.block ?_ | refine zc ?_ | refine zh ?_ | refine za ?_ | refine zt ?_ | refine zy ?_ | refine zx ?_ | refine zm ?_ | refine zi ?_ | refine zf ?_ | refine zn ?_ | refine zk ?_ | refine zl rfl ?_ | refine zv ?_ | refine zw ?_ | refine zj ?_ | refine zp ?_ | refine zo ?_ | refine zd rfl (Yld.add rfl rfl (by simp only [In]; omega)) ?_ | refine zd rfl (Yld.sub rfl rfl (by simp only [In]; omega)) ?_ | refine zd rfl (zC rfl rfl (by simp only [In]; omega)) ?_ | refine zd rfl (zr qH rfl rfl rfl rfl) ?_ | refine zd rfl (zu qH rfl rfl rfl (by simp only [In]; omega)) ?_ | refine zd rfl (zz rfl rfl (by omega) (by omega) (by simp only [In]; omega)) ?_ | refine zd rfl (zA rfl rfl (by omega) (by omega)) ?_ | refine zd rfl (zI rfl rfl (by omega)) ?_ | refine zd rfl (zG rfl rfl (by omega)) ?_ | refine zd rfl (ze qH rfl) ?_ | refine zd rfl (zF qJ rfl rfl rfl) ?_ | refine zd rfl (zD rfl rfl) ?_ | refine zd rfl (zB rfl rfl) ?_ | refine zd rfl (zq rfl rfl rfl) ?_ | refine zJ rfl rfl rfl rfl ?_ | refine zb rfl rfl rfl rfl (Yld.add rfl rfl (by simp only [In]; omega)) ?_ | refine zb rfl rfl rfl rfl (Yld.sub rfl rfl (by simp only [In]; omega)) ?_ | refine zb rfl rfl rfl rfl (zC rfl rfl (by simp only [In]; omega)) ?_ | refine zb rfl rfl rfl rfl (zr qH rfl rfl rfl rfl) ?_ | refine zb rfl rfl rfl rfl (zu qH rfl rfl rfl (by simp only [In]; omega)) ?_ | refine zb rfl rfl rfl rfl (zz rfl rfl (by omega) (by omega) (by simp only [In]; omega)) ?_ | refine zb rfl rfl rfl rfl (zA rfl rfl (by omega) (by omega)) ?_ | refine zb rfl rfl rfl rfl (zI rfl rfl (by omega)) ?_ | refine zb rfl rfl rfl rfl (zG rfl rfl (by omega)) ?_ | refine zb rfl rfl rfl rfl (ze qH rfl) ?_ | refine zb rfl rfl rfl rfl (zF qJ rfl rfl rfl) ?_ | refine zb rfl rfl rfl rfl (zD rfl rfl) ?_ | refine zb rfl rfl rfl rfl (zB rfl rfl) ?_ | refine zb rfl rfl rfl rfl (zq rfl rfl rfl) ?_)
  have hv1:=j4 la i
  have hv2:=j4 lb i
  generalize la.getD i 0=a at *
  generalize lb.getD i 0=b at *
  have hd:((k:Int)+(a:Nat)+(b:Nat)) % 1000000000=(((k+a+b) % 1000000000:Nat):Int):=by omega
  have hq:((k:Int)+(a:Nat)+(b:Nat)) / 1000000000=(((k+a+b) / 1000000000:Nat):Int):=by omega
  rw [hd]
  refine qg (us:=[vd ((k+a+b) % 1000000000)]) qH rfl rfl rfl (by intro u hu; rw [List.mem_singleton] at hu; rw [hu]; rfl) rfl (by omega) (fun g w3 hL3 hg3 hl3=>?_)
  have hR3:Rd vd w3 (some ⟨g,0,none⟩) 1 [(k+a+b) % 1000000000]:=qE hL3 (by simp) (by simp [maxLen])
  have hO3:=hO.grown hg3
  have hz2:=hg.size
  have hz3:=hg3.size
  have hMl:M<=1000000:=by omega
  refine qo qH rfl rfl One.d hO3 rfl rfl hR3 rfl rfl (by simp only [List.length_cons,List.length_nil]; omega) (by simp only [maxLen,List.length_cons,List.length_nil]; omega) (by omega) (fun A4 c4 w4 hO4 hg4 hf4=>?_)
  repeat (first | refine zg ?_ | refine WC.block ?_ | refine zc ?_ | refine zh ?_ | refine za ?_ | refine zt ?_ | refine zy ?_ | refine zx ?_ | refine zm ?_ | refine zi ?_ | refine zf ?_ | refine zn ?_ | refine zk ?_ | refine zl rfl ?_ | refine zv ?_ | refine zw ?_ | refine zj ?_ | refine zp ?_ | refine zo ?_ | refine zd rfl (Yld.add rfl rfl (by simp only [In]; omega)) ?_ | refine zd rfl (Yld.sub rfl rfl (by simp only [In]; omega)) ?_ | refine zd rfl (zC rfl rfl (by simp only [In]; omega)) ?_ | refine zd rfl (zr qH rfl rfl rfl rfl) ?_ | refine zd rfl (zu qH rfl rfl rfl (by simp only [In]; omega)) ?_ | refine zd rfl (zz rfl rfl (by omega) (by omega) (by simp only [In]; omega)) ?_ | refine zd rfl (zA rfl rfl (by omega) (by omega)) ?_ | refine zd rfl (zI rfl rfl (by omega)) ?_ | refine zd rfl (zG rfl rfl (by omega)) ?_ | refine zd rfl (ze qH rfl) ?_ | refine zd rfl (zF qJ rfl rfl rfl) ?_ | refine zd rfl (zD rfl rfl) ?_ | refine zd rfl (zB rfl rfl) ?_ | refine zd rfl (zq rfl rfl rfl) ?_ | refine zJ rfl rfl rfl rfl ?_ | refine zb rfl rfl rfl rfl (Yld.add rfl rfl (by simp only [In]; omega)) ?_ | refine zb rfl rfl rfl rfl (Yld.sub rfl rfl (by simp only [In]; omega)) ?_ | refine zb rfl rfl rfl rfl (zC rfl rfl (by simp only [In]; omega)) ?_ | refine zb rfl rfl rfl rfl (zr qH rfl rfl rfl rfl) ?_ | refine zb rfl rfl rfl rfl (zu qH rfl rfl rfl (by simp only [In]; omega)) ?_ | refine zb rfl rfl rfl rfl (zz rfl rfl (by omega) (by omega) (by simp only [In]; omega)) ?_ | refine zb rfl rfl rfl rfl (zA rfl rfl (by omega) (by omega)) ?_ | refine zb rfl rfl rfl rfl (zI rfl rfl (by omega)) ?_ | refine zb rfl rfl rfl rfl (zG rfl rfl (by omega)) ?_ | refine zb rfl rfl rfl rfl (ze qH rfl) ?_ | refine zb rfl rfl rfl rfl (zF qJ rfl rfl rfl) ?_ | refine zb rfl rfl rfl rfl (zD rfl rfl) ?_ | refine zb rfl rfl rfl rfl (zB rfl rfl) ?_ | refine zb rfl rfl rfl rfl (zq rfl rfl rfl) ?_)
  rw [hq]
  refine WX.round5 (i+1) (o++[(k+a+b) % 1000000000]) A4 c4 ((k+a+b) / 1000000000) ⟨by omega,by simp [hol],hDo.push (by omega),by omega,?_,hO4,gr_own (qI hg hg3) hO3 hg4 (Nat.le_refl _)⟩ (by omega) (by repeat (first | exact zS | refine Sub.cons rfl ?_))
  rw [val_push,hol,hv1,hv2,Nat.pow_succ]
  exact plus_step _ _ _ k a b _ _ _ (by omega) hv
 ·simp only [decide_eq_false_iff_not] at h
  obtain rfl:i=M+1:=by omega
  rw [List.take_of_length_le (by omega),List.take_of_length_le (by omega)] at hv
  repeat (first | refine zg ?_ | refine WC.block ?_ | refine zc ?_ | refine zh ?_ | refine za ?_ | refine zt ?_ | refine zy ?_ | refine zx ?_ | refine zm ?_ | refine zi ?_ | refine zf ?_ | refine zn ?_ | refine zk ?_ | refine zl rfl ?_ | refine zv ?_ | refine zw ?_ | refine zj ?_ | refine zp ?_ | refine zo ?_ | refine zd rfl (Yld.add rfl rfl (by simp only [In]; omega)) ?_ | refine zd rfl (Yld.sub rfl rfl (by simp only [In]; omega)) ?_ | refine zd rfl (zC rfl rfl (by simp only [In]; omega)) ?_ | refine zd rfl (zr qH rfl rfl rfl rfl) ?_ | refine zd rfl (zu qH rfl rfl rfl (by simp only [In]; omega)) ?_ | refine zd rfl (zz rfl rfl (by omega) (by omega) (by simp only [In]; omega)) ?_ | refine zd rfl (zA rfl rfl (by omega) (by omega)) ?_ | refine zd rfl (zI rfl rfl (by omega)) ?_ | refine zd rfl (zG rfl rfl (by omega)) ?_ | refine zd rfl (ze qH rfl) ?_ | refine zd rfl (zF qJ rfl rfl rfl) ?_ | refine zd rfl (zD rfl rfl) ?_ | refine zd rfl (zB rfl rfl) ?_ | refine zd rfl (zq rfl rfl rfl) ?_ | refine zJ rfl rfl rfl rfl ?_ | refine zb rfl rfl rfl rfl (Yld.add rfl rfl (by simp only [In]; omega)) ?_ | refine zb rfl rfl rfl rfl (Yld.sub rfl rfl (by simp only [In]; omega)) ?_ | refine zb rfl rfl rfl rfl (zC rfl rfl (by simp only [In]; omega)) ?_ | refine zb rfl rfl rfl rfl (zr qH rfl rfl rfl rfl) ?_ | refine zb rfl rfl rfl rfl (zu qH rfl rfl rfl (by simp only [In]; omega)) ?_ | refine zb rfl rfl rfl rfl (zz rfl rfl (by omega) (by omega) (by simp only [In]; omega)) ?_ | refine zb rfl rfl rfl rfl (zA rfl rfl (by omega) (by omega)) ?_ | refine zb rfl rfl rfl rfl (zI rfl rfl (by omega)) ?_ | refine zb rfl rfl rfl rfl (zG rfl rfl (by omega)) ?_ | refine zb rfl rfl rfl rfl (ze qH rfl) ?_ | refine zb rfl rfl rfl rfl (zF qJ rfl rfl rfl) ?_ | refine zb rfl rfl rfl rfl (zD rfl rfl) ?_ | refine zb rfl rfl rfl rfl (zB rfl rfl) ?_ | refine zb rfl rfl rfl rfl (zq rfl rfl rfl) ?_)
  have hk0:k=0:=by
   have h1:=val_lt' hDa
   have h2:=val_lt' hDb
   have h3:1000000000 ^ la.length<=1000000000 ^ M:=Nat.pow_le_pow_right (by omega) (by omega)
   have h4:1000000000 ^ lb.length<=1000000000 ^ M:=Nat.pow_le_pow_right (by omega) (by omega)
   rw [Nat.pow_succ] at hv
   rcases Nat.lt_or_ge k 1 with h5 | h5
   ·omega
   ·have:1*(1000000000 ^ M*1000000000)<=k*(1000000000 ^ M*1000000000):=Nat.mul_le_mul_right _ h5
    omega
  subst hk0
  refine zM rfl rfl ⟨A',c',o,rfl,hO.rd,hDo,by omega,hol,hg,fun q hq=>hO.lt hq⟩
theorem plus_fn (A:Option Addr) (c:Nat) (la:List Nat) (B:Option Addr) (cb:Nat) (lb:List Nat) (w:World) (hA:Rd vd w A c la) (hB:Rd vd w B cb lb) (hDa:Dg la) (hDb:Dg lb) (hla:la.length<=1000000) (hlb:lb.length<=1000000) :
  Fn Tryz.prog 166 ⟨[.slice A la.length c,.slice B lb.length cb]⟩ w fun v w'=>∃ A' c' o,v=.slice A' o.length c'/\Rd vd w' A' c' o/\Dg o/\val o=val la+val lb/\o.length=max la.length lb.length+1/\w.grownBy w' none :=
 (plus_fn' A c la B cb lb w hA hB hDa hDb hla hlb).mono fun _ _ ⟨A',c',o,h1,h2,h3,h4,h5,h6,_⟩=>⟨A',c',o,h1,h2,h3,h4,h5,h6⟩
end
 section
open Go Go.RowKit
attribute [local irreducible] WL WC WX WQ Yld Eff Fn
theorem minus_step (p d c' c a b o x y:Nat) (h:d+b+c=a+1000000000*c') (h0:o+y=x+c*p):o+p*d+(y+p*b)=(x+p*a)+c'*(p*1000000000):=by grind
theorem minus_fn' (A:Option Addr) (c:Nat) (la:List Nat) (B:Option Addr) (cb:Nat) (lb:List Nat) (w:World) (hA:Rd vd w A c la) (hB:Rd vd w B cb lb) (hDa:Dg la) (hDb:Dg lb) (hla:la.length<=1000000) (hlb:lb.length<=la.length) (hle:val lb<=val la) :
  Fn Tryz.prog 167 ⟨[.slice A la.length c,.slice B lb.length cb]⟩ w fun v w'=>∃ A' c' o,v=.slice A' o.length c'/\Rd vd w' A' c' o/\Dg o/\val o+val lb=val la/\o.length=la.length/\w.grownBy w' none/\∀ q,blk A'=some q->w.heap.size<=q/\q<w'.heap.size:=by
 refine Fn.enter (by kernel_rfl) Tryz.func167 rfl Tryz.ntmps167 rfl ?_
 repeat (first | refine zg ?_ | refine WC.block ?_ | refine zc ?_ | refine zh ?_ | refine za ?_ | refine zt ?_ | refine zy ?_ | refine zx ?_ | refine zm ?_ | refine zi ?_ | refine zf ?_ | refine zn ?_ | refine zk ?_ | refine zl rfl ?_ | refine zv ?_ | refine zw ?_ | refine zj ?_ | refine zp ?_ | refine zo ?_ | refine zd rfl (Yld.add rfl rfl (by simp only [In]; omega)) ?_ | refine zd rfl (Yld.sub rfl rfl (by simp only [In]; omega)) ?_ | refine zd rfl (zC rfl rfl (by simp only [In]; omega)) ?_ | refine zd rfl (zr qH rfl rfl rfl rfl) ?_ | refine zd rfl (zu qH rfl rfl rfl (by simp only [In]; omega)) ?_ | refine zd rfl (zz rfl rfl (by omega) (by omega) (by simp only [In]; omega)) ?_ | refine zd rfl (zA rfl rfl (by omega) (by omega)) ?_ | refine zd rfl (zI rfl rfl (by omega)) ?_ | refine zd rfl (zG rfl rfl (by omega)) ?_ | refine zd rfl (ze qH rfl) ?_ | refine zd rfl (zF qJ rfl rfl rfl) ?_ | refine zd rfl (zD rfl rfl) ?_ | refine zd rfl (zB rfl rfl) ?_ | refine zd rfl (zq rfl rfl rfl) ?_ | refine zJ rfl rfl rfl rfl ?_ | refine zb rfl rfl rfl rfl (Yld.add rfl rfl (by simp only [In]; omega)) ?_ | refine zb rfl rfl rfl rfl (Yld.sub rfl rfl (by simp only [In]; omega)) ?_ | refine zb rfl rfl rfl rfl (zC rfl rfl (by simp only [In]; omega)) ?_ | refine zb rfl rfl rfl rfl (zr qH rfl rfl rfl rfl) ?_ | refine zb rfl rfl rfl rfl (zu qH rfl rfl rfl (by simp only [In]; omega)) ?_ | refine zb rfl rfl rfl rfl (zz rfl rfl (by omega) (by omega) (by simp only [In]; omega)) ?_ | refine zb rfl rfl rfl rfl (zA rfl rfl (by omega) (by omega)) ?_ | refine zb rfl rfl rfl rfl (zI rfl rfl (by omega)) ?_ | refine zb rfl rfl rfl rfl (zG rfl rfl (by omega)) ?_ | refine zb rfl rfl rfl rfl (ze qH rfl) ?_ | refine zb rfl rfl rfl rfl (zF qJ rfl rfl rfl) ?_ | refine zb rfl rfl rfl rfl (zD rfl rfl) ?_ | refine zb rfl rfl rfl rfl (zB rfl rfl) ?_ | refine zb rfl rfl rfl rfl (zq rfl rfl rfl) ?_)
 refine WC.loop5 (S1:=Nat) (S2:=List Nat) (S3:=Option Addr) (S4:=Nat) (S5:=Nat) (fun i _ _ _ _=>la.length - i)
  (fun i o A' c' k=>[(11,vi i),(10,vi la.length),(5,.slice A' o.length c'),(6,vd k),(0,.slice A la.length c),(1,.slice B lb.length cb)])
  (fun i o A' c' k w2=>i<=la.length/\o.length=i/\Dg o/\k<=1/\val o+val (lb.take i)=val (la.take i)+k*1000000000 ^ i/\Own vd w2 w.heap.size 171 A' c' o/\w.grownBy w2 none) 0 [] none 0 0
  ⟨by omega,rfl,Dg.nil,by omega,by simp [val],Own.nil _ _ _ _,qR _ _⟩ (by repeat (first | exact zS | refine Sub.cons rfl ?_)) (fun i o A' c' k w2 ⟨hi,hol,hDo,hk,hv,hO,hg⟩=>?_)
 have hA2:=hA.grown hg
 have hB2:=hB.grown hg
 have hda:=hDa i
 have hdb:=hDb i
 repeat (first | refine zg ?_ | refine WC.block ?_ | refine zc ?_ | refine zh ?_ | refine za ?_ | refine zt ?_ | refine zy ?_ | refine zx ?_ | refine zm ?_ | refine zi ?_ | refine zf ?_ | refine zn ?_ | refine zk ?_ | refine zl rfl ?_ | refine zv ?_ | refine zw ?_ | refine zj ?_ | refine zp ?_ | refine zo ?_ | refine zd rfl (Yld.add rfl rfl (by simp only [In]; omega)) ?_ | refine zd rfl (Yld.sub rfl rfl (by simp only [In]; omega)) ?_ | refine zd rfl (zC rfl rfl (by simp only [In]; omega)) ?_ | refine zd rfl (zr qH rfl rfl rfl rfl) ?_ | refine zd rfl (zu qH rfl rfl rfl (by simp only [In]; omega)) ?_ | refine zd rfl (zz rfl rfl (by omega) (by omega) (by simp only [In]; omega)) ?_ | refine zd rfl (zA rfl rfl (by omega) (by omega)) ?_ | refine zd rfl (zI rfl rfl (by omega)) ?_ | refine zd rfl (zG rfl rfl (by omega)) ?_ | refine zd rfl (ze qH rfl) ?_ | refine zd rfl (zF qJ rfl rfl rfl) ?_ | refine zd rfl (zD rfl rfl) ?_ | refine zd rfl (zB rfl rfl) ?_ | refine zd rfl (zq rfl rfl rfl) ?_ | refine zJ rfl rfl rfl rfl ?_ | refine zb rfl rfl rfl rfl (Yld.add rfl rfl (by simp only [In]; omega)) ?_ | refine zb rfl rfl rfl rfl (Yld.sub rfl rfl (by simp only [In]; omega)) ?_ | refine zb rfl rfl rfl rfl (zC rfl rfl (by simp only [In]; omega)) ?_ | refine zb rfl rfl rfl rfl (zr qH rfl rfl rfl rfl) ?_ | refine zb rfl rfl rfl rfl (zu qH rfl rfl rfl (by simp only [In]; omega)) ?_ | refine zb rfl rfl rfl rfl (zz rfl rfl (by omega) (by omega) (by simp only [In]; omega)) ?_ | refine zb rfl rfl rfl rfl (zA rfl rfl (by omega) (by omega)) ?_ | refine zb rfl rfl rfl rfl (zI rfl rfl (by omega)) ?_ | refine zb rfl rfl rfl rfl (zG rfl rfl (by omega)) ?_ | refine zb rfl rfl rfl rfl (ze qH rfl) ?_ | refine zb rfl rfl rfl rfl (zF qJ rfl rfl rfl) ?_ | refine zb rfl rfl rfl rfl (zD rfl rfl) ?_ | refine zb rfl rfl rfl rfl (zB rfl rfl) ?_ | refine zb rfl rfl rfl rfl (zq rfl rfl rfl) ?_)
 refine zE rfl (fun h=>?_) (fun h=>?_)
 ·simp only [decide_eq_true_eq] at h
  repeat (first | refine zd rfl (qr qH hA2 rfl rfl rfl rfl (by omega)) ?_ | refine zd rfl (zQ 0 qH hA2 rfl rfl (by omega)) ?_ | refine zg ?_ | refine WC.block ?_ | refine zc ?_ | refine zh ?_ | refine za ?_ | refine zt ?_ | refine zy ?_ | refine zx ?_ | refine zm ?_ | refine zi ?_ | refine zf ?_ | refine zn ?_ | refine zk ?_ | refine zl rfl ?_ | refine zv ?_ | refine zw ?_ | refine zj ?_ | refine zp ?_ | refine zo ?_ | refine zd rfl (Yld.add rfl rfl (by simp only [In]; omega)) ?_ | refine zd rfl (Yld.sub rfl rfl (by simp only [In]; omega)) ?_ | refine zd rfl (zC rfl rfl (by simp only [In]; omega)) ?_ | refine zd rfl (zr qH rfl rfl rfl rfl) ?_ | refine zd rfl (zu qH rfl rfl rfl (by simp only [In]; omega)) ?_ | refine zd rfl (zz rfl rfl (by omega) (by omega) (by simp only [In]; omega)) ?_ | refine zd rfl (zA rfl rfl (by omega) (by omega)) ?_ | refine zd rfl (zI rfl rfl (by omega)) ?_ | refine zd rfl (zG rfl rfl (by omega)) ?_ | refine zd rfl (ze qH rfl) ?_ | refine zd rfl (zF qJ rfl rfl rfl) ?_ | refine zd rfl (zD rfl rfl) ?_ | refine zd rfl (zB rfl rfl) ?_ | refine zd rfl (zq rfl rfl rfl) ?_ | refine zJ rfl rfl rfl rfl ?_ | refine zb rfl rfl rfl rfl (Yld.add rfl rfl (by simp only [In]; omega)) ?_ | refine zb rfl rfl rfl rfl (Yld.sub rfl rfl (by simp only [In]; omega)) ?_ | refine zb rfl rfl rfl rfl (zC rfl rfl (by simp only [In]; omega)) ?_ | refine zb rfl rfl rfl rfl (zr qH rfl rfl rfl rfl) ?_ | refine zb rfl rfl rfl rfl (zu qH rfl rfl rfl (by simp only [In]; omega)) ?_ | refine zb rfl rfl rfl rfl (zz rfl rfl (by omega) (by omega) (by simp only [In]; omega)) ?_ | refine zb rfl rfl rfl rfl (zA rfl rfl (by omega) (by omega)) ?_ | refine zb rfl rfl rfl rfl (zI rfl rfl (by omega)) ?_ | refine zb rfl rfl rfl rfl (zG rfl rfl (by omega)) ?_ | refine zb rfl rfl rfl rfl (ze qH rfl) ?_ | refine zb rfl rfl rfl rfl (zF qJ rfl rfl rfl) ?_ | refine zb rfl rfl rfl rfl (zD rfl rfl) ?_ | refine zb rfl rfl rfl rfl (zB rfl rfl) ?_ | refine zb rfl rfl rfl rfl (zq rfl rfl rfl) ?_)
  refine WC.merge [(8,.int .u32 ((la.getD i 0:Nat)+1000000000 - (k:Int) - (lb.getD i 0:Nat))),(11,vi i),(10,vi la.length),(5,.slice A' o.length c'),(0,.slice A la.length c),(1,.slice B lb.length cb)] rfl (fun h Q' hQ=>?_) (fun h Q' hQ=>?_) ?_
  ·simp only [decide_eq_true_eq] at h
   repeat (first | refine zd rfl (qr qH hB2 rfl rfl rfl rfl (by omega)) ?_ | refine zd rfl (zQ 0 qH hB2 rfl rfl (by omega)) ?_ | refine zg ?_ | refine WC.block ?_ | refine zc ?_ | refine zh ?_ | refine za ?_ | refine zt ?_ | refine zy ?_ | refine zx ?_ | refine zm ?_ | refine zi ?_ | refine zf ?_ | refine zn ?_ | refine zk ?_ | refine zl rfl ?_ | refine zv ?_ | refine zw ?_ | refine zj ?_ | refine zp ?_ | refine zo ?_ | refine zd rfl (Yld.add rfl rfl (by simp only [In]; omega)) ?_ | refine zd rfl (Yld.sub rfl rfl (by simp only [In]; omega)) ?_ | refine zd rfl (zC rfl rfl (by simp only [In]; omega)) ?_ | refine zd rfl (zr qH rfl rfl rfl rfl) ?_ | refine zd rfl (zu qH rfl rfl rfl (by simp only [In]; omega)) ?_ | refine zd rfl (zz rfl rfl (by omega) (by omega) (by simp only [In]; omega)) ?_ | refine zd rfl (zA rfl rfl (by omega) (by omega)) ?_ | refine zd rfl (zI rfl rfl (by omega)) ?_ | refine zd rfl (zG rfl rfl (by omega)) ?_ | refine zd rfl (ze qH rfl) ?_ | refine zd rfl (zF qJ rfl rfl rfl) ?_ | refine zd rfl (zD rfl rfl) ?_ | refine zd rfl (zB rfl rfl) ?_ | refine zd rfl (zq rfl rfl rfl) ?_ | refine zJ rfl rfl rfl rfl ?_ | refine zb rfl rfl rfl rfl (Yld.add rfl rfl (by simp only [In]; omega)) ?_ | refine zb rfl rfl rfl rfl (Yld.sub rfl rfl (by simp only [In]; omega)) ?_ | refine zb rfl rfl rfl rfl (zC rfl rfl (by simp only [In]; omega)) ?_ | refine zb rfl rfl rfl rfl (zr qH rfl rfl rfl rfl) ?_ | refine zb rfl rfl rfl rfl (zu qH rfl rfl rfl (by simp only [In]; omega)) ?_ | refine zb rfl rfl rfl rfl (zz rfl rfl (by omega) (by omega) (by simp only [In]; omega)) ?_ | refine zb rfl rfl rfl rfl (zA rfl rfl (by omega) (by omega)) ?_ | refine zb rfl rfl rfl rfl (zI rfl rfl (by omega)) ?_ | refine zb rfl rfl rfl rfl (zG rfl rfl (by omega)) ?_ | refine zb rfl rfl rfl rfl (ze qH rfl) ?_ | refine zb rfl rfl rfl rfl (zF qJ rfl rfl rfl) ?_ | refine zb rfl rfl rfl rfl (zD rfl rfl) ?_ | refine zb rfl rfl rfl rfl (zB rfl rfl) ?_ | refine zb rfl rfl rfl rfl (zq rfl rfl rfl) ?_)
   exact WX.weaken (by repeat (first | exact zS | refine Sub.cons rfl ?_)) hQ
  ·simp only [decide_eq_false_iff_not] at h
   repeat (first | refine zg ?_ | refine WC.block ?_ | refine zc ?_ | refine zh ?_ | refine za ?_ | refine zt ?_ | refine zy ?_ | refine zx ?_ | refine zm ?_ | refine zi ?_ | refine zf ?_ | refine zn ?_ | refine zk ?_ | refine zl rfl ?_ | refine zv ?_ | refine zw ?_ | refine zj ?_ | refine zp ?_ | refine zo ?_ | refine zd rfl (Yld.add rfl rfl (by simp only [In]; omega)) ?_ | refine zd rfl (Yld.sub rfl rfl (by simp only [In]; omega)) ?_ | refine zd rfl (zC rfl rfl (by simp only [In]; omega)) ?_ | refine zd rfl (zr qH rfl rfl rfl rfl) ?_ | refine zd rfl (zu qH rfl rfl rfl (by simp only [In]; omega)) ?_ | refine zd rfl (zz rfl rfl (by omega) (by omega) (by simp only [In]; omega)) ?_ | refine zd rfl (zA rfl rfl (by omega) (by omega)) ?_ | refine zd rfl (zI rfl rfl (by omega)) ?_ | refine zd rfl (zG rfl rfl (by omega)) ?_ | refine zd rfl (ze qH rfl) ?_ | refine zd rfl (zF qJ rfl rfl rfl) ?_ | refine zd rfl (zD rfl rfl) ?_ | refine zd rfl (zB rfl rfl) ?_ | refine zd rfl (zq rfl rfl rfl) ?_ | refine zJ rfl rfl rfl rfl ?_ | refine zb rfl rfl rfl rfl (Yld.add rfl rfl (by simp only [In]; omega)) ?_ | refine zb rfl rfl rfl rfl (Yld.sub rfl rfl (by simp only [In]; omega)) ?_ | refine zb rfl rfl rfl rfl (zC rfl rfl (by simp only [In]; omega)) ?_ | refine zb rfl rfl rfl rfl (zr qH rfl rfl rfl rfl) ?_ | refine zb rfl rfl rfl rfl (zu qH rfl rfl rfl (by simp only [In]; omega)) ?_ | refine zb rfl rfl rfl rfl (zz rfl rfl (by omega) (by omega) (by simp only [In]; omega)) ?_ | refine zb rfl rfl rfl rfl (zA rfl rfl (by omega) (by omega)) ?_ | refine zb rfl rfl rfl rfl (zI rfl rfl (by omega)) ?_ | refine zb rfl rfl rfl rfl (zG rfl rfl (by omega)) ?_ | refine zb rfl rfl rfl rfl (ze qH rfl) ?_ | refine zb rfl rfl rfl rfl (zF qJ rfl rfl rfl) ?_ | refine zb rfl rfl rfl rfl (zD rfl rfl) ?_ | refine zb rfl rfl rfl rfl (zB rfl rfl) ?_ | refine zb rfl rfl rfl rfl (zq rfl rfl rfl) ?_)
   rw [getD_ge lb i (by omega)] at hQ
   have e0:∀ z:Int,z - ((0:Nat):Int)=z:=by intro z; omega
   rw [e0] at hQ
   exact WX.weaken (by repeat (first | exact zS | refine Sub.cons rfl ?_)) hQ
  have hv1:=j4 la i
  have hv2:=j4 lb i
  generalize la.getD i 0=a at *
  generalize lb.getD i 0=b at *
  repeat (first | refine zg ?_ | refine WC.block ?_ | refine zc ?_ | refine zh ?_ | refine za ?_ | refine zt ?_ | refine zy ?_ | refine zx ?_ | refine zm ?_ | refine zi ?_ | refine zf ?_ | refine zn ?_ | refine zk ?_ | refine zl rfl ?_ | refine zv ?_ | refine zw ?_ | refine zj ?_ | refine zp ?_ | refine zo ?_ | refine zd rfl (Yld.add rfl rfl (by simp only [In]; omega)) ?_ | refine zd rfl (Yld.sub rfl rfl (by simp only [In]; omega)) ?_ | refine zd rfl (zC rfl rfl (by simp only [In]; omega)) ?_ | refine zd rfl (zr qH rfl rfl rfl rfl) ?_ | refine zd rfl (zu qH rfl rfl rfl (by simp only [In]; omega)) ?_ | refine zd rfl (zz rfl rfl (by omega) (by omega) (by simp only [In]; omega)) ?_ | refine zd rfl (zA rfl rfl (by omega) (by omega)) ?_ | refine zd rfl (zI rfl rfl (by omega)) ?_ | refine zd rfl (zG rfl rfl (by omega)) ?_ | refine zd rfl (ze qH rfl) ?_ | refine zd rfl (zF qJ rfl rfl rfl) ?_ | refine zd rfl (zD rfl rfl) ?_ | refine zd rfl (zB rfl rfl) ?_ | refine zd rfl (zq rfl rfl rfl) ?_ | refine zJ rfl rfl rfl rfl ?_ | refine zb rfl rfl rfl rfl (Yld.add rfl rfl (by simp only [In]; omega)) ?_ | refine zb rfl rfl rfl rfl (Yld.sub rfl rfl (by simp only [In]; omega)) ?_ | refine zb rfl rfl rfl rfl (zC rfl rfl (by simp only [In]; omega)) ?_ | refine zb rfl rfl rfl rfl (zr qH rfl rfl rfl rfl) ?_ | refine zb rfl rfl rfl rfl (zu qH rfl rfl rfl (by simp only [In]; omega)) ?_ | refine zb rfl rfl rfl rfl (zz rfl rfl (by omega) (by omega) (by simp only [In]; omega)) ?_ | refine zb rfl rfl rfl rfl (zA rfl rfl (by omega) (by omega)) ?_ | refine zb rfl rfl rfl rfl (zI rfl rfl (by omega)) ?_ | refine zb rfl rfl rfl rfl (zG rfl rfl (by omega)) ?_ | refine zb rfl rfl rfl rfl (ze qH rfl) ?_ | refine zb rfl rfl rfl rfl (zF qJ rfl rfl rfl) ?_ | refine zb rfl rfl rfl rfl (zD rfl rfl) ?_ | refine zb rfl rfl rfl rfl (zB rfl rfl) ?_ | refine zb rfl rfl rfl rfl (zq rfl rfl rfl) ?_)
  have hd:((a:Nat)+1000000000 - (k:Int) - (b:Nat)) % 1000000000=(((a+1000000000 - k - b) % 1000000000:Nat):Int):=by omega
  have hq:1 - ((a:Nat)+1000000000 - (k:Int) - (b:Nat)) / 1000000000=((1 - (a+1000000000 - k - b) / 1000000000:Nat):Int):=by omega
  rw [hd]
  refine qg (us:=[vd ((a+1000000000 - k - b) % 1000000000)]) qH rfl rfl rfl (by intro u hu; rw [List.mem_singleton] at hu; rw [hu]; rfl) rfl (by omega) (fun g w3 hL3 hg3 hl3=>?_)
  have hR3:Rd vd w3 (some ⟨g,0,none⟩) 1 [(a+1000000000 - k - b) % 1000000000]:=qE hL3 (by simp) (by simp [maxLen])
  have hO3:=hO.grown hg3
  have hz2:=hg.size
  have hz3:=hg3.size
  refine qo qH rfl rfl One.d hO3 rfl rfl hR3 rfl rfl (by simp only [List.length_cons,List.length_nil]; omega) (by simp only [maxLen,List.length_cons,List.length_nil]; omega) (by omega) (fun A4 c4 w4 hO4 hg4 hf4=>?_)
  repeat (first | refine zg ?_ | refine WC.block ?_ | refine zc ?_ | refine zh ?_ | refine za ?_ | refine zt ?_ | refine zy ?_ | refine zx ?_ | refine zm ?_ | refine zi ?_ | refine zf ?_ | refine zn ?_ | refine zk ?_ | refine zl rfl ?_ | refine zv ?_ | refine zw ?_ | refine zj ?_ | refine zp ?_ | refine zo ?_ | refine zd rfl (Yld.add rfl rfl (by simp only [In]; omega)) ?_ | refine zd rfl (Yld.sub rfl rfl (by simp only [In]; omega)) ?_ | refine zd rfl (zC rfl rfl (by simp only [In]; omega)) ?_ | refine zd rfl (zr qH rfl rfl rfl rfl) ?_ | refine zd rfl (zu qH rfl rfl rfl (by simp only [In]; omega)) ?_ | refine zd rfl (zz rfl rfl (by omega) (by omega) (by simp only [In]; omega)) ?_ | refine zd rfl (zA rfl rfl (by omega) (by omega)) ?_ | refine zd rfl (zI rfl rfl (by omega)) ?_ | refine zd rfl (zG rfl rfl (by omega)) ?_ | refine zd rfl (ze qH rfl) ?_ | refine zd rfl (zF qJ rfl rfl rfl) ?_ | refine zd rfl (zD rfl rfl) ?_ | refine zd rfl (zB rfl rfl) ?_ | refine zd rfl (zq rfl rfl rfl) ?_ | refine zJ rfl rfl rfl rfl ?_ | refine zb rfl rfl rfl rfl (Yld.add rfl rfl (by simp only [In]; omega)) ?_ | refine zb rfl rfl rfl rfl (Yld.sub rfl rfl (by simp only [In]; omega)) ?_ | refine zb rfl rfl rfl rfl (zC rfl rfl (by simp only [In]; omega)) ?_ | refine zb rfl rfl rfl rfl (zr qH rfl rfl rfl rfl) ?_ | refine zb rfl rfl rfl rfl (zu qH rfl rfl rfl (by simp only [In]; omega)) ?_ | refine zb rfl rfl rfl rfl (zz rfl rfl (by omega) (by omega) (by simp only [In]; omega)) ?_ | refine zb rfl rfl rfl rfl (zA rfl rfl (by omega) (by omega)) ?_ | refine zb rfl rfl rfl rfl (zI rfl rfl (by omega)) ?_ | refine zb rfl rfl rfl rfl (zG rfl rfl (by omega)) ?_ | refine zb rfl rfl rfl rfl (ze qH rfl) ?_ | refine zb rfl rfl rfl rfl (zF qJ rfl rfl rfl) ?_ | refine zb rfl rfl rfl rfl (zD rfl rfl) ?_ | refine zb rfl rfl rfl rfl (zB rfl rfl) ?_ | refine zb rfl rfl rfl rfl (zq rfl rfl rfl) ?_)
  rw [hq]
  refine WX.round5 (i+1) (o++[(a+1000000000 - k - b) % 1000000000]) A4 c4 (1 - (a+1000000000 - k - b) / 1000000000) ⟨by omega,by simp [hol],hDo.push (by omega),by omega,?_,hO4,gr_own (qI hg hg3) hO3 hg4 (Nat.le_refl _)⟩ (by omega) (by repeat (first | exact zS | refine Sub.cons rfl ?_))
  rw [val_push,hol,hv1,hv2,Nat.pow_succ]
  exact minus_step _ _ _ k a b _ _ _ (by omega) hv
 ·simp only [decide_eq_false_iff_not] at h
  obtain rfl:i=la.length:=by omega
  rw [List.take_of_length_le hlb,List.take_of_length_le (Nat.le_refl _)] at hv
  repeat (first | refine zg ?_ | refine WC.block ?_ | refine zc ?_ | refine zh ?_ | refine za ?_ | refine zt ?_ | refine zy ?_ | refine zx ?_ | refine zm ?_ | refine zi ?_ | refine zf ?_ | refine zn ?_ | refine zk ?_ | refine zl rfl ?_ | refine zv ?_ | refine zw ?_ | refine zj ?_ | refine zp ?_ | refine zo ?_ | refine zd rfl (Yld.add rfl rfl (by simp only [In]; omega)) ?_ | refine zd rfl (Yld.sub rfl rfl (by simp only [In]; omega)) ?_ | refine zd rfl (zC rfl rfl (by simp only [In]; omega)) ?_ | refine zd rfl (zr qH rfl rfl rfl rfl) ?_ | refine zd rfl (zu qH rfl rfl rfl (by simp only [In]; omega)) ?_ | refine zd rfl (zz rfl rfl (by omega) (by omega) (by simp only [In]; omega)) ?_ | refine zd rfl (zA rfl rfl (by omega) (by omega)) ?_ | refine zd rfl (zI rfl rfl (by omega)) ?_ | refine zd rfl (zG rfl rfl (by omega)) ?_ | refine zd rfl (ze qH rfl) ?_ | refine zd rfl (zF qJ rfl rfl rfl) ?_ | refine zd rfl (zD rfl rfl) ?_ | refine zd rfl (zB rfl rfl) ?_ | refine zd rfl (zq rfl rfl rfl) ?_ | refine zJ rfl rfl rfl rfl ?_ | refine zb rfl rfl rfl rfl (Yld.add rfl rfl (by simp only [In]; omega)) ?_ | refine zb rfl rfl rfl rfl (Yld.sub rfl rfl (by simp only [In]; omega)) ?_ | refine zb rfl rfl rfl rfl (zC rfl rfl (by simp only [In]; omega)) ?_ | refine zb rfl rfl rfl rfl (zr qH rfl rfl rfl rfl) ?_ | refine zb rfl rfl rfl rfl (zu qH rfl rfl rfl (by simp only [In]; omega)) ?_ | refine zb rfl rfl rfl rfl (zz rfl rfl (by omega) (by omega) (by simp only [In]; omega)) ?_ | refine zb rfl rfl rfl rfl (zA rfl rfl (by omega) (by omega)) ?_ | refine zb rfl rfl rfl rfl (zI rfl rfl (by omega)) ?_ | refine zb rfl rfl rfl rfl (zG rfl rfl (by omega)) ?_ | refine zb rfl rfl rfl rfl (ze qH rfl) ?_ | refine zb rfl rfl rfl rfl (zF qJ rfl rfl rfl) ?_ | refine zb rfl rfl rfl rfl (zD rfl rfl) ?_ | refine zb rfl rfl rfl rfl (zB rfl rfl) ?_ | refine zb rfl rfl rfl rfl (zq rfl rfl rfl) ?_)
  have hk0:k=0:=by
   have h1:=val_lt' hDo
   rw [hol] at h1
   rcases Nat.lt_or_ge k 1 with h5 | h5
   ·omega
   ·have:1*1000000000 ^ la.length<=k*1000000000 ^ la.length:=Nat.mul_le_mul_right _ h5
    omega
  subst hk0
  refine zM rfl rfl ⟨A',c',o,rfl,hO.rd,hDo,by omega,hol,hg,fun q hq=>hO.lt hq⟩
theorem minus_fn (A:Option Addr) (c:Nat) (la:List Nat) (B:Option Addr) (cb:Nat) (lb:List Nat) (w:World) (hA:Rd vd w A c la) (hB:Rd vd w B cb lb) (hDa:Dg la) (hDb:Dg lb) (hla:la.length<=1000000) (hlb:lb.length<=la.length) (hle:val lb<=val la) :
  Fn Tryz.prog 167 ⟨[.slice A la.length c,.slice B lb.length cb]⟩ w fun v w'=>∃ A' c' o,v=.slice A' o.length c'/\Rd vd w' A' c' o/\Dg o/\val o+val lb=val la/\o.length=la.length/\w.grownBy w' none :=
 (minus_fn' A c la B cb lb w hA hB hDa hDb hla hlb hle).mono fun _ _ ⟨A',c',o,h1,h2,h3,h4,h5,h6,_⟩=>⟨A',c',o,h1,h2,h3,h4,h5,h6⟩
theorem sign_fn (n:Int) (w:World):Fn Tryz.prog 163 ⟨[vi n]⟩ w fun v w'=>v=vi (if n<0 then -1 else if 0<n then 1 else 0)/\w'=w:=by
 refine Fn.enter (by kernel_rfl) Tryz.func163 rfl Tryz.ntmps163 rfl ?_
 repeat (first | refine zg ?_ | refine WC.block ?_ | refine zc ?_ | refine zh ?_ | refine za ?_ | refine zt ?_ | refine zy ?_ | refine zx ?_ | refine zm ?_ | refine zi ?_ | refine zf ?_ | refine zn ?_ | refine zk ?_ | refine zl rfl ?_ | refine zv ?_ | refine zw ?_ | refine zj ?_ | refine zp ?_ | refine zo ?_ | refine zd rfl (Yld.add rfl rfl (by simp only [In]; omega)) ?_ | refine zd rfl (Yld.sub rfl rfl (by simp only [In]; omega)) ?_ | refine zd rfl (zC rfl rfl (by simp only [In]; omega)) ?_ | refine zd rfl (zr qH rfl rfl rfl rfl) ?_ | refine zd rfl (zu qH rfl rfl rfl (by simp only [In]; omega)) ?_ | refine zd rfl (zz rfl rfl (by omega) (by omega) (by simp only [In]; omega)) ?_ | refine zd rfl (zA rfl rfl (by omega) (by omega)) ?_ | refine zd rfl (zI rfl rfl (by omega)) ?_ | refine zd rfl (zG rfl rfl (by omega)) ?_ | refine zd rfl (ze qH rfl) ?_ | refine zd rfl (zF qJ rfl rfl rfl) ?_ | refine zd rfl (zD rfl rfl) ?_ | refine zd rfl (zB rfl rfl) ?_ | refine zd rfl (zq rfl rfl rfl) ?_ | refine zJ rfl rfl rfl rfl ?_ | refine zb rfl rfl rfl rfl (Yld.add rfl rfl (by simp only [In]; omega)) ?_ | refine zb rfl rfl rfl rfl (Yld.sub rfl rfl (by simp only [In]; omega)) ?_ | refine zb rfl rfl rfl rfl (zC rfl rfl (by simp only [In]; omega)) ?_ | refine zb rfl rfl rfl rfl (zr qH rfl rfl rfl rfl) ?_ | refine zb rfl rfl rfl rfl (zu qH rfl rfl rfl (by simp only [In]; omega)) ?_ | refine zb rfl rfl rfl rfl (zz rfl rfl (by omega) (by omega) (by simp only [In]; omega)) ?_ | refine zb rfl rfl rfl rfl (zA rfl rfl (by omega) (by omega)) ?_ | refine zb rfl rfl rfl rfl (zI rfl rfl (by omega)) ?_ | refine zb rfl rfl rfl rfl (zG rfl rfl (by omega)) ?_ | refine zb rfl rfl rfl rfl (ze qH rfl) ?_ | refine zb rfl rfl rfl rfl (zF qJ rfl rfl rfl) ?_ | refine zb rfl rfl rfl rfl (zD rfl rfl) ?_ | refine zb rfl rfl rfl rfl (zB rfl rfl) ?_ | refine zb rfl rfl rfl rfl (zq rfl rfl rfl) ?_)
 refine zE rfl (fun h=>?_) (fun h=>?_)
 ·simp only [decide_eq_true_eq] at h
  repeat (first | refine zg ?_ | refine WC.block ?_ | refine zc ?_ | refine zh ?_ | refine za ?_ | refine zt ?_ | refine zy ?_ | refine zx ?_ | refine zm ?_ | refine zi ?_ | refine zf ?_ | refine zn ?_ | refine zk ?_ | refine zl rfl ?_ | refine zv ?_ | refine zw ?_ | refine zj ?_ | refine zp ?_ | refine zo ?_ | refine zd rfl (Yld.add rfl rfl (by simp only [In]; omega)) ?_ | refine zd rfl (Yld.sub rfl rfl (by simp only [In]; omega)) ?_ | refine zd rfl (zC rfl rfl (by simp only [In]; omega)) ?_ | refine zd rfl (zr qH rfl rfl rfl rfl) ?_ | refine zd rfl (zu qH rfl rfl rfl (by simp only [In]; omega)) ?_ | refine zd rfl (zz rfl rfl (by omega) (by omega) (by simp only [In]; omega)) ?_ | refine zd rfl (zA rfl rfl (by omega) (by omega)) ?_ | refine zd rfl (zI rfl rfl (by omega)) ?_ | refine zd rfl (zG rfl rfl (by omega)) ?_ | refine zd rfl (ze qH rfl) ?_ | refine zd rfl (zF qJ rfl rfl rfl) ?_ | refine zd rfl (zD rfl rfl) ?_ | refine zd rfl (zB rfl rfl) ?_ | refine zd rfl (zq rfl rfl rfl) ?_ | refine zJ rfl rfl rfl rfl ?_ | refine zb rfl rfl rfl rfl (Yld.add rfl rfl (by simp only [In]; omega)) ?_ | refine zb rfl rfl rfl rfl (Yld.sub rfl rfl (by simp only [In]; omega)) ?_ | refine zb rfl rfl rfl rfl (zC rfl rfl (by simp only [In]; omega)) ?_ | refine zb rfl rfl rfl rfl (zr qH rfl rfl rfl rfl) ?_ | refine zb rfl rfl rfl rfl (zu qH rfl rfl rfl (by simp only [In]; omega)) ?_ | refine zb rfl rfl rfl rfl (zz rfl rfl (by omega) (by omega) (by simp only [In]; omega)) ?_ | refine zb rfl rfl rfl rfl (zA rfl rfl (by omega) (by omega)) ?_ | refine zb rfl rfl rfl rfl (zI rfl rfl (by omega)) ?_ | refine zb rfl rfl rfl rfl (zG rfl rfl (by omega)) ?_ | refine zb rfl rfl rfl rfl (ze qH rfl) ?_ | refine zb rfl rfl rfl rfl (zF qJ rfl rfl rfl) ?_ | refine zb rfl rfl rfl rfl (zD rfl rfl) ?_ | refine zb rfl rfl rfl rfl (zB rfl rfl) ?_ | refine zb rfl rfl rfl rfl (zq rfl rfl rfl) ?_)
  exact zM rfl rfl ⟨by rw [if_pos h]; rfl,rfl⟩
 ·simp only [decide_eq_false_iff_not] at h
  repeat (first | refine zg ?_ | refine WC.block ?_ | refine zc ?_ | refine zh ?_ | refine za ?_ | refine zt ?_ | refine zy ?_ | refine zx ?_ | refine zm ?_ | refine zi ?_ | refine zf ?_ | refine zn ?_ | refine zk ?_ | refine zl rfl ?_ | refine zv ?_ | refine zw ?_ | refine zj ?_ | refine zp ?_ | refine zo ?_ | refine zd rfl (Yld.add rfl rfl (by simp only [In]; omega)) ?_ | refine zd rfl (Yld.sub rfl rfl (by simp only [In]; omega)) ?_ | refine zd rfl (zC rfl rfl (by simp only [In]; omega)) ?_ | refine zd rfl (zr qH rfl rfl rfl rfl) ?_ | refine zd rfl (zu qH rfl rfl rfl (by simp only [In]; omega)) ?_ | refine zd rfl (zz rfl rfl (by omega) (by omega) (by simp only [In]; omega)) ?_ | refine zd rfl (zA rfl rfl (by omega) (by omega)) ?_ | refine zd rfl (zI rfl rfl (by omega)) ?_ | refine zd rfl (zG rfl rfl (by omega)) ?_ | refine zd rfl (ze qH rfl) ?_ | refine zd rfl (zF qJ rfl rfl rfl) ?_ | refine zd rfl (zD rfl rfl) ?_ | refine zd rfl (zB rfl rfl) ?_ | refine zd rfl (zq rfl rfl rfl) ?_ | refine zJ rfl rfl rfl rfl ?_ | refine zb rfl rfl rfl rfl (Yld.add rfl rfl (by simp only [In]; omega)) ?_ | refine zb rfl rfl rfl rfl (Yld.sub rfl rfl (by simp only [In]; omega)) ?_ | refine zb rfl rfl rfl rfl (zC rfl rfl (by simp only [In]; omega)) ?_ | refine zb rfl rfl rfl rfl (zr qH rfl rfl rfl rfl) ?_ | refine zb rfl rfl rfl rfl (zu qH rfl rfl rfl (by simp only [In]; omega)) ?_ | refine zb rfl rfl rfl rfl (zz rfl rfl (by omega) (by omega) (by simp only [In]; omega)) ?_ | refine zb rfl rfl rfl rfl (zA rfl rfl (by omega) (by omega)) ?_ | refine zb rfl rfl rfl rfl (zI rfl rfl (by omega)) ?_ | refine zb rfl rfl rfl rfl (zG rfl rfl (by omega)) ?_ | refine zb rfl rfl rfl rfl (ze qH rfl) ?_ | refine zb rfl rfl rfl rfl (zF qJ rfl rfl rfl) ?_ | refine zb rfl rfl rfl rfl (zD rfl rfl) ?_ | refine zb rfl rfl rfl rfl (zB rfl rfl) ?_ | refine zb rfl rfl rfl rfl (zq rfl rfl rfl) ?_)
  refine zE rfl (fun h2=>?_) (fun h2=>?_)
  ·simp only [decide_eq_true_eq] at h2
   repeat (first | refine zg ?_ | refine WC.block ?_ | refine zc ?_ | refine zh ?_ | refine za ?_ | refine zt ?_ | refine zy ?_ | refine zx ?_ | refine zm ?_ | refine zi ?_ | refine zf ?_ | refine zn ?_ | refine zk ?_ | refine zl rfl ?_ | refine zv ?_ | refine zw ?_ | refine zj ?_ | refine zp ?_ | refine zo ?_ | refine zd rfl (Yld.add rfl rfl (by simp only [In]; omega)) ?_ | refine zd rfl (Yld.sub rfl rfl (by simp only [In]; omega)) ?_ | refine zd rfl (zC rfl rfl (by simp only [In]; omega)) ?_ | refine zd rfl (zr qH rfl rfl rfl rfl) ?_ | refine zd rfl (zu qH rfl rfl rfl (by simp only [In]; omega)) ?_ | refine zd rfl (zz rfl rfl (by omega) (by omega) (by simp only [In]; omega)) ?_ | refine zd rfl (zA rfl rfl (by omega) (by omega)) ?_ | refine zd rfl (zI rfl rfl (by omega)) ?_ | refine zd rfl (zG rfl rfl (by omega)) ?_ | refine zd rfl (ze qH rfl) ?_ | refine zd rfl (zF qJ rfl rfl rfl) ?_ | refine zd rfl (zD rfl rfl) ?_ | refine zd rfl (zB rfl rfl) ?_ | refine zd rfl (zq rfl rfl rfl) ?_ | refine zJ rfl rfl rfl rfl ?_ | refine zb rfl rfl rfl rfl (Yld.add rfl rfl (by simp only [In]; omega)) ?_ | refine zb rfl rfl rfl rfl (Yld.sub rfl rfl (by simp only [In]; omega)) ?_ | refine zb rfl rfl rfl rfl (zC rfl rfl (by simp only [In]; omega)) ?_ | refine zb rfl rfl rfl rfl (zr qH rfl rfl rfl rfl) ?_ | refine zb rfl rfl rfl rfl (zu qH rfl rfl rfl (by simp only [In]; omega)) ?_ | refine zb rfl rfl rfl rfl (zz rfl rfl (by omega) (by omega) (by simp only [In]; omega)) ?_ | refine zb rfl rfl rfl rfl (zA rfl rfl (by omega) (by omega)) ?_ | refine zb rfl rfl rfl rfl (zI rfl rfl (by omega)) ?_ | refine zb rfl rfl rfl rfl (zG rfl rfl (by omega)) ?_ | refine zb rfl rfl rfl rfl (ze qH rfl) ?_ | refine zb rfl rfl rfl rfl (zF qJ rfl rfl rfl) ?_ | refine zb rfl rfl rfl rfl (zD rfl rfl) ?_ | refine zb rfl rfl rfl rfl (zB rfl rfl) ?_ | refine zb rfl rfl rfl rfl (zq rfl rfl rfl) ?_)
   exact zM rfl rfl ⟨by rw [if_neg h,if_pos h2]; rfl,rfl⟩
  ·simp only [decide_eq_false_iff_not] at h2
   repeat (first | refine zg ?_ | refine WC.block ?_ | refine zc ?_ | refine zh ?_ | refine za ?_ | refine zt ?_ | refine zy ?_ | refine zx ?_ | refine zm ?_ | refine zi ?_ | refine zf ?_ | refine zn ?_ | refine zk ?_ | refine zl rfl ?_ | refine zv ?_ | refine zw ?_ | refine zj ?_ | refine zp ?_ | refine zo ?_ | refine zd rfl (Yld.add rfl rfl (by simp only [In]; omega)) ?_ | refine zd rfl (Yld.sub rfl rfl (by simp only [In]; omega)) ?_ | refine zd rfl (zC rfl rfl (by simp only [In]; omega)) ?_ | refine zd rfl (zr qH rfl rfl rfl rfl) ?_ | refine zd rfl (zu qH rfl rfl rfl (by simp only [In]; omega)) ?_ | refine zd rfl (zz rfl rfl (by omega) (by omega) (by simp only [In]; omega)) ?_ | refine zd rfl (zA rfl rfl (by omega) (by omega)) ?_ | refine zd rfl (zI rfl rfl (by omega)) ?_ | refine zd rfl (zG rfl rfl (by omega)) ?_ | refine zd rfl (ze qH rfl) ?_ | refine zd rfl (zF qJ rfl rfl rfl) ?_ | refine zd rfl (zD rfl rfl) ?_ | refine zd rfl (zB rfl rfl) ?_ | refine zd rfl (zq rfl rfl rfl) ?_ | refine zJ rfl rfl rfl rfl ?_ | refine zb rfl rfl rfl rfl (Yld.add rfl rfl (by simp only [In]; omega)) ?_ | refine zb rfl rfl rfl rfl (Yld.sub rfl rfl (by simp only [In]; omega)) ?_ | refine zb rfl rfl rfl rfl (zC rfl rfl (by simp only [In]; omega)) ?_ | refine zb rfl rfl rfl rfl (zr qH rfl rfl rfl rfl) ?_ | refine zb rfl rfl rfl rfl (zu qH rfl rfl rfl (by simp only [In]; omega)) ?_ | refine zb rfl rfl rfl rfl (zz rfl rfl (by omega) (by omega) (by simp only [In]; omega)) ?_ | refine zb rfl rfl rfl rfl (zA rfl rfl (by omega) (by omega)) ?_ | refine zb rfl rfl rfl rfl (zI rfl rfl (by omega)) ?_ | refine zb rfl rfl rfl rfl (zG rfl rfl (by omega)) ?_ | refine zb rfl rfl rfl rfl (ze qH rfl) ?_ | refine zb rfl rfl rfl rfl (zF qJ rfl rfl rfl) ?_ | refine zb rfl rfl rfl rfl (zD rfl rfl) ?_ | refine zb rfl rfl rfl rfl (zB rfl rfl) ?_ | refine zb rfl rfl rfl rfl (zq rfl rfl rfl) ?_)
   exact zM rfl rfl ⟨by rw [if_neg h,if_neg h2]; rfl,rfl⟩
end
 section
open Go Go.RowKit
attribute [local irreducible] WL WC WX WQ Yld Eff Fn
def Tells (n:Int) (x y:Nat):Prop:=(n<0/\x<y)∨(n=0/\x=y)∨(0<n/\y<x)
theorem val_lt_len {la lb:List Nat} (hDa:Dg la) (hCb:Can lb) (h:la.length<lb.length):val la<val lb:=by
 have h1:=val_lt' hDa
 have h2:=val_ge hCb (by intro e; subst e; simp at h)
 have h3:1000000000 ^ la.length<=1000000000 ^ (lb.length - 1):=Nat.pow_le_pow_right (by omega) (by omega)
 omega
theorem take_less {la lb:List Nat} (hDa:Dg la) (j:Nat) (h:la.getD j 0<lb.getD j 0):val (la.take (j+1))<val (lb.take (j+1)):=by
 have h1:=val_lt hDa j
 rw [j4,j4]
 generalize 1000000000 ^ j=p at *
 generalize la.getD j 0=a at *
 generalize lb.getD j 0=b at *
 have:p*(a+1)<=p*b:=Nat.mul_le_mul_left _ h
 rw [Nat.mul_add] at this
 omega
theorem cmp_fn (A:Option Addr) (c:Nat) (la:List Nat) (B:Option Addr) (cb:Nat) (lb:List Nat) (w:World) (hA:Rd vd w A c la) (hB:Rd vd w B cb lb) (hDa:Dg la) (hDb:Dg lb) (hCa:Can la) (hCb:Can lb) (hla:la.length<=1000000) (hlb:lb.length<=1000000) :
  Fn Tryz.prog 164 ⟨[.slice A la.length c,.slice B lb.length cb]⟩ w fun v w'=>(∃ n,v=vi n/\Tells n (val la) (val lb))/\w'=w:=by
 refine Fn.enter (by kernel_rfl) Tryz.func164 rfl Tryz.ntmps164 rfl ?_
 repeat (first | refine zg ?_ | refine WC.block ?_ | refine zc ?_ | refine zh ?_ | refine za ?_ | refine zt ?_ | refine zy ?_ | refine zx ?_ | refine zm ?_ | refine zi ?_ | refine zf ?_ | refine zn ?_ | refine zk ?_ | refine zl rfl ?_ | refine zv ?_ | refine zw ?_ | refine zj ?_ | refine zp ?_ | refine zo ?_ | refine zd rfl (Yld.add rfl rfl (by simp only [In]; omega)) ?_ | refine zd rfl (Yld.sub rfl rfl (by simp only [In]; omega)) ?_ | refine zd rfl (zC rfl rfl (by simp only [In]; omega)) ?_ | refine zd rfl (zr qH rfl rfl rfl rfl) ?_ | refine zd rfl (zu qH rfl rfl rfl (by simp only [In]; omega)) ?_ | refine zd rfl (zz rfl rfl (by omega) (by omega) (by simp only [In]; omega)) ?_ | refine zd rfl (zA rfl rfl (by omega) (by omega)) ?_ | refine zd rfl (zI rfl rfl (by omega)) ?_ | refine zd rfl (zG rfl rfl (by omega)) ?_ | refine zd rfl (ze qH rfl) ?_ | refine zd rfl (zF qJ rfl rfl rfl) ?_ | refine zd rfl (zD rfl rfl) ?_ | refine zd rfl (zB rfl rfl) ?_ | refine zd rfl (zq rfl rfl rfl) ?_ | refine zJ rfl rfl rfl rfl ?_ | refine zb rfl rfl rfl rfl (Yld.add rfl rfl (by simp only [In]; omega)) ?_ | refine zb rfl rfl rfl rfl (Yld.sub rfl rfl (by simp only [In]; omega)) ?_ | refine zb rfl rfl rfl rfl (zC rfl rfl (by simp only [In]; omega)) ?_ | refine zb rfl rfl rfl rfl (zr qH rfl rfl rfl rfl) ?_ | refine zb rfl rfl rfl rfl (zu qH rfl rfl rfl (by simp only [In]; omega)) ?_ | refine zb rfl rfl rfl rfl (zz rfl rfl (by omega) (by omega) (by simp only [In]; omega)) ?_ | refine zb rfl rfl rfl rfl (zA rfl rfl (by omega) (by omega)) ?_ | refine zb rfl rfl rfl rfl (zI rfl rfl (by omega)) ?_ | refine zb rfl rfl rfl rfl (zG rfl rfl (by omega)) ?_ | refine zb rfl rfl rfl rfl (ze qH rfl) ?_ | refine zb rfl rfl rfl rfl (zF qJ rfl rfl rfl) ?_ | refine zb rfl rfl rfl rfl (zD rfl rfl) ?_ | refine zb rfl rfl rfl rfl (zB rfl rfl) ?_ | refine zb rfl rfl rfl rfl (zq rfl rfl rfl) ?_)
 refine zE rfl (fun h=>?_) (fun h=>?_)
 ·simp only [Bool.not_eq_true',decide_eq_false_iff_not] at h
  repeat (first | refine zg ?_ | refine WC.block ?_ | refine zc ?_ | refine zh ?_ | refine za ?_ | refine zt ?_ | refine zy ?_ | refine zx ?_ | refine zm ?_ | refine zi ?_ | refine zf ?_ | refine zn ?_ | refine zk ?_ | refine zl rfl ?_ | refine zv ?_ | refine zw ?_ | refine zj ?_ | refine zp ?_ | refine zo ?_ | refine zd rfl (Yld.add rfl rfl (by simp only [In]; omega)) ?_ | refine zd rfl (Yld.sub rfl rfl (by simp only [In]; omega)) ?_ | refine zd rfl (zC rfl rfl (by simp only [In]; omega)) ?_ | refine zd rfl (zr qH rfl rfl rfl rfl) ?_ | refine zd rfl (zu qH rfl rfl rfl (by simp only [In]; omega)) ?_ | refine zd rfl (zz rfl rfl (by omega) (by omega) (by simp only [In]; omega)) ?_ | refine zd rfl (zA rfl rfl (by omega) (by omega)) ?_ | refine zd rfl (zI rfl rfl (by omega)) ?_ | refine zd rfl (zG rfl rfl (by omega)) ?_ | refine zd rfl (ze qH rfl) ?_ | refine zd rfl (zF qJ rfl rfl rfl) ?_ | refine zd rfl (zD rfl rfl) ?_ | refine zd rfl (zB rfl rfl) ?_ | refine zd rfl (zq rfl rfl rfl) ?_ | refine zJ rfl rfl rfl rfl ?_ | refine zb rfl rfl rfl rfl (Yld.add rfl rfl (by simp only [In]; omega)) ?_ | refine zb rfl rfl rfl rfl (Yld.sub rfl rfl (by simp only [In]; omega)) ?_ | refine zb rfl rfl rfl rfl (zC rfl rfl (by simp only [In]; omega)) ?_ | refine zb rfl rfl rfl rfl (zr qH rfl rfl rfl rfl) ?_ | refine zb rfl rfl rfl rfl (zu qH rfl rfl rfl (by simp only [In]; omega)) ?_ | refine zb rfl rfl rfl rfl (zz rfl rfl (by omega) (by omega) (by simp only [In]; omega)) ?_ | refine zb rfl rfl rfl rfl (zA rfl rfl (by omega) (by omega)) ?_ | refine zb rfl rfl rfl rfl (zI rfl rfl (by omega)) ?_ | refine zb rfl rfl rfl rfl (zG rfl rfl (by omega)) ?_ | refine zb rfl rfl rfl rfl (ze qH rfl) ?_ | refine zb rfl rfl rfl rfl (zF qJ rfl rfl rfl) ?_ | refine zb rfl rfl rfl rfl (zD rfl rfl) ?_ | refine zb rfl rfl rfl rfl (zB rfl rfl) ?_ | refine zb rfl rfl rfl rfl (zq rfl rfl rfl) ?_)
  refine zM rfl rfl ⟨⟨_,rfl,?_⟩,rfl⟩
  rcases Nat.lt_or_ge la.length lb.length with h1 | h1
  ·exact .inl ⟨by omega,val_lt_len hDa hCb h1⟩
  ·exact .inr (.inr ⟨by omega,val_lt_len hDb hCa (by omega)⟩)
 simp only [Bool.not_eq_false',decide_eq_true_eq] at h
 have hll:la.length=lb.length:=by omega
 repeat (first | refine zg ?_ | refine WC.block ?_ | refine zc ?_ | refine zh ?_ | refine za ?_ | refine zt ?_ | refine zy ?_ | refine zx ?_ | refine zm ?_ | refine zi ?_ | refine zf ?_ | refine zn ?_ | refine zk ?_ | refine zl rfl ?_ | refine zv ?_ | refine zw ?_ | refine zj ?_ | refine zp ?_ | refine zo ?_ | refine zd rfl (Yld.add rfl rfl (by simp only [In]; omega)) ?_ | refine zd rfl (Yld.sub rfl rfl (by simp only [In]; omega)) ?_ | refine zd rfl (zC rfl rfl (by simp only [In]; omega)) ?_ | refine zd rfl (zr qH rfl rfl rfl rfl) ?_ | refine zd rfl (zu qH rfl rfl rfl (by simp only [In]; omega)) ?_ | refine zd rfl (zz rfl rfl (by omega) (by omega) (by simp only [In]; omega)) ?_ | refine zd rfl (zA rfl rfl (by omega) (by omega)) ?_ | refine zd rfl (zI rfl rfl (by omega)) ?_ | refine zd rfl (zG rfl rfl (by omega)) ?_ | refine zd rfl (ze qH rfl) ?_ | refine zd rfl (zF qJ rfl rfl rfl) ?_ | refine zd rfl (zD rfl rfl) ?_ | refine zd rfl (zB rfl rfl) ?_ | refine zd rfl (zq rfl rfl rfl) ?_ | refine zJ rfl rfl rfl rfl ?_ | refine zb rfl rfl rfl rfl (Yld.add rfl rfl (by simp only [In]; omega)) ?_ | refine zb rfl rfl rfl rfl (Yld.sub rfl rfl (by simp only [In]; omega)) ?_ | refine zb rfl rfl rfl rfl (zC rfl rfl (by simp only [In]; omega)) ?_ | refine zb rfl rfl rfl rfl (zr qH rfl rfl rfl rfl) ?_ | refine zb rfl rfl rfl rfl (zu qH rfl rfl rfl (by simp only [In]; omega)) ?_ | refine zb rfl rfl rfl rfl (zz rfl rfl (by omega) (by omega) (by simp only [In]; omega)) ?_ | refine zb rfl rfl rfl rfl (zA rfl rfl (by omega) (by omega)) ?_ | refine zb rfl rfl rfl rfl (zI rfl rfl (by omega)) ?_ | refine zb rfl rfl rfl rfl (zG rfl rfl (by omega)) ?_ | refine zb rfl rfl rfl rfl (ze qH rfl) ?_ | refine zb rfl rfl rfl rfl (zF qJ rfl rfl rfl) ?_ | refine zb rfl rfl rfl rfl (zD rfl rfl) ?_ | refine zb rfl rfl rfl rfl (zB rfl rfl) ?_ | refine zb rfl rfl rfl rfl (zq rfl rfl rfl) ?_)
 refine WC.loop (S:=Nat) (fun j=>j) (fun j=>[(5,.int .i64 ((j:Int) - 1)),(0,.slice A la.length c),(1,.slice B lb.length cb)])
  (fun j w2=>j<=la.length/\val la+val (lb.take j)=val lb+val (la.take j)/\w2=w) la.length ⟨by omega,by rw [List.take_of_length_le (Nat.le_refl _),List.take_of_length_le (by omega)]; omega,rfl⟩ (by repeat (first | exact zS | refine Sub.cons rfl ?_)) (fun j w2 ⟨hj,hv,hw2⟩=>?_)
 subst hw2
 repeat (first | refine zg ?_ | refine WC.block ?_ | refine zc ?_ | refine zh ?_ | refine za ?_ | refine zt ?_ | refine zy ?_ | refine zx ?_ | refine zm ?_ | refine zi ?_ | refine zf ?_ | refine zn ?_ | refine zk ?_ | refine zl rfl ?_ | refine zv ?_ | refine zw ?_ | refine zj ?_ | refine zp ?_ | refine zo ?_ | refine zd rfl (Yld.add rfl rfl (by simp only [In]; omega)) ?_ | refine zd rfl (Yld.sub rfl rfl (by simp only [In]; omega)) ?_ | refine zd rfl (zC rfl rfl (by simp only [In]; omega)) ?_ | refine zd rfl (zr qH rfl rfl rfl rfl) ?_ | refine zd rfl (zu qH rfl rfl rfl (by simp only [In]; omega)) ?_ | refine zd rfl (zz rfl rfl (by omega) (by omega) (by simp only [In]; omega)) ?_ | refine zd rfl (zA rfl rfl (by omega) (by omega)) ?_ | refine zd rfl (zI rfl rfl (by omega)) ?_ | refine zd rfl (zG rfl rfl (by omega)) ?_ | refine zd rfl (ze qH rfl) ?_ | refine zd rfl (zF qJ rfl rfl rfl) ?_ | refine zd rfl (zD rfl rfl) ?_ | refine zd rfl (zB rfl rfl) ?_ | refine zd rfl (zq rfl rfl rfl) ?_ | refine zJ rfl rfl rfl rfl ?_ | refine zb rfl rfl rfl rfl (Yld.add rfl rfl (by simp only [In]; omega)) ?_ | refine zb rfl rfl rfl rfl (Yld.sub rfl rfl (by simp only [In]; omega)) ?_ | refine zb rfl rfl rfl rfl (zC rfl rfl (by simp only [In]; omega)) ?_ | refine zb rfl rfl rfl rfl (zr qH rfl rfl rfl rfl) ?_ | refine zb rfl rfl rfl rfl (zu qH rfl rfl rfl (by simp only [In]; omega)) ?_ | refine zb rfl rfl rfl rfl (zz rfl rfl (by omega) (by omega) (by simp only [In]; omega)) ?_ | refine zb rfl rfl rfl rfl (zA rfl rfl (by omega) (by omega)) ?_ | refine zb rfl rfl rfl rfl (zI rfl rfl (by omega)) ?_ | refine zb rfl rfl rfl rfl (zG rfl rfl (by omega)) ?_ | refine zb rfl rfl rfl rfl (ze qH rfl) ?_ | refine zb rfl rfl rfl rfl (zF qJ rfl rfl rfl) ?_ | refine zb rfl rfl rfl rfl (zD rfl rfl) ?_ | refine zb rfl rfl rfl rfl (zB rfl rfl) ?_ | refine zb rfl rfl rfl rfl (zq rfl rfl rfl) ?_)
 refine zE rfl (fun h=>?_) (fun h=>?_)
 ·simp only [decide_eq_true_eq] at h
  obtain ⟨i,rfl⟩:∃ i,j=i+1:=⟨j - 1,by omega⟩
  have hjt:(((i+1:Nat):Int) - 1).toNat=i:=by omega
  have hda:=hDa i
  have hdb:=hDb i
  repeat (first | refine zg ?_ | refine WC.block ?_ | refine zc ?_ | refine zh ?_ | refine za ?_ | refine zt ?_ | refine zy ?_ | refine zx ?_ | refine zm ?_ | refine zi ?_ | refine zf ?_ | refine zn ?_ | refine zk ?_ | refine zl rfl ?_ | refine zv ?_ | refine zw ?_ | refine zj ?_ | refine zp ?_ | refine zo ?_ | refine zd rfl (Yld.add rfl rfl (by simp only [In]; omega)) ?_ | refine zd rfl (Yld.sub rfl rfl (by simp only [In]; omega)) ?_ | refine zd rfl (zC rfl rfl (by simp only [In]; omega)) ?_ | refine zd rfl (zr qH rfl rfl rfl rfl) ?_ | refine zd rfl (zu qH rfl rfl rfl (by simp only [In]; omega)) ?_ | refine zd rfl (zz rfl rfl (by omega) (by omega) (by simp only [In]; omega)) ?_ | refine zd rfl (zA rfl rfl (by omega) (by omega)) ?_ | refine zd rfl (zI rfl rfl (by omega)) ?_ | refine zd rfl (zG rfl rfl (by omega)) ?_ | refine zd rfl (ze qH rfl) ?_ | refine zd rfl (zF qJ rfl rfl rfl) ?_ | refine zd rfl (zD rfl rfl) ?_ | refine zd rfl (zB rfl rfl) ?_ | refine zd rfl (zq rfl rfl rfl) ?_ | refine zJ rfl rfl rfl rfl ?_ | refine zb rfl rfl rfl rfl (Yld.add rfl rfl (by simp only [In]; omega)) ?_ | refine zb rfl rfl rfl rfl (Yld.sub rfl rfl (by simp only [In]; omega)) ?_ | refine zb rfl rfl rfl rfl (zC rfl rfl (by simp only [In]; omega)) ?_ | refine zb rfl rfl rfl rfl (zr qH rfl rfl rfl rfl) ?_ | refine zb rfl rfl rfl rfl (zu qH rfl rfl rfl (by simp only [In]; omega)) ?_ | refine zb rfl rfl rfl rfl (zz rfl rfl (by omega) (by omega) (by simp only [In]; omega)) ?_ | refine zb rfl rfl rfl rfl (zA rfl rfl (by omega) (by omega)) ?_ | refine zb rfl rfl rfl rfl (zI rfl rfl (by omega)) ?_ | refine zb rfl rfl rfl rfl (zG rfl rfl (by omega)) ?_ | refine zb rfl rfl rfl rfl (ze qH rfl) ?_ | refine zb rfl rfl rfl rfl (zF qJ rfl rfl rfl) ?_ | refine zb rfl rfl rfl rfl (zD rfl rfl) ?_ | refine zb rfl rfl rfl rfl (zB rfl rfl) ?_ | refine zb rfl rfl rfl rfl (zq rfl rfl rfl) ?_)
  refine ql jg (by kernel_rfl) ?_
  repeat (first | refine z8 rfl (qm qH hA rfl rfl rfl rfl (by omega) (by omega)) ?_ | refine z8 rfl (qm qH hB rfl rfl rfl rfl (by omega) (by omega)) ?_ | refine z8 rfl (zQ 0 qH hA rfl rfl (by omega)) ?_ | refine z8 rfl (zQ 0 qH hB rfl rfl (by omega)) ?_ | refine z8 rfl (Yld.add rfl rfl (by simp only [In]; omega)) ?_ | refine z8 rfl (Yld.sub rfl rfl (by simp only [In]; omega)) ?_ | refine z8 rfl (zC rfl rfl (by simp only [In]; omega)) ?_ | refine z8 rfl (zr qH rfl rfl rfl rfl) ?_ | refine z8 rfl (zu qH rfl rfl rfl (by simp only [In]; omega)) ?_ | refine z8 rfl (zz rfl rfl (by omega) (by omega) (by simp only [In]; omega)) ?_ | refine z8 rfl (zA rfl rfl (by omega) (by omega)) ?_ | refine z8 rfl (zI rfl rfl (by omega)) ?_ | refine z8 rfl (zG rfl rfl (by omega)) ?_ | refine z8 rfl (ze qH rfl) ?_ | refine z8 rfl (zF qJ rfl rfl rfl) ?_ | refine z8 rfl (zD rfl rfl) ?_ | refine z8 rfl (zB rfl rfl) ?_ | refine z8 rfl (zq rfl rfl rfl) ?_ | refine WQ.gno rfl rfl rfl rfl ?_ | refine z6 rfl rfl rfl rfl (Yld.add rfl rfl (by simp only [In]; omega)) ?_ | refine z6 rfl rfl rfl rfl (Yld.sub rfl rfl (by simp only [In]; omega)) ?_ | refine z6 rfl rfl rfl rfl (zC rfl rfl (by simp only [In]; omega)) ?_ | refine z6 rfl rfl rfl rfl (zr qH rfl rfl rfl rfl) ?_ | refine z6 rfl rfl rfl rfl (zu qH rfl rfl rfl (by simp only [In]; omega)) ?_ | refine z6 rfl rfl rfl rfl (zz rfl rfl (by omega) (by omega) (by simp only [In]; omega)) ?_ | refine z6 rfl rfl rfl rfl (zA rfl rfl (by omega) (by omega)) ?_ | refine z6 rfl rfl rfl rfl (zI rfl rfl (by omega)) ?_ | refine z6 rfl rfl rfl rfl (zG rfl rfl (by omega)) ?_ | refine z6 rfl rfl rfl rfl (ze qH rfl) ?_ | refine z6 rfl rfl rfl rfl (zF qJ rfl rfl rfl) ?_ | refine z6 rfl rfl rfl rfl (zD rfl rfl) ?_ | refine z6 rfl rfl rfl rfl (zB rfl rfl) ?_ | refine z6 rfl rfl rfl rfl (zq rfl rfl rfl) ?_)
  refine qu ?_
  rw [hjt]
  repeat (first | refine zg ?_ | refine WC.block ?_ | refine zc ?_ | refine zh ?_ | refine za ?_ | refine zt ?_ | refine zy ?_ | refine zx ?_ | refine zm ?_ | refine zi ?_ | refine zf ?_ | refine zn ?_ | refine zk ?_ | refine zl rfl ?_ | refine zv ?_ | refine zw ?_ | refine zj ?_ | refine zp ?_ | refine zo ?_ | refine zd rfl (Yld.add rfl rfl (by simp only [In]; omega)) ?_ | refine zd rfl (Yld.sub rfl rfl (by simp only [In]; omega)) ?_ | refine zd rfl (zC rfl rfl (by simp only [In]; omega)) ?_ | refine zd rfl (zr qH rfl rfl rfl rfl) ?_ | refine zd rfl (zu qH rfl rfl rfl (by simp only [In]; omega)) ?_ | refine zd rfl (zz rfl rfl (by omega) (by omega) (by simp only [In]; omega)) ?_ | refine zd rfl (zA rfl rfl (by omega) (by omega)) ?_ | refine zd rfl (zI rfl rfl (by omega)) ?_ | refine zd rfl (zG rfl rfl (by omega)) ?_ | refine zd rfl (ze qH rfl) ?_ | refine zd rfl (zF qJ rfl rfl rfl) ?_ | refine zd rfl (zD rfl rfl) ?_ | refine zd rfl (zB rfl rfl) ?_ | refine zd rfl (zq rfl rfl rfl) ?_ | refine zJ rfl rfl rfl rfl ?_ | refine zb rfl rfl rfl rfl (Yld.add rfl rfl (by simp only [In]; omega)) ?_ | refine zb rfl rfl rfl rfl (Yld.sub rfl rfl (by simp only [In]; omega)) ?_ | refine zb rfl rfl rfl rfl (zC rfl rfl (by simp only [In]; omega)) ?_ | refine zb rfl rfl rfl rfl (zr qH rfl rfl rfl rfl) ?_ | refine zb rfl rfl rfl rfl (zu qH rfl rfl rfl (by simp only [In]; omega)) ?_ | refine zb rfl rfl rfl rfl (zz rfl rfl (by omega) (by omega) (by simp only [In]; omega)) ?_ | refine zb rfl rfl rfl rfl (zA rfl rfl (by omega) (by omega)) ?_ | refine zb rfl rfl rfl rfl (zI rfl rfl (by omega)) ?_ | refine zb rfl rfl rfl rfl (zG rfl rfl (by omega)) ?_ | refine zb rfl rfl rfl rfl (ze qH rfl) ?_ | refine zb rfl rfl rfl rfl (zF qJ rfl rfl rfl) ?_ | refine zb rfl rfl rfl rfl (zD rfl rfl) ?_ | refine zb rfl rfl rfl rfl (zB rfl rfl) ?_ | refine zb rfl rfl rfl rfl (zq rfl rfl rfl) ?_)
  refine zE rfl (fun h=>?_) (fun h=>?_)
  ·simp only [Bool.not_eq_true',decide_eq_false_iff_not] at h
   repeat (first | refine zg ?_ | refine WC.block ?_ | refine zc ?_ | refine zh ?_ | refine za ?_ | refine zt ?_ | refine zy ?_ | refine zx ?_ | refine zm ?_ | refine zi ?_ | refine zf ?_ | refine zn ?_ | refine zk ?_ | refine zl rfl ?_ | refine zv ?_ | refine zw ?_ | refine zj ?_ | refine zp ?_ | refine zo ?_ | refine zd rfl (Yld.add rfl rfl (by simp only [In]; omega)) ?_ | refine zd rfl (Yld.sub rfl rfl (by simp only [In]; omega)) ?_ | refine zd rfl (zC rfl rfl (by simp only [In]; omega)) ?_ | refine zd rfl (zr qH rfl rfl rfl rfl) ?_ | refine zd rfl (zu qH rfl rfl rfl (by simp only [In]; omega)) ?_ | refine zd rfl (zz rfl rfl (by omega) (by omega) (by simp only [In]; omega)) ?_ | refine zd rfl (zA rfl rfl (by omega) (by omega)) ?_ | refine zd rfl (zI rfl rfl (by omega)) ?_ | refine zd rfl (zG rfl rfl (by omega)) ?_ | refine zd rfl (ze qH rfl) ?_ | refine zd rfl (zF qJ rfl rfl rfl) ?_ | refine zd rfl (zD rfl rfl) ?_ | refine zd rfl (zB rfl rfl) ?_ | refine zd rfl (zq rfl rfl rfl) ?_ | refine zJ rfl rfl rfl rfl ?_ | refine zb rfl rfl rfl rfl (Yld.add rfl rfl (by simp only [In]; omega)) ?_ | refine zb rfl rfl rfl rfl (Yld.sub rfl rfl (by simp only [In]; omega)) ?_ | refine zb rfl rfl rfl rfl (zC rfl rfl (by simp only [In]; omega)) ?_ | refine zb rfl rfl rfl rfl (zr qH rfl rfl rfl rfl) ?_ | refine zb rfl rfl rfl rfl (zu qH rfl rfl rfl (by simp only [In]; omega)) ?_ | refine zb rfl rfl rfl rfl (zz rfl rfl (by omega) (by omega) (by simp only [In]; omega)) ?_ | refine zb rfl rfl rfl rfl (zA rfl rfl (by omega) (by omega)) ?_ | refine zb rfl rfl rfl rfl (zI rfl rfl (by omega)) ?_ | refine zb rfl rfl rfl rfl (zG rfl rfl (by omega)) ?_ | refine zb rfl rfl rfl rfl (ze qH rfl) ?_ | refine zb rfl rfl rfl rfl (zF qJ rfl rfl rfl) ?_ | refine zb rfl rfl rfl rfl (zD rfl rfl) ?_ | refine zb rfl rfl rfl rfl (zB rfl rfl) ?_ | refine zb rfl rfl rfl rfl (zq rfl rfl rfl) ?_)
   refine ql jg (by kernel_rfl) ?_
   have hda2:la.getD (((i+1:Nat):Int) - 1).toNat 0<1000000000:=by rw [hjt]; exact hda
   have hdb2:lb.getD (((i+1:Nat):Int) - 1).toNat 0<1000000000:=by rw [hjt]; exact hdb
   repeat (first | refine z8 rfl (qm qH hA rfl rfl rfl rfl (by omega) (by omega)) ?_ | refine z8 rfl (qm qH hB rfl rfl rfl rfl (by omega) (by omega)) ?_ | refine z8 rfl (zQ 0 qH hA rfl rfl (by omega)) ?_ | refine z8 rfl (zQ 0 qH hB rfl rfl (by omega)) ?_ | refine z8 rfl (Yld.add rfl rfl (by simp only [In]; omega)) ?_ | refine z8 rfl (Yld.sub rfl rfl (by simp only [In]; omega)) ?_ | refine z8 rfl (zC rfl rfl (by simp only [In]; omega)) ?_ | refine z8 rfl (zr qH rfl rfl rfl rfl) ?_ | refine z8 rfl (zu qH rfl rfl rfl (by simp only [In]; omega)) ?_ | refine z8 rfl (zz rfl rfl (by omega) (by omega) (by simp only [In]; omega)) ?_ | refine z8 rfl (zA rfl rfl (by omega) (by omega)) ?_ | refine z8 rfl (zI rfl rfl (by omega)) ?_ | refine z8 rfl (zG rfl rfl (by omega)) ?_ | refine z8 rfl (ze qH rfl) ?_ | refine z8 rfl (zF qJ rfl rfl rfl) ?_ | refine z8 rfl (zD rfl rfl) ?_ | refine z8 rfl (zB rfl rfl) ?_ | refine z8 rfl (zq rfl rfl rfl) ?_ | refine WQ.gno rfl rfl rfl rfl ?_ | refine z6 rfl rfl rfl rfl (Yld.add rfl rfl (by simp only [In]; omega)) ?_ | refine z6 rfl rfl rfl rfl (Yld.sub rfl rfl (by simp only [In]; omega)) ?_ | refine z6 rfl rfl rfl rfl (zC rfl rfl (by simp only [In]; omega)) ?_ | refine z6 rfl rfl rfl rfl (zr qH rfl rfl rfl rfl) ?_ | refine z6 rfl rfl rfl rfl (zu qH rfl rfl rfl (by simp only [In]; omega)) ?_ | refine z6 rfl rfl rfl rfl (zz rfl rfl (by omega) (by omega) (by simp only [In]; omega)) ?_ | refine z6 rfl rfl rfl rfl (zA rfl rfl (by omega) (by omega)) ?_ | refine z6 rfl rfl rfl rfl (zI rfl rfl (by omega)) ?_ | refine z6 rfl rfl rfl rfl (zG rfl rfl (by omega)) ?_ | refine z6 rfl rfl rfl rfl (ze qH rfl) ?_ | refine z6 rfl rfl rfl rfl (zF qJ rfl rfl rfl) ?_ | refine z6 rfl rfl rfl rfl (zD rfl rfl) ?_ | refine z6 rfl rfl rfl rfl (zB rfl rfl) ?_ | refine z6 rfl rfl rfl rfl (zq rfl rfl rfl) ?_)
   refine qu ?_
   rw [hjt]
   repeat (first | refine zg ?_ | refine WC.block ?_ | refine zc ?_ | refine zh ?_ | refine za ?_ | refine zt ?_ | refine zy ?_ | refine zx ?_ | refine zm ?_ | refine zi ?_ | refine zf ?_ | refine zn ?_ | refine zk ?_ | refine zl rfl ?_ | refine zv ?_ | refine zw ?_ | refine zj ?_ | refine zp ?_ | refine zo ?_ | refine zd rfl (Yld.add rfl rfl (by simp only [In]; omega)) ?_ | refine zd rfl (Yld.sub rfl rfl (by simp only [In]; omega)) ?_ | refine zd rfl (zC rfl rfl (by simp only [In]; omega)) ?_ | refine zd rfl (zr qH rfl rfl rfl rfl) ?_ | refine zd rfl (zu qH rfl rfl rfl (by simp only [In]; omega)) ?_ | refine zd rfl (zz rfl rfl (by omega) (by omega) (by simp only [In]; omega)) ?_ | refine zd rfl (zA rfl rfl (by omega) (by omega)) ?_ | refine zd rfl (zI rfl rfl (by omega)) ?_ | refine zd rfl (zG rfl rfl (by omega)) ?_ | refine zd rfl (ze qH rfl) ?_ | refine zd rfl (zF qJ rfl rfl rfl) ?_ | refine zd rfl (zD rfl rfl) ?_ | refine zd rfl (zB rfl rfl) ?_ | refine zd rfl (zq rfl rfl rfl) ?_ | refine zJ rfl rfl rfl rfl ?_ | refine zb rfl rfl rfl rfl (Yld.add rfl rfl (by simp only [In]; omega)) ?_ | refine zb rfl rfl rfl rfl (Yld.sub rfl rfl (by simp only [In]; omega)) ?_ | refine zb rfl rfl rfl rfl (zC rfl rfl (by simp only [In]; omega)) ?_ | refine zb rfl rfl rfl rfl (zr qH rfl rfl rfl rfl) ?_ | refine zb rfl rfl rfl rfl (zu qH rfl rfl rfl (by simp only [In]; omega)) ?_ | refine zb rfl rfl rfl rfl (zz rfl rfl (by omega) (by omega) (by simp only [In]; omega)) ?_ | refine zb rfl rfl rfl rfl (zA rfl rfl (by omega) (by omega)) ?_ | refine zb rfl rfl rfl rfl (zI rfl rfl (by omega)) ?_ | refine zb rfl rfl rfl rfl (zG rfl rfl (by omega)) ?_ | refine zb rfl rfl rfl rfl (ze qH rfl) ?_ | refine zb rfl rfl rfl rfl (zF qJ rfl rfl rfl) ?_ | refine zb rfl rfl rfl rfl (zD rfl rfl) ?_ | refine zb rfl rfl rfl rfl (zB rfl rfl) ?_ | refine zb rfl rfl rfl rfl (zq rfl rfl rfl) ?_)
   refine zM rfl rfl ⟨⟨_,rfl,?_⟩,rfl⟩
   rcases Nat.lt_or_ge (la.getD i 0) (lb.getD i 0) with h1 | h1
   ·have:=take_less hDa i h1
    exact .inl ⟨by omega,by omega⟩
   ·have:=take_less (la:=lb) (lb:=la) hDb i (by omega)
    exact .inr (.inr ⟨by omega,by omega⟩)
  ·simp only [Bool.not_eq_false',decide_eq_true_eq] at h
   repeat (first | refine zg ?_ | refine WC.block ?_ | refine zc ?_ | refine zh ?_ | refine za ?_ | refine zt ?_ | refine zy ?_ | refine zx ?_ | refine zm ?_ | refine zi ?_ | refine zf ?_ | refine zn ?_ | refine zk ?_ | refine zl rfl ?_ | refine zv ?_ | refine zw ?_ | refine zj ?_ | refine zp ?_ | refine zo ?_ | refine zd rfl (Yld.add rfl rfl (by simp only [In]; omega)) ?_ | refine zd rfl (Yld.sub rfl rfl (by simp only [In]; omega)) ?_ | refine zd rfl (zC rfl rfl (by simp only [In]; omega)) ?_ | refine zd rfl (zr qH rfl rfl rfl rfl) ?_ | refine zd rfl (zu qH rfl rfl rfl (by simp only [In]; omega)) ?_ | refine zd rfl (zz rfl rfl (by omega) (by omega) (by simp only [In]; omega)) ?_ | refine zd rfl (zA rfl rfl (by omega) (by omega)) ?_ | refine zd rfl (zI rfl rfl (by omega)) ?_ | refine zd rfl (zG rfl rfl (by omega)) ?_ | refine zd rfl (ze qH rfl) ?_ | refine zd rfl (zF qJ rfl rfl rfl) ?_ | refine zd rfl (zD rfl rfl) ?_ | refine zd rfl (zB rfl rfl) ?_ | refine zd rfl (zq rfl rfl rfl) ?_ | refine zJ rfl rfl rfl rfl ?_ | refine zb rfl rfl rfl rfl (Yld.add rfl rfl (by simp only [In]; omega)) ?_ | refine zb rfl rfl rfl rfl (Yld.sub rfl rfl (by simp only [In]; omega)) ?_ | refine zb rfl rfl rfl rfl (zC rfl rfl (by simp only [In]; omega)) ?_ | refine zb rfl rfl rfl rfl (zr qH rfl rfl rfl rfl) ?_ | refine zb rfl rfl rfl rfl (zu qH rfl rfl rfl (by simp only [In]; omega)) ?_ | refine zb rfl rfl rfl rfl (zz rfl rfl (by omega) (by omega) (by simp only [In]; omega)) ?_ | refine zb rfl rfl rfl rfl (zA rfl rfl (by omega) (by omega)) ?_ | refine zb rfl rfl rfl rfl (zI rfl rfl (by omega)) ?_ | refine zb rfl rfl rfl rfl (zG rfl rfl (by omega)) ?_ | refine zb rfl rfl rfl rfl (ze qH rfl) ?_ | refine zb rfl rfl rfl rfl (zF qJ rfl rfl rfl) ?_ | refine zb rfl rfl rfl rfl (zD rfl rfl) ?_ | refine zb rfl rfl rfl rfl (zB rfl rfl) ?_ | refine zb rfl rfl rfl rfl (zq rfl rfl rfl) ?_)
   have hsl:((i+1:Nat):Int) - 1 - 1=(i:Int) - 1:=by omega
   rw [hsl]
   refine WX.round i ⟨by omega,?_,rfl⟩ (by omega) (by repeat (first | exact zS | refine Sub.cons rfl ?_))
   have h1:=j4 la i
   have h2:=j4 lb i
   have h3:la.getD i 0=lb.getD i 0:=by omega
   rw [h3] at h1
   omega
 ·simp only [decide_eq_false_iff_not] at h
  obtain rfl:j=0:=by omega
  repeat (first | refine zg ?_ | refine WC.block ?_ | refine zc ?_ | refine zh ?_ | refine za ?_ | refine zt ?_ | refine zy ?_ | refine zx ?_ | refine zm ?_ | refine zi ?_ | refine zf ?_ | refine zn ?_ | refine zk ?_ | refine zl rfl ?_ | refine zv ?_ | refine zw ?_ | refine zj ?_ | refine zp ?_ | refine zo ?_ | refine zd rfl (Yld.add rfl rfl (by simp only [In]; omega)) ?_ | refine zd rfl (Yld.sub rfl rfl (by simp only [In]; omega)) ?_ | refine zd rfl (zC rfl rfl (by simp only [In]; omega)) ?_ | refine zd rfl (zr qH rfl rfl rfl rfl) ?_ | refine zd rfl (zu qH rfl rfl rfl (by simp only [In]; omega)) ?_ | refine zd rfl (zz rfl rfl (by omega) (by omega) (by simp only [In]; omega)) ?_ | refine zd rfl (zA rfl rfl (by omega) (by omega)) ?_ | refine zd rfl (zI rfl rfl (by omega)) ?_ | refine zd rfl (zG rfl rfl (by omega)) ?_ | refine zd rfl (ze qH rfl) ?_ | refine zd rfl (zF qJ rfl rfl rfl) ?_ | refine zd rfl (zD rfl rfl) ?_ | refine zd rfl (zB rfl rfl) ?_ | refine zd rfl (zq rfl rfl rfl) ?_ | refine zJ rfl rfl rfl rfl ?_ | refine zb rfl rfl rfl rfl (Yld.add rfl rfl (by simp only [In]; omega)) ?_ | refine zb rfl rfl rfl rfl (Yld.sub rfl rfl (by simp only [In]; omega)) ?_ | refine zb rfl rfl rfl rfl (zC rfl rfl (by simp only [In]; omega)) ?_ | refine zb rfl rfl rfl rfl (zr qH rfl rfl rfl rfl) ?_ | refine zb rfl rfl rfl rfl (zu qH rfl rfl rfl (by simp only [In]; omega)) ?_ | refine zb rfl rfl rfl rfl (zz rfl rfl (by omega) (by omega) (by simp only [In]; omega)) ?_ | refine zb rfl rfl rfl rfl (zA rfl rfl (by omega) (by omega)) ?_ | refine zb rfl rfl rfl rfl (zI rfl rfl (by omega)) ?_ | refine zb rfl rfl rfl rfl (zG rfl rfl (by omega)) ?_ | refine zb rfl rfl rfl rfl (ze qH rfl) ?_ | refine zb rfl rfl rfl rfl (zF qJ rfl rfl rfl) ?_ | refine zb rfl rfl rfl rfl (zD rfl rfl) ?_ | refine zb rfl rfl rfl rfl (zB rfl rfl) ?_ | refine zb rfl rfl rfl rfl (zq rfl rfl rfl) ?_)
  refine zM rfl rfl ⟨⟨0,rfl,.inr (.inl ⟨rfl,?_⟩)⟩,rfl⟩
  simpa [val] using hv
end
 section
open Go Go.RowKit
attribute [local irreducible] WL WC WX WQ Yld Eff Fn
theorem Rd.apart {α:Type} {f:α->Value} {w:World} {A:Option Addr} {c g:Nat} {e:TypeId} {xs:List α} {us:List Value} (h:Rd f w A c xs) (hB:Bl w g e us) (hn:∀ u∈us,∀ x,u≠f x) (hx:xs≠[]):blk A≠some g:=by
 intro e1
 obtain ⟨ad,rfl,hc⟩:=h.cells hx
 obtain ⟨x,l,rfl⟩:=List.exists_cons_of_ne_nil hx
 have h0:=hc 0 x rfl
 have hb:(ad.add 0).block=g:=by rw [addr_block]; simpa [blk] using e1
 unfold World.cell? at h0
 unfold Bl at hB
 rw [hb,hB] at h0
 simp only at h0
 split at h0
 ·cases h0
 ·have h1:us[(ad.add 0).off]? = some (f x):=by simpa using h0
  exact hn _ (List.mem_of_getElem? h1) x rfl
theorem Nm.stored {w w':World} {g:Nat} {e:TypeId} {us:List Value} {v:Value} {z:Int} {m:Nat} (h:Nm w v z m) (hB:Bl w g e us) (hn:∀ u∈us,∀ x,u≠vd x) (hg:w.grownBy w' (some g)):Nm w' v z m:=by
 obtain ⟨neg,A,c,l,h1,h2,h3⟩:=h
 exact ⟨neg,A,c,l,h1,h2.keep' hg (fun hne q hq=>by injection hq with hq; subst hq; exact h2.apart hB hn hne),h3⟩
theorem Nm.agg {w:World} {v:Value} {z:Int} {m:Nat} (h:Nm w v z m):∃ a b,v=.agg ⟨[a,b]⟩/\a.oneCell'=true/\b.oneCell'=true:=by
 obtain ⟨neg,A,c,l,h1,_⟩:=h
 exact ⟨_,_,h1,rfl,rfl⟩
theorem jk:∀ u∈[Value.bool false,Value.slice none 0 0],∀ x,u≠vd x:=by
 intro u hu x
 simp only [List.mem_cons,List.not_mem_nil,or_false] at hu
 rcases hu with rfl | rfl <;> intro e <;> cases e
theorem neg_fn (v:Value) (z:Int) (m:Nat) (w:World) (h:Nm w v z m) (hm:m<=1000000):Fn Tryz.prog 107 ⟨[v]⟩ w fun r w'=>Nm w' r (-z) m/\w.grownBy w' none:=by
 obtain ⟨neg,A,c,l,rfl,hR,hD,hC,hl,hn,rfl⟩:=h
 refine Fn.enter (by kernel_rfl) Tryz.func107 rfl Tryz.ntmps107 rfl ?_
 repeat (first | refine zg ?_ | refine WC.block ?_ | refine zc ?_ | refine zh ?_ | refine za ?_ | refine zt ?_ | refine zy ?_ | refine zx ?_ | refine zm ?_ | refine zi ?_ | refine zf ?_ | refine zn ?_ | refine zk ?_ | refine zl rfl ?_ | refine zv ?_ | refine zw ?_ | refine zj ?_ | refine zp ?_ | refine zo ?_ | refine zd rfl (Yld.add rfl rfl (by simp only [In]; omega)) ?_ | refine zd rfl (Yld.sub rfl rfl (by simp only [In]; omega)) ?_ | refine zd rfl (zC rfl rfl (by simp only [In]; omega)) ?_ | refine zd rfl (zr qH rfl rfl rfl rfl) ?_ | refine zd rfl (zu qH rfl rfl rfl (by simp only [In]; omega)) ?_ | refine zd rfl (zz rfl rfl (by omega) (by omega) (by simp only [In]; omega)) ?_ | refine zd rfl (zA rfl rfl (by omega) (by omega)) ?_ | refine zd rfl (zI rfl rfl (by omega)) ?_ | refine zd rfl (zG rfl rfl (by omega)) ?_ | refine zd rfl (ze qH rfl) ?_ | refine zd rfl (zF qJ rfl rfl rfl) ?_ | refine zd rfl (zD rfl rfl) ?_ | refine zd rfl (zB rfl rfl) ?_ | refine zd rfl (zq rfl rfl rfl) ?_ | refine zJ rfl rfl rfl rfl ?_ | refine zb rfl rfl rfl rfl (Yld.add rfl rfl (by simp only [In]; omega)) ?_ | refine zb rfl rfl rfl rfl (Yld.sub rfl rfl (by simp only [In]; omega)) ?_ | refine zb rfl rfl rfl rfl (zC rfl rfl (by simp only [In]; omega)) ?_ | refine zb rfl rfl rfl rfl (zr qH rfl rfl rfl rfl) ?_ | refine zb rfl rfl rfl rfl (zu qH rfl rfl rfl (by simp only [In]; omega)) ?_ | refine zb rfl rfl rfl rfl (zz rfl rfl (by omega) (by omega) (by simp only [In]; omega)) ?_ | refine zb rfl rfl rfl rfl (zA rfl rfl (by omega) (by omega)) ?_ | refine zb rfl rfl rfl rfl (zI rfl rfl (by omega)) ?_ | refine zb rfl rfl rfl rfl (zG rfl rfl (by omega)) ?_ | refine zb rfl rfl rfl rfl (ze qH rfl) ?_ | refine zb rfl rfl rfl rfl (zF qJ rfl rfl rfl) ?_ | refine zb rfl rfl rfl rfl (zD rfl rfl) ?_ | refine zb rfl rfl rfl rfl (zB rfl rfl) ?_ | refine zb rfl rfl rfl rfl (zq rfl rfl rfl) ?_)
 refine z4 (us:=[.bool neg,.slice A l.length c]) rfl rfl rfl (fun g1 w1 hB1 hg1 hl1=>?_)
 repeat (first | refine zg ?_ | refine WC.block ?_ | refine zc ?_ | refine zh ?_ | refine za ?_ | refine zt ?_ | refine zy ?_ | refine zx ?_ | refine zm ?_ | refine zi ?_ | refine zf ?_ | refine zn ?_ | refine zk ?_ | refine zl rfl ?_ | refine zv ?_ | refine zw ?_ | refine zj ?_ | refine zp ?_ | refine zo ?_ | refine zd rfl (Yld.add rfl rfl (by simp only [In]; omega)) ?_ | refine zd rfl (Yld.sub rfl rfl (by simp only [In]; omega)) ?_ | refine zd rfl (zC rfl rfl (by simp only [In]; omega)) ?_ | refine zd rfl (zr qH rfl rfl rfl rfl) ?_ | refine zd rfl (zu qH rfl rfl rfl (by simp only [In]; omega)) ?_ | refine zd rfl (zz rfl rfl (by omega) (by omega) (by simp only [In]; omega)) ?_ | refine zd rfl (zA rfl rfl (by omega) (by omega)) ?_ | refine zd rfl (zI rfl rfl (by omega)) ?_ | refine zd rfl (zG rfl rfl (by omega)) ?_ | refine zd rfl (ze qH rfl) ?_ | refine zd rfl (zF qJ rfl rfl rfl) ?_ | refine zd rfl (zD rfl rfl) ?_ | refine zd rfl (zB rfl rfl) ?_ | refine zd rfl (zq rfl rfl rfl) ?_ | refine zJ rfl rfl rfl rfl ?_ | refine zb rfl rfl rfl rfl (Yld.add rfl rfl (by simp only [In]; omega)) ?_ | refine zb rfl rfl rfl rfl (Yld.sub rfl rfl (by simp only [In]; omega)) ?_ | refine zb rfl rfl rfl rfl (zC rfl rfl (by simp only [In]; omega)) ?_ | refine zb rfl rfl rfl rfl (zr qH rfl rfl rfl rfl) ?_ | refine zb rfl rfl rfl rfl (zu qH rfl rfl rfl (by simp only [In]; omega)) ?_ | refine zb rfl rfl rfl rfl (zz rfl rfl (by omega) (by omega) (by simp only [In]; omega)) ?_ | refine zb rfl rfl rfl rfl (zA rfl rfl (by omega) (by omega)) ?_ | refine zb rfl rfl rfl rfl (zI rfl rfl (by omega)) ?_ | refine zb rfl rfl rfl rfl (zG rfl rfl (by omega)) ?_ | refine zb rfl rfl rfl rfl (ze qH rfl) ?_ | refine zb rfl rfl rfl rfl (zF qJ rfl rfl rfl) ?_ | refine zb rfl rfl rfl rfl (zD rfl rfl) ?_ | refine zb rfl rfl rfl rfl (zB rfl rfl) ?_ | refine zb rfl rfl rfl rfl (zq rfl rfl rfl) ?_)
 refine WL.alloc rfl qX (fun g2 w2 hB2 hg2 hl2=>?_)
 have hB12:=hB1.keep hg2 (by simp)
 repeat (first | refine zd rfl (zH qH hB12 rfl rfl rfl) ?_ | refine zg ?_ | refine WC.block ?_ | refine zc ?_ | refine zh ?_ | refine za ?_ | refine zt ?_ | refine zy ?_ | refine zx ?_ | refine zm ?_ | refine zi ?_ | refine zf ?_ | refine zn ?_ | refine zk ?_ | refine zl rfl ?_ | refine zv ?_ | refine zw ?_ | refine zj ?_ | refine zp ?_ | refine zo ?_ | refine zd rfl (Yld.add rfl rfl (by simp only [In]; omega)) ?_ | refine zd rfl (Yld.sub rfl rfl (by simp only [In]; omega)) ?_ | refine zd rfl (zC rfl rfl (by simp only [In]; omega)) ?_ | refine zd rfl (zr qH rfl rfl rfl rfl) ?_ | refine zd rfl (zu qH rfl rfl rfl (by simp only [In]; omega)) ?_ | refine zd rfl (zz rfl rfl (by omega) (by omega) (by simp only [In]; omega)) ?_ | refine zd rfl (zA rfl rfl (by omega) (by omega)) ?_ | refine zd rfl (zI rfl rfl (by omega)) ?_ | refine zd rfl (zG rfl rfl (by omega)) ?_ | refine zd rfl (ze qH rfl) ?_ | refine zd rfl (zF qJ rfl rfl rfl) ?_ | refine zd rfl (zD rfl rfl) ?_ | refine zd rfl (zB rfl rfl) ?_ | refine zd rfl (zq rfl rfl rfl) ?_ | refine zJ rfl rfl rfl rfl ?_ | refine zb rfl rfl rfl rfl (Yld.add rfl rfl (by simp only [In]; omega)) ?_ | refine zb rfl rfl rfl rfl (Yld.sub rfl rfl (by simp only [In]; omega)) ?_ | refine zb rfl rfl rfl rfl (zC rfl rfl (by simp only [In]; omega)) ?_ | refine zb rfl rfl rfl rfl (zr qH rfl rfl rfl rfl) ?_ | refine zb rfl rfl rfl rfl (zu qH rfl rfl rfl (by simp only [In]; omega)) ?_ | refine zb rfl rfl rfl rfl (zz rfl rfl (by omega) (by omega) (by simp only [In]; omega)) ?_ | refine zb rfl rfl rfl rfl (zA rfl rfl (by omega) (by omega)) ?_ | refine zb rfl rfl rfl rfl (zI rfl rfl (by omega)) ?_ | refine zb rfl rfl rfl rfl (zG rfl rfl (by omega)) ?_ | refine zb rfl rfl rfl rfl (ze qH rfl) ?_ | refine zb rfl rfl rfl rfl (zF qJ rfl rfl rfl) ?_ | refine zb rfl rfl rfl rfl (zD rfl rfl) ?_ | refine zb rfl rfl rfl rfl (zB rfl rfl) ?_ | refine zb rfl rfl rfl rfl (zq rfl rfl rfl) ?_)
 have hg12:=qI hg1 hg2
 refine zK rfl rfl (js (!neg) A c l w2 (hR.grown hg12) hD (by omega)) ?_
 rintro r w3 ⟨hN,hg3⟩
 have hB23:=hB2.keep hg3 (by simp)
 have hlt1:=hg1.size
 obtain ⟨a,b,rfl,ha,hb⟩:=hN.agg
 refine zT (vs:=[a,b]) qH rfl rfl rfl (by intro u hu; simp at hu; rcases hu with rfl | rfl <;> assumption) hB23 rfl rfl (fun w4 hB4 hg4=>?_)
 repeat (first | refine zg ?_ | refine WC.block ?_ | refine zc ?_ | refine zh ?_ | refine za ?_ | refine zt ?_ | refine zy ?_ | refine zx ?_ | refine zm ?_ | refine zi ?_ | refine zf ?_ | refine zn ?_ | refine zk ?_ | refine zl rfl ?_ | refine zv ?_ | refine zw ?_ | refine zj ?_ | refine zp ?_ | refine zo ?_ | refine zd rfl (Yld.add rfl rfl (by simp only [In]; omega)) ?_ | refine zd rfl (Yld.sub rfl rfl (by simp only [In]; omega)) ?_ | refine zd rfl (zC rfl rfl (by simp only [In]; omega)) ?_ | refine zd rfl (zr qH rfl rfl rfl rfl) ?_ | refine zd rfl (zu qH rfl rfl rfl (by simp only [In]; omega)) ?_ | refine zd rfl (zz rfl rfl (by omega) (by omega) (by simp only [In]; omega)) ?_ | refine zd rfl (zA rfl rfl (by omega) (by omega)) ?_ | refine zd rfl (zI rfl rfl (by omega)) ?_ | refine zd rfl (zG rfl rfl (by omega)) ?_ | refine zd rfl (ze qH rfl) ?_ | refine zd rfl (zF qJ rfl rfl rfl) ?_ | refine zd rfl (zD rfl rfl) ?_ | refine zd rfl (zB rfl rfl) ?_ | refine zd rfl (zq rfl rfl rfl) ?_ | refine zJ rfl rfl rfl rfl ?_ | refine zb rfl rfl rfl rfl (Yld.add rfl rfl (by simp only [In]; omega)) ?_ | refine zb rfl rfl rfl rfl (Yld.sub rfl rfl (by simp only [In]; omega)) ?_ | refine zb rfl rfl rfl rfl (zC rfl rfl (by simp only [In]; omega)) ?_ | refine zb rfl rfl rfl rfl (zr qH rfl rfl rfl rfl) ?_ | refine zb rfl rfl rfl rfl (zu qH rfl rfl rfl (by simp only [In]; omega)) ?_ | refine zb rfl rfl rfl rfl (zz rfl rfl (by omega) (by omega) (by simp only [In]; omega)) ?_ | refine zb rfl rfl rfl rfl (zA rfl rfl (by omega) (by omega)) ?_ | refine zb rfl rfl rfl rfl (zI rfl rfl (by omega)) ?_ | refine zb rfl rfl rfl rfl (zG rfl rfl (by omega)) ?_ | refine zb rfl rfl rfl rfl (ze qH rfl) ?_ | refine zb rfl rfl rfl rfl (zF qJ rfl rfl rfl) ?_ | refine zb rfl rfl rfl rfl (zD rfl rfl) ?_ | refine zb rfl rfl rfl rfl (zB rfl rfl) ?_ | refine zb rfl rfl rfl rfl (zq rfl rfl rfl) ?_)
 have hz:(bif !neg then -(val l:Int) else (val l:Int)) = -(bif neg then -(val l:Int) else (val l:Int)):=by cases neg <;> simp
 rw [hz] at hN
 exact qc qH rfl rfl rfl hB4 rfl ⟨(hN.stored hB23 jk hg4).mono hl,jp (qI hg12 hg3) hg4 (by omega)⟩
end
 
section
open Go Go.RowKit
def dc (n:Nat):UInt8:=UInt8.ofNat (48+n % 10)
theorem dc_toNat (n:Nat):(dc n).toNat=48+n % 10:=by unfold dc; simp; omega
def pd:Nat->Nat->List UInt8
 | 0,_=>[]
 | k+1,n=>dc n :: pd k (n / 10)
def dd (n:Nat):List UInt8:=if h:n=0 then [] else dc n :: dd (n / 10)
 decreasing_by omega
theorem dd_zero:dd 0=[]:=by rw [dd]; simp
theorem dd_pos {n:Nat} (h:0<n):dd n=dc n :: dd (n / 10):=by rw [dd]; simp [Nat.ne_of_gt h]
theorem pd_dd:∀ (k x y:Nat),x<10 ^ k->0<y->dd (x+10 ^ k*y)=pd k x++dd y
 | 0,x,y,hx,_=>by
  have:x=0:=by simpa using hx
  subst this; simp [pd]
 | k+1,x,y,hx,hy=>by
  have hp:0<10 ^ k:=Nat.pow_pos (by omega)
  have h1:0<x+10 ^ (k+1)*y:=by
   have:0<10 ^ (k+1)*y:=Nat.mul_pos (Nat.pow_pos (by omega)) hy
   omega
  have e:10 ^ (k+1)*y=10*(10 ^ k*y):=by rw [Nat.pow_succ]; grind
  rw [dd_pos h1,e]
  have h2:(x+10*(10 ^ k*y)) / 10=x / 10+10 ^ k*y:=by omega
  have h3:dc (x+10*(10 ^ k*y))=dc x:=by unfold dc; congr 2; omega
  rw [h2,h3,pd_dd k (x / 10) y (by rw [Nat.pow_succ] at hx; omega) hy]
  rfl
def rest (k v y:Nat):List UInt8:=if y=0 then dd v else pd (9 - k) v++dd y
theorem rest_start (x y:Nat) (hx:x<1000000000):dd (x+1000000000*y)=rest 0 x y:=by
 unfold rest
 split
 ·rename_i h; subst h; simp
 ·exact pd_dd 9 x y (by omega) (by omega)
theorem rest_step (k v y:Nat) (hk:k<9) (h:0<v∨0<y):rest k v y=dc v :: rest (k+1) (v / 10) y:=by
 unfold rest
 split
 ·exact dd_pos (by omega)
 ·rw [show 9 - k=(9 - (k+1))+1 by omega]; rfl
theorem rest_end (k v y:Nat) (hk:k<=9) (hv:v<10 ^ (9 - k)) (h:¬ (k<9/\(0<v∨0<y))):rest k v y=dd y:=by
 unfold rest
 rcases Nat.lt_or_ge k 9 with h9 | h9
 ·have:v=0/\y=0:=by omega
  rw [this.1,this.2]; simp
 ·obtain rfl:k=9:=by omega
  have:v=0:=by simpa using hv
  subst this
  split
  ·rename_i h; rw [h]
  ·simp [pd]
theorem drop_cons' (l:List Nat) (i:Nat) (h:i<l.length):val (l.drop i)=l.getD i 0+1000000000*val (l.drop (i+1)):=by
 rw [List.drop_eq_getElem_cons h]; simp [List.getD,h,val]
theorem drop_pos {l:List Nat} (hC:Can l) (i:Nat):i<l.length↔0<val (l.drop i):=by
 constructor
 ·intro h
  have hne:l.drop i≠[]:=by intro e; have:=congrArg List.length e; simp at this; omega
  have hC2:Can (l.drop i):=fun _=>by
   have h1:=hC (by intro e; subst e; simp at h)
   rw [List.length_drop]
   have:(l.drop i).getD (l.length - i - 1) 0=l.getD (l.length - 1) 0:=by
    simp only [List.getD,List.getElem?_drop]; congr 2; omega
   rw [this]; exact h1
  have:=(val_zero hC2)
  rcases Nat.eq_zero_or_pos (val (l.drop i)) with e | e
  ·exact absurd (this.mp e) hne
  ·exact e
 ·intro h
  rcases Nat.lt_or_ge i l.length with h1 | h1
  ·exact h1
  ·rw [List.drop_eq_nil_of_le h1] at h; simp [val] at h
def txt (x:Int):List UInt8:=if x=0 then [48] else (if x<0 then [45] else [])++(dd x.natAbs).reverse
theorem dd_len:∀ (m n:Nat),n<10 ^ m->(dd n).length<=m
 | 0,n,h=>by
  have:n=0:=by simpa using h
  subst this; simp [dd_zero]
 | m+1,n,h=>by
  rcases Nat.eq_zero_or_pos n with e | e
  ·subst e; simp [dd_zero]
  ·rw [dd_pos e]
   have:=dd_len m (n / 10) (by rw [Nat.pow_succ] at h; omega)
   simp; omega
end
 
section
open Go Go.RowKit
inductive PV where
 | nil
 | none
 | int (z:Int)
 | emp
 | tup (l:List Int)
 deriving DecidableEq,Inhabited
inductive PS where
 | nil
 | mk (id:Nat) (order:Int) (own:List PV) (fr:List PS) (deep:Int) (empty:Bool)
def PS.isNil:PS->Bool
 | .nil=>true
 | _=>false
def PS.id:PS->Nat
 | .nil=>0
 | .mk i _ _ _ _ _=>i
def PS.order:PS->Int
 | .nil=>0
 | .mk _ o _ _ _ _=>o
def PS.own:PS->List PV
 | .nil=>[]
 | .mk _ _ l _ _ _=>l
def PS.fr:PS->List PS
 | .nil=>[]
 | .mk _ _ _ l _ _=>l
def PS.deep:PS->Int
 | .nil=>0
 | .mk _ _ _ _ d _=>d
def PS.empty:PS->Bool
 | .nil=>true
 | .mk _ _ _ _ _ e=>e
inductive Reach (s:PS):PS->Prop
 | refl:Reach s s
 | step {x f:PS}:Reach s x->f∈x.fr->Reach s f
def keyP:PV->List UInt8
 | .int z=>73 :: (txt z++[59])
 | _=>[]
def OV:={ v:Value // v.oneCell'=true }
abbrev VH:=OV × (Nat->Prop)
def vv (h:VH):Value:=h.1.1
theorem One.vv:One vv:=fun h=>h.1.2
abbrev vnil:OV:=⟨.nilIface,rfl⟩
abbrev noF:Nat->Prop:=fun _=>False
def vh0:VH:=(vnil,noF)
def AI (w:World) (F:Nat->Prop) (v:Value) (z:Int):Prop:=∃ a b,v=.iface 208 (.agg ⟨[a,b]⟩)/\Nm w (.agg ⟨[a,b]⟩) z 3/\Lies (.agg ⟨[a,b]⟩) F
def VR (w:World) (F:Nat->Prop) (v:Value):PV->Prop
 | .nil=>v=.nilIface
 | .none=>v=.iface 221 (.agg ⟨[]⟩)
 | .int z=>AI w F v z
 | .emp=>∃ g A c,v=.iface 61 (.pointer (some ⟨g,0,none⟩))/\Bl w g 166 [.slice A 0 c,.bool false,.int .i64 0]/\c<=maxLen/\F g
 | .tup l=>∃ g A c,∃ hs:List VH,v=.iface 155 (.pointer (some ⟨g,0,none⟩))/\Bl w g 158 [.slice A l.length c]/\Rd vv w A c hs/\hs.length=l.length/\(∀ q,blk A=some q->F q)/\F g/\∀ (i:Nat) (h:VH) (z:Int),hs[i]? = some h->l[i]? = some z->AI w F h.1.1 z
def SRn:Nat->World->(Nat->Prop)->Value->PS->Prop
 | _,_,_,v,.nil=>v=.pointer none
 | 0,_,_,_,.mk ..=>False
 | n+1,w,F,v,.mk id order own fr deep empty=>v=.pointer (some ⟨id,0,none⟩)/\F id/\∃ Ao co Ak ck Af cf,∃ ho hf:List VH,
   Bl w id 126 [.int .i64 order,.slice Ao own.length co,.slice Ak own.length ck,.slice Af fr.length cf,.int .i64 deep,.bool empty] /\
   Rd vv w Ao co ho/\ho.length=own.length/\(∀ q,blk Ao=some q->F q)/\(∀ (i:Nat) (h:VH) (x:PV),ho[i]? = some h->own[i]? = some x->∃ z,x=.int z/\AI w F h.1.1 z) /\
   Rd vs w Ak ck (own.map keyP)/\(∀ q,blk Ak=some q->F q) /\
   Rd vv w Af cf hf/\hf.length=fr.length/\(∀ q,blk Af=some q->F q)/\(∀ (i:Nat) (h:VH) (x:PS),hf[i]? = some h->fr[i]? = some x->x≠.nil/\SRn n w F h.1.1 x)
section
variable {w w':World} {F F':Nat->Prop} {v:Value} {ps:List (Option Nat)}
theorem Rd.goF {α:Type} {f:α->Value} {A:Option Addr} {c:Nat} {xs:List α} (h:Rd f w A c xs) (hb:∀ q,blk A=some q->F q) (hg:GrL ps w w') (hd:AllP (fun p=>∀ g,p=some g->¬ F g) ps):Rd f w' A c xs :=
 h.goL hg fun p hp _ g hg' e=>hd p hp g e (hb g hg')
theorem Bl.goF {g:Nat} {e:TypeId} {us:List Value} (h:Bl w g e us) (hb:F g) (hg:GrL ps w w') (hd:AllP (fun p=>∀ g,p=some g->¬ F g) ps):Bl w' g e us :=
 h.goL hg fun p hp q hq e=>by cases hq; exact hd p hp g e hb
theorem AI.goL {z:Int} (h:AI w F v z) (hg:GrL ps w w') (hd:AllP (fun p=>∀ g,p=some g->¬ F g) ps):AI w' F v z:=by
 obtain ⟨a,b,rfl,hN,hL⟩:=h
 refine ⟨a,b,rfl,?_,hL⟩
 obtain ⟨neg,A,c,l,h1,h2,h3⟩:=hN
 exact ⟨neg,A,c,l,h1,h2.goF (fun q hq=>hL _ _ _ _ h1 q hq) hg hd,h3⟩
theorem AI.mono {z:Int} (h:AI w F v z) (hF:∀ g,F g->F' g):AI w F' v z:=by
 obtain ⟨a,b,rfl,hN,hL⟩:=h
 exact ⟨a,b,rfl,hN,fun _ _ _ _ e g hg=>hF g (hL _ _ _ _ e g hg)⟩
theorem VR.goL {p:PV} (h:VR w F v p) (hg:GrL ps w w') (hd:AllP (fun p=>∀ g,p=some g->¬ F g) ps):VR w' F v p:=by
 cases p with
 | nil=>exact h
 | none=>exact h
 | int z=>exact AI.goL h hg hd
 | emp=>obtain ⟨g,A,c,h1,h2,h3,h4⟩:=h; exact ⟨g,A,c,h1,h2.goF h4 hg hd,h3,h4⟩
 | tup l =>
  obtain ⟨g,A,c,hs,h1,h2,h3,h4,h5,h6,h7⟩:=h
  exact ⟨g,A,c,hs,h1,h2.goF h6 hg hd,h3.goF h5 hg hd,h4,h5,h6,fun i h z hh hz=>(h7 i h z hh hz).goL hg hd⟩
theorem VR.mono {p:PV} (h:VR w F v p) (hF:∀ g,F g->F' g):VR w F' v p:=by
 cases p with
 | nil=>exact h
 | none=>exact h
 | int z=>exact AI.mono h hF
 | emp=>obtain ⟨g,A,c,h1,h2,h3,h4⟩:=h; exact ⟨g,A,c,h1,h2,h3,hF g h4⟩
 | tup l =>
  obtain ⟨g,A,c,hs,h1,h2,h3,h4,h5,h6,h7⟩:=h
  exact ⟨g,A,c,hs,h1,h2,h3,h4,fun q hq=>hF q (h5 q hq),hF g h6,fun i h z hh hz=>(h7 i h z hh hz).mono hF⟩
theorem SRn.goL:∀ {n:Nat} {v:Value} {p:PS},SRn n w F v p->GrL ps w w'->AllP (fun p=>∀ g,p=some g->¬ F g) ps->SRn n w' F v p
 | n,v,.nil,h,_,_=>by cases n <;> exact h
 | 0,v,.mk ..,h,_,_=>h.elim
 | n+1,v,.mk ..,h,hg,hd=>by
  obtain ⟨h1,h2,Ao,co,Ak,ck,Af,cf,ho,hf,hB,o1,o2,o3,o4,k1,k2,f1,f2,f3,f4⟩:=h
  exact ⟨h1,h2,Ao,co,Ak,ck,Af,cf,ho,hf,hB.goF h2 hg hd,o1.goF o3 hg hd,o2,o3,fun i h x hh hx=>by obtain ⟨z,e,k⟩:=o4 i h x hh hx; exact ⟨z,e,k.goL hg hd⟩,
   k1.goF k2 hg hd,k2,f1.goF f3 hg hd,f2,f3,fun i h x hh hx=>⟨(f4 i h x hh hx).1,SRn.goL (f4 i h x hh hx).2 hg hd⟩⟩
theorem SRn.mono (hF:∀ g,F g->F' g):∀ {n:Nat} {v:Value} {p:PS},SRn n w F v p->SRn n w F' v p
 | n,v,.nil,h=>by cases n <;> exact h
 | 0,v,.mk ..,h=>h.elim
 | n+1,v,.mk ..,h=>by
  obtain ⟨h1,h2,Ao,co,Ak,ck,Af,cf,ho,hf,hB,o1,o2,o3,o4,k1,k2,f1,f2,f3,f4⟩:=h
  exact ⟨h1,hF _ h2,Ao,co,Ak,ck,Af,cf,ho,hf,hB,o1,o2,fun q hq=>hF q (o3 q hq),fun i h x hh hx=>by obtain ⟨z,e,k⟩:=o4 i h x hh hx; exact ⟨z,e,k.mono hF⟩,
   k1,fun q hq=>hF q (k2 q hq),f1,f2,fun q hq=>hF q (f3 q hq),fun i h x hh hx=>⟨(f4 i h x hh hx).1,SRn.mono hF (f4 i h x hh hx).2⟩⟩
theorem SRn.up:∀ {n:Nat} {v:Value} {p:PS},SRn n w F v p->SRn (n+1) w F v p
 | n,v,.nil,h=>by cases n <;> exact h
 | 0,v,.mk ..,h=>h.elim
 | n+1,v,.mk ..,h=>by
  obtain ⟨h1,h2,Ao,co,Ak,ck,Af,cf,ho,hf,hB,o1,o2,o3,o4,k1,k2,f1,f2,f3,f4⟩:=h
  exact ⟨h1,h2,Ao,co,Ak,ck,Af,cf,ho,hf,hB,o1,o2,o3,o4,k1,k2,f1,f2,f3,fun i h x hh hx=>⟨(f4 i h x hh hx).1,SRn.up (f4 i h x hh hx).2⟩⟩
theorem SRn.le {n m:Nat} {p:PS} (h:SRn n w F v p) (hm:n<=m):SRn m w F v p:=by
 induction hm with
 | refl=>exact h
 | step _ ih=>exact ih.up
end
def deV:DE VH PV where
 rel w h x:=VR w h.2 h.1.1 x/\∀ g,h.2 g->g<w.heap.size
 dn h _ p:=∀ g,p=some g->¬ h.2 g
 goL h k a:=⟨h.1.goL k a,fun g hg=>Nat.lt_of_lt_of_le (h.2 g hg) k.size⟩
 new h k:=fun g e hg=>by have:=h.2 g hg; have:=k g e; omega
 app h a k:=fun g e hg=>by
  rcases k g e with h1 | h1
  ·have:=h.2 g hg; omega
  ·exact a _ h1 g rfl hg
def deS:DE VH PS where
 rel w h x:=(∃ n,SRn n w h.2 h.1.1 x)/\∀ g,h.2 g->g<w.heap.size
 dn h _ p:=∀ g,p=some g->¬ h.2 g
 goL h k a:=⟨h.1.elim fun n h=>⟨n,h.goL k a⟩,fun g hg=>Nat.lt_of_lt_of_le (h.2 g hg) k.size⟩
 new h k:=fun g e hg=>by have:=h.2 g hg; have:=k g e; omega
 app h a k:=fun g e hg=>by
  rcases k g e with h1 | h1
  ·have:=h.2 g hg; omega
  ·exact a _ h1 g rfl hg
section
variable {H X:Type} {d:DE H X} {w:World} {h:H} {x:X} {p:Option Nat} {F:Nat->Prop} {v:Value}
theorem RelD.nilx {w:World} {hs:List H} {xs:List X} (k:RelD d w hs xs) (e:hs=[]):xs=[]:=by
 subst e
 exact List.length_eq_zero_iff.1 k.1.symm
theorem RelD.one (k:RelD d w [h] [x]):d.rel w h x:=k.2 0 h x rfl rfl
theorem DnD.one (k:DnD d [h] [x] p):d.dn h x p:=k 0 h x rfl rfl
theorem j0:RelD deV w [(vnil,noF)] [.nil]:=RelD.cons ⟨rfl,fun _ h=>h.elim⟩ RelD.nil
theorem deV_nilD:DnD deV [(vnil,noF)] [.nil] p:=DnD.cons (fun _ _ h=>h) DnD.nil
theorem deV_nilN {n:Nat}:NewD deV [(vnil,noF)] [.nil] n:=fun _ _=>deV_nilD
theorem VR.one {p:PV} (h:VR w F v p):v.oneCell'=true:=by
 cases p with
 | nil=>rw [h]; rfl
 | none=>rw [h]; rfl
 | int z=>obtain ⟨a,b,rfl,_⟩:=h; rfl
 | emp=>obtain ⟨g,A,c,rfl,_⟩:=h; rfl
 | tup l=>obtain ⟨g,A,c,hs,rfl,_⟩:=h; rfl
theorem SRn.ptr {n:Nat} {p:PS} (h:SRn n w F v p):v=.pointer (if p.isNil then none else some ⟨p.id,0,none⟩):=by
 cases p with
 | nil=>cases n <;> exact h
 | mk=>cases n with
  | zero=>exact h.elim
  | succ n=>exact h.1
theorem SRn.reach {n:Nat} {s y:PS} (h:SRn n w F v s) (k:Reach s y):y≠.nil->∃ m u,SRn m w F u y:=by
 have key:s=.nil∨∃ m u,SRn m w F u y:=by
  induction k with
  | refl=>exact .inr ⟨n,v,h⟩
  | @step x f hx hf ih =>
   rcases ih with e | ⟨m,u,hm⟩
   ·exact .inl e
   ·cases x with
    | nil=>simp [PS.fr] at hf
    | mk id o own fr d e =>
     cases m with
     | zero=>exact hm.elim
     | succ m =>
      obtain ⟨_,_,Ao,co,Ak,ck,Af,cf,ho,hq,_,_,_,_,_,_,_,_,f2,_,f4⟩:=hm
      obtain ⟨j,hj,rfl⟩:=List.getElem_of_mem hf
      exact .inr ⟨m,_,(f4 j _ _ (List.getElem?_eq_getElem (by rw [f2]; exact hj)) (List.getElem?_eq_getElem hj)).2⟩
 intro hn
 rcases key with e | h'
 ·subst e
  exfalso
  have:∀ y,Reach PS.nil y->y=.nil:=fun y k=>by
   induction k with
   | refl=>rfl
   | step _ hf ih=>subst ih; simp [PS.fr] at hf
  exact hn (this y k)
 ·exact h'
end
section
variable {P:Program} {N:Nat} {L:qP} {w:World} {ty:TypeId} {pos:String} {af:Array Edge} {dd:Option Tmp} {t t' e:TypeId} {x y:Operand} {v:OV} {F:Nat->Prop} {s:PS}
end
def tyP:PV->Option TypeId
 | .nil=>Option.none
 | .none=>some 221
 | .int _=>some 208
 | .emp=>some 61
 | .tup _=>some 155
def tys:List TypeId:=[221,208,61,155]
theorem VR.ty {w:World} {F:Nat->Prop} {v:Value} {p:PV} (h:VR w F v p):(tyP p=Option.none/\v=.nilIface)∨∃ t u,tyP p=some t/\t∈tys/\v=.iface t u:=by
 cases p with
 | nil=>exact .inl ⟨rfl,h⟩
 | none=>exact .inr ⟨_,_,rfl,by simp [tys],h⟩
 | int z=>obtain ⟨a,b,h,_⟩:=h; exact .inr ⟨_,_,rfl,by simp [tys],h⟩
 | emp=>obtain ⟨g,A,c,h,_⟩:=h; exact .inr ⟨_,_,rfl,by simp [tys],h⟩
 | tup l=>obtain ⟨g,A,c,hs,h,_⟩:=h; exact .inr ⟨_,_,rfl,by simp [tys],h⟩
def notIface:TypeDesc->Bool
 | .interface _=>false
 | _=>true
theorem tyP_no {ta:TypeId} (h:(tys.all fun t => !Nat.beq t ta)=true) (p:PV):tyP p≠some ta:=fun e=>by
 simp only [tys,List.all_cons,List.all_nil,Bool.and_true,Bool.and_eq_true,Bool.not_eq_true'] at h
 obtain ⟨h1,h2,h3,h4⟩:=h
 cases p <;> simp only [tyP,Option.some.injEq,reduceCtorEq] at e
 ·exact Nat.ne_of_beq_eq_false h1 e
 ·exact Nat.ne_of_beq_eq_false h2 e
 ·exact Nat.ne_of_beq_eq_false h3 e
 ·exact Nat.ne_of_beq_eq_false h4 e
theorem tyP_none {p:PV} (h:p≠.none):tyP p≠some 221:=fun e=>by
 cases p <;> first | (exact h rfl) | (simp only [tyP,Option.some.injEq,reduceCtorEq] at e; try exact absurd e (by decide))
theorem tyP_int {p:PV} (h:∀ z,p≠.int z):tyP p≠some 208:=fun e=>by
 cases p <;> first | (exact h _ rfl) | (simp only [tyP,Option.some.injEq,reduceCtorEq] at e; try exact absurd e (by decide))
theorem tyP_emp {p:PV} (h:p≠.emp):tyP p≠some 61:=fun e=>by
 cases p <;> first | (exact h rfl) | (simp only [tyP,Option.some.injEq,reduceCtorEq] at e; try exact absurd e (by decide))
theorem tyP_tup {p:PV} (h:∀ l,p≠.tup l):tyP p≠some 155:=fun e=>by
 cases p <;> first | (exact h _ rfl) | (simp only [tyP,Option.some.injEq,reduceCtorEq] at e; try exact absurd e (by decide))
theorem PV.intCases (p:PV):(∃ z,p=.int z)∨∀ z,p≠.int z:=by
 cases p with
 | int z=>exact .inl ⟨z,rfl⟩
 | _=>exact .inr fun z h=>by cases h
theorem PV.tupCases (p:PV):(∃ l,p=.tup l)∨∀ l,p≠.tup l:=by
 cases p with
 | tup l=>exact .inl ⟨l,rfl⟩
 | _=>exact .inr fun z h=>by cases h
theorem PV.empCases (p:PV):p=.emp∨p≠.emp:=by
 cases p with
 | emp=>exact .inl rfl
 | _=>exact .inr fun h=>by cases h
section
variable {P:Program} {N:Nat} {L:qP} {w w0:World} {ty:TypeId} {pos:String} {af:Array Edge} {dd:Option Tmp} {t ta:TypeId} {x:Operand} {v:OV} {F:Nat->Prop} {p:PV} {d:TypeDesc} {z u:Value}
theorem qV (hu:P.underlying ta=some d) (hd:notIface d=true) (hz:∀ w,(zeroValue ta).run P w=.ok z w) (h:RelD deV w0 [(v,F)] [p]) (hx:opv L x=some v.1) (hn:tyP p≠some ta) :
  Yld P N w ⟨dd,.typeAssert x t ta true,ty,pos,af,none⟩ L (.tuple #[z,.bool false]):=fun a w1 _ ha=>by
 have hx':=ha.ev hx
 rcases h.one.1.ty with ⟨h1,h2⟩ | ⟨t',u,h1,_,h2⟩
 ·replace h2:v.1=.nilIface:=h2
  rw [h2] at hx'
  simp only [execOp,Instr.typeAssert,Sem.run_bind,run_underlying hu,hx',Result.andThen_ok]
  cases d <;> first | (simp [notIface] at hd; done) | simp [hz]
 ·have hne:t'≠ta:=fun e=>hn (by rw [h1,e])
  replace h2:v.1=.iface t' u:=h2
  rw [h2] at hx'
  simp only [execOp,Instr.typeAssert,Sem.run_bind,run_underlying hu,hx',Result.andThen_ok]
  cases d <;> first | (simp [notIface] at hd; done) | simp [hz,hne]
theorem jc (hu:P.underlying ta=some d) (hd:notIface d=true) (hx:opv L x=some v.1) (hv:v.1=.iface ta u):Yld P N w ⟨dd,.typeAssert x t ta true,ty,pos,af,none⟩ L (.tuple #[u,.bool true]):=fun a w1 _ ha=>by
 have hx':=ha.ev hx
 rw [hv] at hx'
 simp only [execOp,Instr.typeAssert,Sem.run_bind,run_underlying hu,hx',Result.andThen_ok]
 cases d <;> first | (simp [notIface] at hd; done) | simp
def lacks1 (want:Array (String × TypeId)) (got:Array Method):Bool := !(want.toList.filter fun (x:String × TypeId) => !got.any fun m=>m.name == x.1 && m.sig == x.2).isEmpty
def lacksM (P:Program) (want:Array (String × TypeId)):Bool:=tys.all fun t=>match P.info? t with
 | some i=>lacks1 want i.methods
 | none=>false
theorem least_some:∀ {l:List String},l≠[]->(Instr.least l).isSome=true
 | [],h=>absurd rfl h
 | _ :: _,_=>rfl
theorem lacks1_ok {want:Array (String × TypeId)} {got:Array Method} (h:lacks1 want got=true):(Instr.missingMethod want got).isSome=true:=by
 unfold lacks1 at h
 simp only [Bool.not_eq_true',List.isEmpty_eq_false_iff] at h
 unfold Instr.missingMethod
 simp only [List.partition_eq_filter_filter]
 generalize hm:(want.toList.filter fun (x:String × TypeId) => !got.any fun m=>m.name == x.1 && m.sig == x.2)=M at h
 obtain ⟨x,M',rfl⟩:=List.exists_cons_of_ne_nil h
 have key:∀ (q:String->Bool) (f:String->String) (l:List String),l≠[]->(Instr.least (l.filter fun a => !q a) <|> Instr.least ((l.filter q).map f)).isSome=true:=fun q f l hl=>by
  by_cases h1:(l.filter fun a => !q a)=[]
  ·have h2:l.filter q≠[]:=fun h2=>by
    obtain ⟨y,l',rfl⟩:=List.exists_cons_of_ne_nil hl
    rw [List.filter_eq_nil_iff] at h1 h2
    have:=h1 y (by simp); have:=h2 y (by simp)
    simp_all
   have:=least_some (l:=(l.filter q).map f) (by simpa using h2)
   cases hq:Instr.least (l.filter fun a => !q a) with
   | some=>rfl
   | none=>simpa [HOrElse.hOrElse,OrElse.orElse,Option.orElse] using this
  ·have:=least_some h1
   cases hq:Instr.least (l.filter fun a => !q a) with
   | some=>rfl
   | none=>rw [hq] at this; cases this
 exact key (fun a=>a.contains '.') (fun id=>(id.splitOn ".").getLastD id) _ (by simp)
theorem assertNoI {want:Array (String × TypeId)} (hu:P.underlying ta=some (.interface want)) (hz:∀ w,(zeroValue ta).run P w=.ok z w) (hm:lacksM P want=true) (h:RelD deV w0 [(v,F)] [p]) (hx:opv L x=some v.1) :
  Yld P N w ⟨dd,.typeAssert x t ta true,ty,pos,af,none⟩ L (.tuple #[z,.bool false]):=fun a w1 _ ha=>by
 have hx':=ha.ev hx
 rcases h.one.1.ty with ⟨h1,h2⟩ | ⟨t',u,h1,ht,h2⟩
 ·replace h2:v.1=.nilIface:=h2
  rw [h2] at hx'
  simp [execOp,Instr.typeAssert,run_underlying hu,hx',hz]
 ·replace h2:v.1=.iface t' u:=h2
  rw [h2] at hx'
  have:=List.all_eq_true.1 hm t' ht
  split at this
  ·rename_i i hi
   replace this:=lacks1_ok this
   cases hq:Instr.missingMethod want i.methods with
   | none=>rw [hq] at this; cases this
   | some m=>simp [execOp,Instr.typeAssert,run_underlying hu,hx',typeInfo,hi,hq,hz]
  ·cases this
end
section
variable {w:World} {v:OV} {F:Nat->Prop} {p:PV} {s:PS}
theorem VR.intOut {n:Int} (h:RelD deV w [(v,F)] [p]) (hp:p=.int n):∃ a b,v.1=.iface 208 (.agg ⟨[a,b]⟩)/\Nm w (.agg ⟨[a,b]⟩) n 3/\a.oneCell'=true/\b.oneCell'=true/\Lies (.agg ⟨[a,b]⟩) F:=by
 subst hp
 obtain ⟨a,b,h1,h2,hL⟩:=h.one.1
 obtain ⟨a',b',e,ha,hb⟩:=h2.agg
 injection e with e; injection e with e; injection e with e1 e; injection e with e2
 subst e1; subst e2
 exact ⟨a,b,h1,h2,ha,hb,hL⟩
theorem Nm.goV {w w':World} {F:Nat->Prop} {a:Value} {z:Int} {m:Nat} {ps:List (Option Nat)} (h:Nm w a z m) (hL:Lies a F) (hg:GrL ps w w') (hd:AllP (fun p=>∀ g,p=some g->¬ F g) ps):Nm w' a z m:=by
 obtain ⟨neg,A,c,l,h1,h2,h3⟩:=h
 exact ⟨neg,A,c,l,h1,h2.goF (fun q hq=>hL _ _ _ _ h1 q hq) hg hd,h3⟩
theorem VR.empOut (h:RelD deV w [(v,F)] [p]) (hp:p=.emp):∃ g A c,v.1=.iface 61 (.pointer (some ⟨g,0,none⟩))/\Bl w g 166 [.slice A ([]:List PV).length c,.bool false,.int .i64 0]/\Rd vv w A c []/\RelD deV w [] []/\∀ q,DnD deV [(v,F)] [p] q->Dj (some g) q:=by
 subst hp
 obtain ⟨g,A,c,h1,h2,h3,h4⟩:=h.one.1
 exact ⟨g,A,c,h1,h2,Rd.nil _ _ h3,RelD.nil,fun q hq g' e e2=>by cases e; exact hq.one g e2 h4⟩
theorem Rd.frm {w:World} {A:Option Addr} {c:Nat} {hs:List VH} (F:Nat->Prop) (h:Rd vv w A c hs):Rd vv w A c (hs.map fun h=>((h.1,F):VH)) :=
 ⟨by simpa using h.cap,h.max,fun hx=>by
  obtain ⟨ad,e,k⟩:=h.cells (fun e=>hx (by rw [e]; rfl))
  refine ⟨ad,e,fun j x hj=>?_⟩
  rw [List.getElem?_map] at hj
  obtain ⟨y,hy,rfl⟩:=Option.map_eq_some_iff.1 hj
  exact k j y hy⟩
theorem RelD.frm {X:Type} {d:DE VH X} {hs:List VH} {xs:List X} (hl:hs.length=xs.length) (k:∀ (i:Nat) (h:VH) (x:X),hs[i]? = some h->xs[i]? = some x->d.rel w (h.1,F) x):RelD d w (hs.map fun h=>((h.1,F):VH)) xs :=
 ⟨by simpa using hl,fun i h x hh hx=>by
  rw [List.getElem?_map] at hh
  obtain ⟨y,hy,rfl⟩:=Option.map_eq_some_iff.1 hh
  exact k i y x hy hx⟩
theorem VR.tupOut {l:List Int} (h:RelD deV w [(v,F)] [p]) (hp:p=.tup l):∃ g A c,∃ hs:List VH,v.1=.iface 155 (.pointer (some ⟨g,0,none⟩))/\Bl w g 158 [.slice A (l.map PV.int).length c]/\Rd vv w A c hs/\RelD deV w hs (l.map PV.int) /\
  (∀ q,DnD deV [(v,F)] [p] q->Dj (some g) q)/\(∀ q,DnD deV [(v,F)] [p] q->Dn hs (blk A) q)/\(∀ q,DnD deV [(v,F)] [p] q->DnD deV hs (l.map PV.int) q):=by
 subst hp
 obtain ⟨⟨g,A,c,hs,h1,h2,h3,h4,h5,h6,h7⟩,hF⟩:=h.one
 refine ⟨g,A,c,hs.map fun h=>((h.1,F):VH),h1,by rw [List.length_map]; exact h2,h3.frm F,RelD.frm (d:=deV) (by rw [List.length_map]; exact h4) (fun i h x hh hx=>?_),fun q hq g' e e2=>?_,fun q hq _ g' e e2=>hq.one g' e2 (h5 g' e),fun q hq i h x hh hx=>?_⟩
 ·rw [List.getElem?_map] at hx
  obtain ⟨z,hz,rfl⟩:=Option.map_eq_some_iff.1 hx
  exact ⟨h7 i h z hh hz,hF⟩
 ·cases e; exact hq.one g e2 h6
 ·rw [List.getElem?_map] at hh
  obtain ⟨y,hy,rfl⟩:=Option.map_eq_some_iff.1 hh
  exact hq.one
theorem SR.out (h:RelD deS w [(v,F)] [s]) (hs:s≠.nil):∃ Ao co Ak ck Af cf,∃ ho hf:List VH,v.1=.pointer (some ⟨s.id,0,none⟩) /\
  Bl w s.id 126 [.int .i64 s.order,.slice Ao s.own.length co,.slice Ak (s.own.map keyP).length ck,.slice Af s.fr.length cf,.int .i64 s.deep,.bool s.empty] /\
  Rd vv w Ao co ho/\RelD deV w ho s.own/\Rd vs w Ak ck (s.own.map keyP)/\Rd vv w Af cf hf/\RelD deS w hf s.fr /\
  (∀ q,DnD deS [(v,F)] [s] q->Dj (some s.id) q)/\(∀ q,DnD deS [(v,F)] [s] q->Dn ho (blk Ao) q)/\(∀ q,DnD deS [(v,F)] [s] q->DnD deV ho s.own q) /\
  (∀ q,DnD deS [(v,F)] [s] q->Dn (s.own.map keyP) (blk Ak) q)/\(∀ q,DnD deS [(v,F)] [s] q->Dn hf (blk Af) q)/\(∀ q,DnD deS [(v,F)] [s] q->DnD deS hf s.fr q):=by
 cases s with
 | nil=>exact absurd rfl hs
 | mk id order own fr deep empty =>
  obtain ⟨⟨n,h⟩,hF⟩:=h.one
  cases n with
  | zero=>exact h.elim
  | succ n =>
   obtain ⟨h1,h2,Ao,co,Ak,ck,Af,cf,ho,hf,hB,o1,o2,o3,o4,k1,k2,f1,f2,f3,f4⟩:=h
   refine ⟨Ao,co,Ak,ck,Af,cf,ho.map fun h=>((h.1,F):VH),hf.map fun h=>((h.1,F):VH),h1,by simpa [PS.own,PS.fr,PS.id,PS.order,PS.deep,PS.empty] using hB,o1.frm F,RelD.frm (d:=deV) o2 (fun i h x hh hx=>?_),k1,f1.frm F,RelD.frm (d:=deS) f2 (fun i h x hh hx=>⟨⟨n,(f4 i h x hh hx).2⟩,hF⟩),
    fun q hq g' e e2=>?_,fun q hq _ g' e e2=>hq.one g' e2 (o3 g' e),fun q hq i h x hh hx=>?_,fun q hq _ g' e e2=>hq.one g' e2 (k2 g' e),fun q hq _ g' e e2=>hq.one g' e2 (f3 g' e),fun q hq i h x hh hx=>?_⟩
   ·obtain ⟨z,rfl,hz⟩:=o4 i h x hh hx
    exact ⟨hz,hF⟩
   ·cases e; exact hq.one _ e2 h2
   ·rw [List.getElem?_map] at hh
    obtain ⟨y,hy,rfl⟩:=Option.map_eq_some_iff.1 hh
    exact hq.one
   ·rw [List.getElem?_map] at hh
    obtain ⟨y,hy,rfl⟩:=Option.map_eq_some_iff.1 hh
    exact hq.one
end
def ckFa (P:Program) (t:TypeId) (f o:Nat):Bool:=match P.underlying t with
 | some (.struct fs)=>(match fs[f]? with
  | some fd=>Nat.beq fd.offset o && (match P.info? fd.type with
   | some i => !Nat.beq i.size 0
   | none=>false)
  | none=>false)
 | _=>false
theorem zX {P:Program} {N:Nat} {L:qP} {w:World} {ty:TypeId} {pos:String} {af:Array Edge} {dd:Option Tmp} {t:TypeId} {x:Operand} {f o b p:Nat} (hc:ckFa P t f o=true) (hx:opv L x=some (.pointer (some ⟨b,p,none⟩))):Yld P N w ⟨dd,.fieldAddr t x f,ty,pos,af,none⟩ L (.pointer (some ⟨b,p+o,none⟩)):=fun a w1 _ ha=>by
 unfold ckFa at hc
 split at hc
 ·rename_i fs hu
  split at hc
  ·rename_i fd hfd
   simp only [Bool.and_eq_true] at hc
   obtain ⟨h1,h2⟩:=hc
   have h1:=Nat.eq_of_beq_eq_true h1
   subst h1
   split at h2
   ·rename_i i hi
    simp only [Bool.not_eq_true'] at h2
    have h2:=Nat.ne_of_beq_eq_false h2
    unfold execOp
    simp [ha.ev hx,Instr.fieldAt,run_underlying hu,hfd,Instr.sureAddr,fieldPlace,sizeOf,typeInfo,hi,h2,Addr.add_mid]
   ·cases h2
  ·cases hc
 ·cases hc
def OrD {H X:Type} (Q:Option Nat->Prop) (d:DE H X) (hs:List H) (xs:List X) (n:Nat):Prop:=∀ p:Option Nat,(∀ g,p=some g->g<n)->Q p->DnD d hs xs p
section
variable {H X:Type} {d:DE H X} {hs hs':List H} {xs xs':List X} {h:H} {x:X} {n:Nat} {Q:Option Nat->Prop}
theorem OrD.append (hl:hs.length=xs.length) (a:OrD Q d hs xs n) (b:OrD Q d hs' xs' n):OrD Q d (hs++hs') (xs++xs') n:=fun p hp q=>DnD.append hl (a p hp q) (b p hp q)
theorem OrD.cons (a:∀ p:Option Nat,(∀ g,p=some g->g<n)->Q p->d.dn h x p) (b:OrD Q d hs xs n):OrD Q d (h :: hs) (x :: xs) n:=fun p hp q=>DnD.cons (a p hp q) (b p hp q)
end
theorem SRn.all {w:World} {F:Nat->Prop}:∀ {hf:List VH} {fr:List PS},hf.length=fr.length->(∀ (i:Nat) (h:VH) (x:PS),hf[i]? = some h->fr[i]? = some x->∃ n,SRn n w F h.1.1 x)->∃ n,∀ (i:Nat) (h:VH) (x:PS),hf[i]? = some h->fr[i]? = some x->SRn n w F h.1.1 x
 | [],_,_,_=>⟨0,fun i h x hh=>by simp at hh⟩
 | h :: hf,[],hl,_=>by simp at hl
 | h :: hf,x :: fr,hl,k=>by
  obtain ⟨n,hn⟩:=SRn.all (hf:=hf) (fr:=fr) (by simpa using hl) (fun i h x hh hx=>k (i+1) h x (by simpa using hh) (by simpa using hx))
  obtain ⟨m,hm⟩:=k 0 h x rfl rfl
  refine ⟨max n m,fun i h' x' hh hx=>?_⟩
  cases i with
  | zero=>simp only [List.getElem?_cons_zero,Option.some.injEq] at hh hx; subst hh; subst hx; exact hm.le (Nat.le_max_right _ _)
  | succ i=>exact (hn i h' x' (by simpa using hh) (by simpa using hx)).le (Nat.le_max_left _ _)
end
 section
open Go Go.RowKit
attribute [local irreducible] WL WC WX WQ WK Yld Eff Ef0 Fn
theorem add_fn (va vb_:Value) (x y:Int) (m:Nat) (w:World) (ha:Nm w va x m) (hb:Nm w vb_ y m) (hm:m<=900000):Fn Tryz.prog 109 ⟨[va,vb_]⟩ w fun r w'=>Nm w' r (x+y) (m+1)/\w.grownBy w' none:=by
 obtain ⟨na,A,c,la,rfl,hA,hDa,hCa,hla,hna,rfl⟩:=ha
 obtain ⟨nb,B,cb,lb,rfl,hB,hDb,hCb,hlb,hnb,rfl⟩:=hb
 refine Fn.enter (by kernel_rfl) Tryz.func109 rfl Tryz.ntmps109 rfl ?_
 repeat (first | refine zg ?_ | refine WC.block ?_ | refine zc ?_ | refine zh ?_ | refine za ?_ | refine zt ?_ | refine zy ?_ | refine zx ?_ | refine zm ?_ | refine zi ?_ | refine zf ?_ | refine zn ?_ | refine zk ?_ | refine zl rfl ?_ | refine zv ?_ | refine zw ?_ | refine zj ?_ | refine zp ?_ | refine zo ?_ | refine zd rfl (ze qH rfl) ?_)
 refine z4 (us:=[.bool na,.slice A la.length c]) rfl rfl rfl (fun g1 w1 hB1 hg1 hl1=>?_)
 repeat (first | refine zg ?_ | refine WC.block ?_ | refine zc ?_ | refine zh ?_ | refine za ?_ | refine zt ?_ | refine zy ?_ | refine zx ?_ | refine zm ?_ | refine zi ?_ | refine zf ?_ | refine zn ?_ | refine zk ?_ | refine zl rfl ?_ | refine zv ?_ | refine zw ?_ | refine zj ?_ | refine zp ?_ | refine zo ?_ | refine zd rfl (ze qH rfl) ?_)
 refine z4 (us:=[.bool nb,.slice B lb.length cb]) rfl rfl rfl (fun g2 w2 hB2 hg2 hl2=>?_)
 repeat (first | refine zg ?_ | refine WC.block ?_ | refine zc ?_ | refine zh ?_ | refine za ?_ | refine zt ?_ | refine zy ?_ | refine zx ?_ | refine zm ?_ | refine zi ?_ | refine zf ?_ | refine zn ?_ | refine zk ?_ | refine zl rfl ?_ | refine zv ?_ | refine zw ?_ | refine zj ?_ | refine zp ?_ | refine zo ?_ | refine zd rfl (ze qH rfl) ?_)
 refine WL.alloc rfl qX (fun g4 w3 hB4 hg3 hl4=>?_)
 have h1:=hB1.lt
 have h2:=hB2.lt
 have hz1:=hg1.size
 have hz2:=hg2.size
 have hB13:=(hB1.keep hg2 (by simp)).keep hg3 (by simp)
 have hB23:=hB2.keep hg3 (by simp)
 have hg13:=qI (qI hg1 hg2) hg3
 have hA3:=hA.grown hg13
 have hB3:=hB.grown hg13
 have hbt:=Tryz.underlying4
 repeat (first | refine zd rfl (zH qH hB13 rfl rfl rfl) ?_ | refine zd rfl (zH qH hB23 rfl rfl rfl) ?_ | refine zd rfl (qA hbt rfl rfl) ?_ | refine zg ?_ | refine WC.block ?_ | refine zc ?_ | refine zh ?_ | refine za ?_ | refine zt ?_ | refine zy ?_ | refine zx ?_ | refine zm ?_ | refine zi ?_ | refine zf ?_ | refine zn ?_ | refine zk ?_ | refine zl rfl ?_ | refine zv ?_ | refine zw ?_ | refine zj ?_ | refine zp ?_ | refine zo ?_ | refine zd rfl (ze qH rfl) ?_)
 refine zE rfl (fun h=>?_) (fun h=>?_)
 ·simp only [beq_iff_eq] at h
  subst h
  repeat (first | refine zg ?_ | refine WC.block ?_ | refine zc ?_ | refine zh ?_ | refine za ?_ | refine zt ?_ | refine zy ?_ | refine zx ?_ | refine zm ?_ | refine zi ?_ | refine zf ?_ | refine zn ?_ | refine zk ?_ | refine zl rfl ?_ | refine zv ?_ | refine zw ?_ | refine zj ?_ | refine zp ?_ | refine zo ?_ | refine zd rfl (ze qH rfl) ?_)
  refine WC.chain (fun k=>Nat.blt k 6) (fun w'=>w3.grownBy w' (some g4)) jg (by kernel_rfl) (fun w' e=>qN (qR _ _) e) ?_
  repeat (first | refine z1 rfl rfl (fun w' h=>zH qH (hB13.keep h (by simp; omega)) rfl rfl rfl) ?_ | refine z1 rfl rfl (fun w' h=>zH qH (hB23.keep h (by simp; omega)) rfl rfl rfl) ?_ | refine z1 rfl rfl (fun _ _=>ze qH rfl) ?_)
  refine qe rfl qK rfl rfl (plus_fn A c la B cb lb w3 hA3 hB3 hDa hDb (by omega) (by omega)) (fun v w' ⟨_,_,_,_,_,_,_,_,h⟩ w2 e=>jC (qN h e) _) ?_
  rintro _ w5 ⟨A5,c5,o,rfl,hR5,hD5,hv5,hl5,hg5⟩
  refine qe rfl qK rfl rfl (js na A5 c5 o w5 hR5 hD5 (by omega)) (fun v w' ⟨_,h⟩ w2 e=>jC (qN (qI hg5 h) e) _) ?_
  rintro r w6 ⟨hN,hg6⟩
  have hB46:=(hB4.keep hg5 (by simp)).keep hg6 (by simp)
  have hg36:=qI hg5 hg6
  obtain ⟨a,b,rfl,ha,hb⟩:=hN.agg
  refine qw rfl (zU (vs:=[a,b]) qH rfl rfl rfl (by intro u hu; simp at hu; rcases hu with rfl | rfl <;> assumption) hB46 rfl rfl) (fun w' h=>qI (jC hg36 _) h.2) ?_
  rintro w7 ⟨hB7,hg7⟩
  refine qx ?_
  repeat (first | refine zg ?_ | refine WC.block ?_ | refine zc ?_ | refine zh ?_ | refine za ?_ | refine zt ?_ | refine zy ?_ | refine zx ?_ | refine zm ?_ | refine zi ?_ | refine zf ?_ | refine zn ?_ | refine zk ?_ | refine zl rfl ?_ | refine zv ?_ | refine zw ?_ | refine zj ?_ | refine zp ?_ | refine zo ?_ | refine zd rfl (ze qH rfl) ?_)
  have hzz:(bif na then -(val o:Int) else (val o:Int))=(bif na then -(val la:Int) else (val la:Int))+(bif na then -(val lb:Int) else (val lb:Int)):=by rw [hv5]; cases na <;> simp <;> omega
  rw [hzz] at hN
  exact qc qH rfl rfl rfl hB7 rfl ⟨(hN.stored hB46 jk hg7).mono (by omega),jp (qI hg13 hg36) hg7 (by omega)⟩
 ·simp only [beq_eq_false_iff_ne,ne_eq] at h
  repeat (first | refine zd rfl (zH qH hB13 rfl rfl rfl) ?_ | refine zd rfl (zH qH hB23 rfl rfl rfl) ?_ | refine zd rfl (qA hbt rfl rfl) ?_ | refine zg ?_ | refine WC.block ?_ | refine zc ?_ | refine zh ?_ | refine za ?_ | refine zt ?_ | refine zy ?_ | refine zx ?_ | refine zm ?_ | refine zi ?_ | refine zf ?_ | refine zn ?_ | refine zk ?_ | refine zl rfl ?_ | refine zv ?_ | refine zw ?_ | refine zj ?_ | refine zp ?_ | refine zo ?_ | refine zd rfl (ze qH rfl) ?_)
  refine zK rfl rfl (cmp_fn A c la B cb lb w3 hA3 hB3 hDa hDb hCa hCb (by omega) (by omega)) ?_
  rintro _ w3b ⟨⟨n,rfl,ht⟩,hw3⟩
  have hw4:=hw3.symm
  subst hw4
  repeat (first | refine zg ?_ | refine WC.block ?_ | refine zc ?_ | refine zh ?_ | refine za ?_ | refine zt ?_ | refine zy ?_ | refine zx ?_ | refine zm ?_ | refine zi ?_ | refine zf ?_ | refine zn ?_ | refine zk ?_ | refine zl rfl ?_ | refine zv ?_ | refine zw ?_ | refine zj ?_ | refine zp ?_ | refine zo ?_ | refine zd rfl (ze qH rfl) ?_)
  refine zE rfl (fun h0=>?_) (fun h0=>?_)
  ·simp only [decide_eq_true_eq] at h0
   have hle:val lb<=val la:=by rcases ht with h | h | h <;> omega
   have hlen:lb.length<=la.length:=by
    rcases Nat.lt_or_ge la.length lb.length with h5 | h5
    ·have:=val_lt_len hDa hCb h5; omega
    ·exact h5
   repeat (first | refine zg ?_ | refine WC.block ?_ | refine zc ?_ | refine zh ?_ | refine za ?_ | refine zt ?_ | refine zy ?_ | refine zx ?_ | refine zm ?_ | refine zi ?_ | refine zf ?_ | refine zn ?_ | refine zk ?_ | refine zl rfl ?_ | refine zv ?_ | refine zw ?_ | refine zj ?_ | refine zp ?_ | refine zo ?_ | refine zd rfl (ze qH rfl) ?_)
   refine WC.chain (fun k=>Nat.blt k 6) (fun w'=>w3.grownBy w' (some g4)) jg (by kernel_rfl) (fun w' e=>qN (qR _ _) e) ?_
   repeat (first | refine z1 rfl rfl (fun w' h=>zH qH (hB13.keep h (by simp; omega)) rfl rfl rfl) ?_ | refine z1 rfl rfl (fun w' h=>zH qH (hB23.keep h (by simp; omega)) rfl rfl rfl) ?_ | refine z1 rfl rfl (fun _ _=>ze qH rfl) ?_)
   refine qe rfl qK rfl rfl (minus_fn A c la B cb lb w3 hA3 hB3 hDa hDb (by omega) hlen hle) (fun v w' ⟨_,_,_,_,_,_,_,_,h⟩ w2 e=>jC (qN h e) _) ?_
   rintro _ w5 ⟨A5,c5,o,rfl,hR5,hD5,hv5,hl5,hg5⟩
   refine qe rfl qK rfl rfl (js na A5 c5 o w5 hR5 hD5 (by omega)) (fun v w' ⟨_,h⟩ w2 e=>jC (qN (qI hg5 h) e) _) ?_
   rintro r w6 ⟨hN,hg6⟩
   have hB46:=(hB4.keep hg5 (by simp)).keep hg6 (by simp)
   have hg36:=qI hg5 hg6
   obtain ⟨a,b,rfl,ha,hb⟩:=hN.agg
   refine qw rfl (zU (vs:=[a,b]) qH rfl rfl rfl (by intro u hu; simp at hu; rcases hu with rfl | rfl <;> assumption) hB46 rfl rfl) (fun w' h=>qI (jC hg36 _) h.2) ?_
   rintro w7 ⟨hB7,hg7⟩
   refine qx ?_
   repeat (first | refine zg ?_ | refine WC.block ?_ | refine zc ?_ | refine zh ?_ | refine za ?_ | refine zt ?_ | refine zy ?_ | refine zx ?_ | refine zm ?_ | refine zi ?_ | refine zf ?_ | refine zn ?_ | refine zk ?_ | refine zl rfl ?_ | refine zv ?_ | refine zw ?_ | refine zj ?_ | refine zp ?_ | refine zo ?_ | refine zd rfl (ze qH rfl) ?_)
   have hzz:(bif na then -(val o:Int) else (val o:Int))=(bif na then -(val la:Int) else (val la:Int))+(bif nb then -(val lb:Int) else (val lb:Int)):=by cases na <;> cases nb <;> simp at h |- <;> omega
   rw [hzz] at hN
   exact qc qH rfl rfl rfl hB7 rfl ⟨(hN.stored hB46 jk hg7).mono (by omega),jp (qI hg13 hg36) hg7 (by omega)⟩
  ·simp only [decide_eq_false_iff_not] at h0
   have hle:val la<=val lb:=by rcases ht with h | h | h <;> omega
   have hlen:la.length<=lb.length:=by
    rcases Nat.lt_or_ge lb.length la.length with h5 | h5
    ·have:=val_lt_len hDb hCa h5; omega
    ·exact h5
   repeat (first | refine zg ?_ | refine WC.block ?_ | refine zc ?_ | refine zh ?_ | refine za ?_ | refine zt ?_ | refine zy ?_ | refine zx ?_ | refine zm ?_ | refine zi ?_ | refine zf ?_ | refine zn ?_ | refine zk ?_ | refine zl rfl ?_ | refine zv ?_ | refine zw ?_ | refine zj ?_ | refine zp ?_ | refine zo ?_ | refine zd rfl (ze qH rfl) ?_)
   refine WC.chain (fun k=>Nat.blt k 6) (fun w'=>w3.grownBy w' (some g4)) jg (by kernel_rfl) (fun w' e=>qN (qR _ _) e) ?_
   repeat (first | refine z1 rfl rfl (fun w' h=>zH qH (hB13.keep h (by simp; omega)) rfl rfl rfl) ?_ | refine z1 rfl rfl (fun w' h=>zH qH (hB23.keep h (by simp; omega)) rfl rfl rfl) ?_ | refine z1 rfl rfl (fun _ _=>ze qH rfl) ?_)
   refine qe rfl qK rfl rfl (minus_fn B cb lb A c la w3 hB3 hA3 hDb hDa (by omega) hlen hle) (fun v w' ⟨_,_,_,_,_,_,_,_,h⟩ w2 e=>jC (qN h e) _) ?_
   rintro _ w5 ⟨A5,c5,o,rfl,hR5,hD5,hv5,hl5,hg5⟩
   refine qe rfl qK rfl rfl (js nb A5 c5 o w5 hR5 hD5 (by omega)) (fun v w' ⟨_,h⟩ w2 e=>jC (qN (qI hg5 h) e) _) ?_
   rintro r w6 ⟨hN,hg6⟩
   have hB46:=(hB4.keep hg5 (by simp)).keep hg6 (by simp)
   have hg36:=qI hg5 hg6
   obtain ⟨a,b,rfl,ha,hb⟩:=hN.agg
   refine qw rfl (zU (vs:=[a,b]) qH rfl rfl rfl (by intro u hu; simp at hu; rcases hu with rfl | rfl <;> assumption) hB46 rfl rfl) (fun w' h=>qI (jC hg36 _) h.2) ?_
   rintro w7 ⟨hB7,hg7⟩
   refine qx ?_
   repeat (first | refine zg ?_ | refine WC.block ?_ | refine zc ?_ | refine zh ?_ | refine za ?_ | refine zt ?_ | refine zy ?_ | refine zx ?_ | refine zm ?_ | refine zi ?_ | refine zf ?_ | refine zn ?_ | refine zk ?_ | refine zl rfl ?_ | refine zv ?_ | refine zw ?_ | refine zj ?_ | refine zp ?_ | refine zo ?_ | refine zd rfl (ze qH rfl) ?_)
   have hzz:(bif nb then -(val o:Int) else (val o:Int))=(bif na then -(val la:Int) else (val la:Int))+(bif nb then -(val lb:Int) else (val lb:Int)):=by cases na <;> cases nb <;> simp at h |- <;> omega
   rw [hzz] at hN
   exact qc qH rfl rfl rfl hB7 rfl ⟨(hN.stored hB46 jk hg7).mono (by omega),jp (qI hg13 hg36) hg7 (by omega)⟩
end
 section
open Go Go.RowKit
attribute [local irreducible] WL WC WX WQ WK Yld Eff Ef0 Fn
theorem sub_fn (va vb_:Value) (x y:Int) (m:Nat) (w:World) (ha:Nm w va x m) (hb:Nm w vb_ y m) (hm:m<=900000):Fn Tryz.prog 106 ⟨[va,vb_]⟩ w fun r w'=>Nm w' r (x - y) (m+1)/\w.grownBy w' none:=by
 obtain ⟨a1,a2,rfl,ho1,ho2⟩:=ha.agg
 obtain ⟨b1,b2,rfl,ho3,ho4⟩:=hb.agg
 refine Fn.enter (by kernel_rfl) Tryz.func106 rfl Tryz.ntmps106 rfl ?_
 repeat (first | refine zg ?_ | refine WC.block ?_ | refine zc ?_ | refine zh ?_ | refine za ?_ | refine zt ?_ | refine zy ?_ | refine zx ?_ | refine zm ?_ | refine zi ?_ | refine zf ?_ | refine zn ?_ | refine zk ?_ | refine zl rfl ?_ | refine zv ?_ | refine zw ?_ | refine zj ?_ | refine zp ?_ | refine zo ?_ | refine zd rfl (Yld.add rfl rfl (by simp only [In]; omega)) ?_ | refine zd rfl (Yld.sub rfl rfl (by simp only [In]; omega)) ?_ | refine zd rfl (zC rfl rfl (by simp only [In]; omega)) ?_ | refine zd rfl (zr qH rfl rfl rfl rfl) ?_ | refine zd rfl (zu qH rfl rfl rfl (by simp only [In]; omega)) ?_ | refine zd rfl (zz rfl rfl (by omega) (by omega) (by simp only [In]; omega)) ?_ | refine zd rfl (zA rfl rfl (by omega) (by omega)) ?_ | refine zd rfl (zI rfl rfl (by omega)) ?_ | refine zd rfl (zG rfl rfl (by omega)) ?_ | refine zd rfl (ze qH rfl) ?_ | refine zd rfl (zF qJ rfl rfl rfl) ?_ | refine zd rfl (zD rfl rfl) ?_ | refine zd rfl (zB rfl rfl) ?_ | refine zd rfl (zq rfl rfl rfl) ?_ | refine zJ rfl rfl rfl rfl ?_ | refine zb rfl rfl rfl rfl (Yld.add rfl rfl (by simp only [In]; omega)) ?_ | refine zb rfl rfl rfl rfl (Yld.sub rfl rfl (by simp only [In]; omega)) ?_ | refine zb rfl rfl rfl rfl (zC rfl rfl (by simp only [In]; omega)) ?_ | refine zb rfl rfl rfl rfl (zr qH rfl rfl rfl rfl) ?_ | refine zb rfl rfl rfl rfl (zu qH rfl rfl rfl (by simp only [In]; omega)) ?_ | refine zb rfl rfl rfl rfl (zz rfl rfl (by omega) (by omega) (by simp only [In]; omega)) ?_ | refine zb rfl rfl rfl rfl (zA rfl rfl (by omega) (by omega)) ?_ | refine zb rfl rfl rfl rfl (zI rfl rfl (by omega)) ?_ | refine zb rfl rfl rfl rfl (zG rfl rfl (by omega)) ?_ | refine zb rfl rfl rfl rfl (ze qH rfl) ?_ | refine zb rfl rfl rfl rfl (zF qJ rfl rfl rfl) ?_ | refine zb rfl rfl rfl rfl (zD rfl rfl) ?_ | refine zb rfl rfl rfl rfl (zB rfl rfl) ?_ | refine zb rfl rfl rfl rfl (zq rfl rfl rfl) ?_)
 refine z4 (us:=[a1,a2]) rfl rfl rfl (fun g1 w1 hB1 hg1 hl1=>?_)
 repeat (first | refine zg ?_ | refine WC.block ?_ | refine zc ?_ | refine zh ?_ | refine za ?_ | refine zt ?_ | refine zy ?_ | refine zx ?_ | refine zm ?_ | refine zi ?_ | refine zf ?_ | refine zn ?_ | refine zk ?_ | refine zl rfl ?_ | refine zv ?_ | refine zw ?_ | refine zj ?_ | refine zp ?_ | refine zo ?_ | refine zd rfl (Yld.add rfl rfl (by simp only [In]; omega)) ?_ | refine zd rfl (Yld.sub rfl rfl (by simp only [In]; omega)) ?_ | refine zd rfl (zC rfl rfl (by simp only [In]; omega)) ?_ | refine zd rfl (zr qH rfl rfl rfl rfl) ?_ | refine zd rfl (zu qH rfl rfl rfl (by simp only [In]; omega)) ?_ | refine zd rfl (zz rfl rfl (by omega) (by omega) (by simp only [In]; omega)) ?_ | refine zd rfl (zA rfl rfl (by omega) (by omega)) ?_ | refine zd rfl (zI rfl rfl (by omega)) ?_ | refine zd rfl (zG rfl rfl (by omega)) ?_ | refine zd rfl (ze qH rfl) ?_ | refine zd rfl (zF qJ rfl rfl rfl) ?_ | refine zd rfl (zD rfl rfl) ?_ | refine zd rfl (zB rfl rfl) ?_ | refine zd rfl (zq rfl rfl rfl) ?_ | refine zJ rfl rfl rfl rfl ?_ | refine zb rfl rfl rfl rfl (Yld.add rfl rfl (by simp only [In]; omega)) ?_ | refine zb rfl rfl rfl rfl (Yld.sub rfl rfl (by simp only [In]; omega)) ?_ | refine zb rfl rfl rfl rfl (zC rfl rfl (by simp only [In]; omega)) ?_ | refine zb rfl rfl rfl rfl (zr qH rfl rfl rfl rfl) ?_ | refine zb rfl rfl rfl rfl (zu qH rfl rfl rfl (by simp only [In]; omega)) ?_ | refine zb rfl rfl rfl rfl (zz rfl rfl (by omega) (by omega) (by simp only [In]; omega)) ?_ | refine zb rfl rfl rfl rfl (zA rfl rfl (by omega) (by omega)) ?_ | refine zb rfl rfl rfl rfl (zI rfl rfl (by omega)) ?_ | refine zb rfl rfl rfl rfl (zG rfl rfl (by omega)) ?_ | refine zb rfl rfl rfl rfl (ze qH rfl) ?_ | refine zb rfl rfl rfl rfl (zF qJ rfl rfl rfl) ?_ | refine zb rfl rfl rfl rfl (zD rfl rfl) ?_ | refine zb rfl rfl rfl rfl (zB rfl rfl) ?_ | refine zb rfl rfl rfl rfl (zq rfl rfl rfl) ?_)
 refine z4 (us:=[b1,b2]) rfl rfl rfl (fun g2 w2 hB2 hg2 hl2=>?_)
 repeat (first | refine zg ?_ | refine WC.block ?_ | refine zc ?_ | refine zh ?_ | refine za ?_ | refine zt ?_ | refine zy ?_ | refine zx ?_ | refine zm ?_ | refine zi ?_ | refine zf ?_ | refine zn ?_ | refine zk ?_ | refine zl rfl ?_ | refine zv ?_ | refine zw ?_ | refine zj ?_ | refine zp ?_ | refine zo ?_ | refine zd rfl (Yld.add rfl rfl (by simp only [In]; omega)) ?_ | refine zd rfl (Yld.sub rfl rfl (by simp only [In]; omega)) ?_ | refine zd rfl (zC rfl rfl (by simp only [In]; omega)) ?_ | refine zd rfl (zr qH rfl rfl rfl rfl) ?_ | refine zd rfl (zu qH rfl rfl rfl (by simp only [In]; omega)) ?_ | refine zd rfl (zz rfl rfl (by omega) (by omega) (by simp only [In]; omega)) ?_ | refine zd rfl (zA rfl rfl (by omega) (by omega)) ?_ | refine zd rfl (zI rfl rfl (by omega)) ?_ | refine zd rfl (zG rfl rfl (by omega)) ?_ | refine zd rfl (ze qH rfl) ?_ | refine zd rfl (zF qJ rfl rfl rfl) ?_ | refine zd rfl (zD rfl rfl) ?_ | refine zd rfl (zB rfl rfl) ?_ | refine zd rfl (zq rfl rfl rfl) ?_ | refine zJ rfl rfl rfl rfl ?_ | refine zb rfl rfl rfl rfl (Yld.add rfl rfl (by simp only [In]; omega)) ?_ | refine zb rfl rfl rfl rfl (Yld.sub rfl rfl (by simp only [In]; omega)) ?_ | refine zb rfl rfl rfl rfl (zC rfl rfl (by simp only [In]; omega)) ?_ | refine zb rfl rfl rfl rfl (zr qH rfl rfl rfl rfl) ?_ | refine zb rfl rfl rfl rfl (zu qH rfl rfl rfl (by simp only [In]; omega)) ?_ | refine zb rfl rfl rfl rfl (zz rfl rfl (by omega) (by omega) (by simp only [In]; omega)) ?_ | refine zb rfl rfl rfl rfl (zA rfl rfl (by omega) (by omega)) ?_ | refine zb rfl rfl rfl rfl (zI rfl rfl (by omega)) ?_ | refine zb rfl rfl rfl rfl (zG rfl rfl (by omega)) ?_ | refine zb rfl rfl rfl rfl (ze qH rfl) ?_ | refine zb rfl rfl rfl rfl (zF qJ rfl rfl rfl) ?_ | refine zb rfl rfl rfl rfl (zD rfl rfl) ?_ | refine zb rfl rfl rfl rfl (zB rfl rfl) ?_ | refine zb rfl rfl rfl rfl (zq rfl rfl rfl) ?_)
 refine WL.alloc rfl qX (fun g4 w3 hB4 hg3 hl4=>?_)
 have h1:=hB1.lt
 have h2:=hB2.lt
 have hz1:=hg1.size
 have hz2:=hg2.size
 have hB13:=(hB1.keep hg2 (by simp)).keep hg3 (by simp)
 have hB23:=hB2.keep hg3 (by simp)
 have hg13:=qI (qI hg1 hg2) hg3
 repeat (first | refine zg ?_ | refine WC.block ?_ | refine zc ?_ | refine zh ?_ | refine za ?_ | refine zt ?_ | refine zy ?_ | refine zx ?_ | refine zm ?_ | refine zi ?_ | refine zf ?_ | refine zn ?_ | refine zk ?_ | refine zl rfl ?_ | refine zv ?_ | refine zw ?_ | refine zj ?_ | refine zp ?_ | refine zo ?_ | refine zd rfl (Yld.add rfl rfl (by simp only [In]; omega)) ?_ | refine zd rfl (Yld.sub rfl rfl (by simp only [In]; omega)) ?_ | refine zd rfl (zC rfl rfl (by simp only [In]; omega)) ?_ | refine zd rfl (zr qH rfl rfl rfl rfl) ?_ | refine zd rfl (zu qH rfl rfl rfl (by simp only [In]; omega)) ?_ | refine zd rfl (zz rfl rfl (by omega) (by omega) (by simp only [In]; omega)) ?_ | refine zd rfl (zA rfl rfl (by omega) (by omega)) ?_ | refine zd rfl (zI rfl rfl (by omega)) ?_ | refine zd rfl (zG rfl rfl (by omega)) ?_ | refine zd rfl (ze qH rfl) ?_ | refine zd rfl (zF qJ rfl rfl rfl) ?_ | refine zd rfl (zD rfl rfl) ?_ | refine zd rfl (zB rfl rfl) ?_ | refine zd rfl (zq rfl rfl rfl) ?_ | refine zJ rfl rfl rfl rfl ?_ | refine zb rfl rfl rfl rfl (Yld.add rfl rfl (by simp only [In]; omega)) ?_ | refine zb rfl rfl rfl rfl (Yld.sub rfl rfl (by simp only [In]; omega)) ?_ | refine zb rfl rfl rfl rfl (zC rfl rfl (by simp only [In]; omega)) ?_ | refine zb rfl rfl rfl rfl (zr qH rfl rfl rfl rfl) ?_ | refine zb rfl rfl rfl rfl (zu qH rfl rfl rfl (by simp only [In]; omega)) ?_ | refine zb rfl rfl rfl rfl (zz rfl rfl (by omega) (by omega) (by simp only [In]; omega)) ?_ | refine zb rfl rfl rfl rfl (zA rfl rfl (by omega) (by omega)) ?_ | refine zb rfl rfl rfl rfl (zI rfl rfl (by omega)) ?_ | refine zb rfl rfl rfl rfl (zG rfl rfl (by omega)) ?_ | refine zb rfl rfl rfl rfl (ze qH rfl) ?_ | refine zb rfl rfl rfl rfl (zF qJ rfl rfl rfl) ?_ | refine zb rfl rfl rfl rfl (zD rfl rfl) ?_ | refine zb rfl rfl rfl rfl (zB rfl rfl) ?_ | refine zb rfl rfl rfl rfl (zq rfl rfl rfl) ?_)
 refine WC.chain (fun k=>Nat.blt k 2) (fun w'=>w3.grownBy w' (some g4)) jg (by kernel_rfl) (fun w' e=>qN (qR _ _) e) ?_
 refine z1 rfl rfl (fun w' h=>zO (vs:=[a1,a2]) qH (hB13.keep h (by simp; omega)) rfl rfl rfl rfl) ?_
 refine z1 rfl rfl (fun w' h=>zO (vs:=[b1,b2]) qH (hB23.keep h (by simp; omega)) rfl rfl rfl rfl) ?_
 refine qe rfl qK rfl rfl (neg_fn _ y m w3 (hb.grown hg13) (by omega)) (fun v w' h w2 e=>jC (qN h.2 e) _) ?_
 rintro r5 w5 ⟨hN5,hg5⟩
 refine qe rfl qK rfl rfl (add_fn _ _ x (-y) m w5 ((ha.grown hg13).grown hg5) hN5 hm) (fun v w' h w2 e=>jC (qN (qI hg5 h.2) e) _) ?_
 rintro r w6 ⟨hN,hg6⟩
 have hB46:=(hB4.keep hg5 (by simp)).keep hg6 (by simp)
 have hg36:=qI hg5 hg6
 obtain ⟨a,b,rfl,hoa,hob⟩:=hN.agg
 refine qw rfl (zU (vs:=[a,b]) qH rfl rfl rfl (by intro u hu; simp at hu; rcases hu with rfl | rfl <;> assumption) hB46 rfl rfl) (fun w' h=>qI (jC hg36 _) h.2) ?_
 rintro w7 ⟨hB7,hg7⟩
 refine qx ?_
 repeat (first | refine zg ?_ | refine WC.block ?_ | refine zc ?_ | refine zh ?_ | refine za ?_ | refine zt ?_ | refine zy ?_ | refine zx ?_ | refine zm ?_ | refine zi ?_ | refine zf ?_ | refine zn ?_ | refine zk ?_ | refine zl rfl ?_ | refine zv ?_ | refine zw ?_ | refine zj ?_ | refine zp ?_ | refine zo ?_ | refine zd rfl (Yld.add rfl rfl (by simp only [In]; omega)) ?_ | refine zd rfl (Yld.sub rfl rfl (by simp only [In]; omega)) ?_ | refine zd rfl (zC rfl rfl (by simp only [In]; omega)) ?_ | refine zd rfl (zr qH rfl rfl rfl rfl) ?_ | refine zd rfl (zu qH rfl rfl rfl (by simp only [In]; omega)) ?_ | refine zd rfl (zz rfl rfl (by omega) (by omega) (by simp only [In]; omega)) ?_ | refine zd rfl (zA rfl rfl (by omega) (by omega)) ?_ | refine zd rfl (zI rfl rfl (by omega)) ?_ | refine zd rfl (zG rfl rfl (by omega)) ?_ | refine zd rfl (ze qH rfl) ?_ | refine zd rfl (zF qJ rfl rfl rfl) ?_ | refine zd rfl (zD rfl rfl) ?_ | refine zd rfl (zB rfl rfl) ?_ | refine zd rfl (zq rfl rfl rfl) ?_ | refine zJ rfl rfl rfl rfl ?_ | refine zb rfl rfl rfl rfl (Yld.add rfl rfl (by simp only [In]; omega)) ?_ | refine zb rfl rfl rfl rfl (Yld.sub rfl rfl (by simp only [In]; omega)) ?_ | refine zb rfl rfl rfl rfl (zC rfl rfl (by simp only [In]; omega)) ?_ | refine zb rfl rfl rfl rfl (zr qH rfl rfl rfl rfl) ?_ | refine zb rfl rfl rfl rfl (zu qH rfl rfl rfl (by simp only [In]; omega)) ?_ | refine zb rfl rfl rfl rfl (zz rfl rfl (by omega) (by omega) (by simp only [In]; omega)) ?_ | refine zb rfl rfl rfl rfl (zA rfl rfl (by omega) (by omega)) ?_ | refine zb rfl rfl rfl rfl (zI rfl rfl (by omega)) ?_ | refine zb rfl rfl rfl rfl (zG rfl rfl (by omega)) ?_ | refine zb rfl rfl rfl rfl (ze qH rfl) ?_ | refine zb rfl rfl rfl rfl (zF qJ rfl rfl rfl) ?_ | refine zb rfl rfl rfl rfl (zD rfl rfl) ?_ | refine zb rfl rfl rfl rfl (zB rfl rfl) ?_ | refine zb rfl rfl rfl rfl (zq rfl rfl rfl) ?_)
 rw [show x + -y=x - y by omega] at hN
 exact qc qH rfl rfl rfl hB7 rfl ⟨hN.stored hB46 jk hg7,jp (qI hg13 hg36) hg7 (by omega)⟩
end
 section
open Go Go.RowKit
attribute [local irreducible] WL WC WX WQ WK Yld Eff Ef0 Fn
theorem val_pos {l:List Nat} (hC:Can l) (h:l≠[]):0<val l:=by
 have:=(val_zero hC).mp
 rcases Nat.eq_zero_or_pos (val l) with e | e
 ·exact absurd (this e) h
 ·exact e
theorem tells_sign {n:Int} {x y:Nat} (ht:Tells n x y):(if n<0 then (-1:Int) else if n > 0 then 1 else 0)=if (x:Int)<(y:Int) then -1 else if (y:Int)<(x:Int) then 1 else 0:=by
 rcases ht with h | h | h <;> (repeat' split) <;> omega
theorem tells_sign' {n:Int} {x y:Nat} (ht:Tells n y x):(if n<0 then (-1:Int) else if n > 0 then 1 else 0)=if -(x:Int) < -(y:Int) then -1 else if -(y:Int) < -(x:Int) then 1 else 0:=by
 rcases ht with h | h | h <;> (repeat' split) <;> omega
set_option maxHeartbeats 1000000 in
theorem ncmp_fn (va vb_:Value) (x y:Int) (m:Nat) (w:World) (ha:Nm w va x m) (hb:Nm w vb_ y m) (hm:m<=900000):Fn Tryz.prog 105 ⟨[va,vb_]⟩ w fun r w'=>r=vi (if x<y then -1 else if y<x then 1 else 0)/\w.grownBy w' none:=by
 obtain ⟨na,A,c,la,rfl,hA,hDa,hCa,hla,hna,rfl⟩:=ha
 obtain ⟨nb,B,cb,lb,rfl,hB,hDb,hCb,hlb,hnb,rfl⟩:=hb
 refine Fn.enter (by kernel_rfl) Tryz.func105 rfl Tryz.ntmps105 rfl ?_
 repeat (first | refine zg ?_ | refine WC.block ?_ | refine zc ?_ | refine zh ?_ | refine za ?_ | refine zt ?_ | refine zy ?_ | refine zx ?_ | refine zm ?_ | refine zi ?_ | refine zf ?_ | refine zn ?_ | refine zk ?_ | refine zl rfl ?_ | refine zv ?_ | refine zw ?_ | refine zj ?_ | refine zp ?_ | refine zo ?_ | refine zd rfl (ze qH rfl) ?_ | refine zd rfl (zq rfl rfl rfl) ?_ | refine zJ rfl rfl rfl rfl ?_ | refine zb rfl rfl rfl rfl (ze qH rfl) ?_)
 refine z4 (us:=[.bool na,.slice A la.length c]) rfl rfl rfl (fun g1 w1 hB1 hg1 hl1=>?_)
 repeat (first | refine zg ?_ | refine WC.block ?_ | refine zc ?_ | refine zh ?_ | refine za ?_ | refine zt ?_ | refine zy ?_ | refine zx ?_ | refine zm ?_ | refine zi ?_ | refine zf ?_ | refine zn ?_ | refine zk ?_ | refine zl rfl ?_ | refine zv ?_ | refine zw ?_ | refine zj ?_ | refine zp ?_ | refine zo ?_ | refine zd rfl (ze qH rfl) ?_ | refine zd rfl (zq rfl rfl rfl) ?_ | refine zJ rfl rfl rfl rfl ?_ | refine zb rfl rfl rfl rfl (ze qH rfl) ?_)
 refine z4 (us:=[.bool nb,.slice B lb.length cb]) rfl rfl rfl (fun g2 w2 hB2 hg2 hl2=>?_)
 have hB12:=hB1.keep hg2 (by simp)
 have hg12:=qI hg1 hg2
 have hA2:=hA.grown hg12
 have hB22:=hB.grown hg12
 have hbt:=Tryz.underlying4
 cases na <;> cases nb
 ·repeat (first | refine zd rfl (zH qH hB12 rfl rfl rfl) ?_ | refine zd rfl (zH qH hB2 rfl rfl rfl) ?_ | refine zd rfl (qf hbt rfl rfl) ?_ | refine zb rfl rfl rfl rfl (zH qH hB12 rfl rfl rfl) ?_ | refine zg ?_ | refine WC.block ?_ | refine zc ?_ | refine zh ?_ | refine za ?_ | refine zt ?_ | refine zy ?_ | refine zx ?_ | refine zm ?_ | refine zi ?_ | refine zf ?_ | refine zn ?_ | refine zk ?_ | refine zl rfl ?_ | refine zv ?_ | refine zw ?_ | refine zj ?_ | refine zp ?_ | refine zo ?_ | refine zd rfl (ze qH rfl) ?_ | refine zd rfl (zq rfl rfl rfl) ?_ | refine zJ rfl rfl rfl rfl ?_ | refine zb rfl rfl rfl rfl (ze qH rfl) ?_)
  refine zE rfl (fun h=>by cases h) (fun _=>?_)
  repeat (first | refine zd rfl (zH qH hB12 rfl rfl rfl) ?_ | refine zd rfl (zH qH hB2 rfl rfl rfl) ?_ | refine zd rfl (qf hbt rfl rfl) ?_ | refine zb rfl rfl rfl rfl (zH qH hB12 rfl rfl rfl) ?_ | refine zg ?_ | refine WC.block ?_ | refine zc ?_ | refine zh ?_ | refine za ?_ | refine zt ?_ | refine zy ?_ | refine zx ?_ | refine zm ?_ | refine zi ?_ | refine zf ?_ | refine zn ?_ | refine zk ?_ | refine zl rfl ?_ | refine zv ?_ | refine zw ?_ | refine zj ?_ | refine zp ?_ | refine zo ?_ | refine zd rfl (ze qH rfl) ?_ | refine zd rfl (zq rfl rfl rfl) ?_ | refine zJ rfl rfl rfl rfl ?_ | refine zb rfl rfl rfl rfl (ze qH rfl) ?_)
  refine zE rfl (fun h=>by cases h) (fun _=>?_)
  repeat (first | refine zd rfl (zH qH hB12 rfl rfl rfl) ?_ | refine zd rfl (zH qH hB2 rfl rfl rfl) ?_ | refine zd rfl (qf hbt rfl rfl) ?_ | refine zb rfl rfl rfl rfl (zH qH hB12 rfl rfl rfl) ?_ | refine zg ?_ | refine WC.block ?_ | refine zc ?_ | refine zh ?_ | refine za ?_ | refine zt ?_ | refine zy ?_ | refine zx ?_ | refine zm ?_ | refine zi ?_ | refine zf ?_ | refine zn ?_ | refine zk ?_ | refine zl rfl ?_ | refine zv ?_ | refine zw ?_ | refine zj ?_ | refine zp ?_ | refine zo ?_ | refine zd rfl (ze qH rfl) ?_ | refine zd rfl (zq rfl rfl rfl) ?_ | refine zJ rfl rfl rfl rfl ?_ | refine zb rfl rfl rfl rfl (ze qH rfl) ?_)
  refine zE rfl (fun h=>by cases h) (fun _=>?_)
  repeat (first | refine zd rfl (zH qH hB12 rfl rfl rfl) ?_ | refine zd rfl (zH qH hB2 rfl rfl rfl) ?_ | refine zd rfl (qf hbt rfl rfl) ?_ | refine zb rfl rfl rfl rfl (zH qH hB12 rfl rfl rfl) ?_ | refine zg ?_ | refine WC.block ?_ | refine zc ?_ | refine zh ?_ | refine za ?_ | refine zt ?_ | refine zy ?_ | refine zx ?_ | refine zm ?_ | refine zi ?_ | refine zf ?_ | refine zn ?_ | refine zk ?_ | refine zl rfl ?_ | refine zv ?_ | refine zw ?_ | refine zj ?_ | refine zp ?_ | refine zo ?_ | refine zd rfl (ze qH rfl) ?_ | refine zd rfl (zq rfl rfl rfl) ?_ | refine zJ rfl rfl rfl rfl ?_ | refine zb rfl rfl rfl rfl (ze qH rfl) ?_)
  refine zK rfl rfl (cmp_fn A c la B cb lb w2 hA2 hB22 hDa hDb hCa hCb (by omega) (by omega)) ?_
  rintro _ w3 ⟨⟨n,rfl,ht⟩,hw3⟩
  have hw4:=hw3.symm
  subst hw4
  refine zK rfl rfl (sign_fn n w2) ?_
  rintro _ w4 ⟨rfl,hw5⟩
  have hw6:=hw5.symm
  subst hw6
  repeat (first | refine zg ?_ | refine WC.block ?_ | refine zc ?_ | refine zh ?_ | refine za ?_ | refine zt ?_ | refine zy ?_ | refine zx ?_ | refine zm ?_ | refine zi ?_ | refine zf ?_ | refine zn ?_ | refine zk ?_ | refine zl rfl ?_ | refine zv ?_ | refine zw ?_ | refine zj ?_ | refine zp ?_ | refine zo ?_ | refine zd rfl (ze qH rfl) ?_ | refine zd rfl (zq rfl rfl rfl) ?_ | refine zJ rfl rfl rfl rfl ?_ | refine zb rfl rfl rfl rfl (ze qH rfl) ?_)
  refine zM rfl rfl ⟨?_,hg12⟩
  simp only [cond_false]
  exact congrArg vi (tells_sign ht)
 ·repeat (first | refine zd rfl (zH qH hB12 rfl rfl rfl) ?_ | refine zd rfl (zH qH hB2 rfl rfl rfl) ?_ | refine zd rfl (qf hbt rfl rfl) ?_ | refine zb rfl rfl rfl rfl (zH qH hB12 rfl rfl rfl) ?_ | refine zg ?_ | refine WC.block ?_ | refine zc ?_ | refine zh ?_ | refine za ?_ | refine zt ?_ | refine zy ?_ | refine zx ?_ | refine zm ?_ | refine zi ?_ | refine zf ?_ | refine zn ?_ | refine zk ?_ | refine zl rfl ?_ | refine zv ?_ | refine zw ?_ | refine zj ?_ | refine zp ?_ | refine zo ?_ | refine zd rfl (ze qH rfl) ?_ | refine zd rfl (zq rfl rfl rfl) ?_ | refine zJ rfl rfl rfl rfl ?_ | refine zb rfl rfl rfl rfl (ze qH rfl) ?_)
  refine zE rfl (fun h=>by cases h) (fun _=>?_)
  repeat (first | refine zd rfl (zH qH hB12 rfl rfl rfl) ?_ | refine zd rfl (zH qH hB2 rfl rfl rfl) ?_ | refine zd rfl (qf hbt rfl rfl) ?_ | refine zb rfl rfl rfl rfl (zH qH hB12 rfl rfl rfl) ?_ | refine zg ?_ | refine WC.block ?_ | refine zc ?_ | refine zh ?_ | refine za ?_ | refine zt ?_ | refine zy ?_ | refine zx ?_ | refine zm ?_ | refine zi ?_ | refine zf ?_ | refine zn ?_ | refine zk ?_ | refine zl rfl ?_ | refine zv ?_ | refine zw ?_ | refine zj ?_ | refine zp ?_ | refine zo ?_ | refine zd rfl (ze qH rfl) ?_ | refine zd rfl (zq rfl rfl rfl) ?_ | refine zJ rfl rfl rfl rfl ?_ | refine zb rfl rfl rfl rfl (ze qH rfl) ?_)
  refine zE rfl (fun _=>?_) (fun h=>by cases h)
  repeat (first | refine zd rfl (zH qH hB12 rfl rfl rfl) ?_ | refine zd rfl (zH qH hB2 rfl rfl rfl) ?_ | refine zd rfl (qf hbt rfl rfl) ?_ | refine zb rfl rfl rfl rfl (zH qH hB12 rfl rfl rfl) ?_ | refine zg ?_ | refine WC.block ?_ | refine zc ?_ | refine zh ?_ | refine za ?_ | refine zt ?_ | refine zy ?_ | refine zx ?_ | refine zm ?_ | refine zi ?_ | refine zf ?_ | refine zn ?_ | refine zk ?_ | refine zl rfl ?_ | refine zv ?_ | refine zw ?_ | refine zj ?_ | refine zp ?_ | refine zo ?_ | refine zd rfl (ze qH rfl) ?_ | refine zd rfl (zq rfl rfl rfl) ?_ | refine zJ rfl rfl rfl rfl ?_ | refine zb rfl rfl rfl rfl (ze qH rfl) ?_)
  have hp:=val_pos hCb (hnb rfl)
  refine zM rfl rfl ⟨?_,hg12⟩
  simp only [cond_true,cond_false]
  rw [if_neg (by omega),if_pos (by omega)]
  rfl
 ·repeat (first | refine zd rfl (zH qH hB12 rfl rfl rfl) ?_ | refine zd rfl (zH qH hB2 rfl rfl rfl) ?_ | refine zd rfl (qf hbt rfl rfl) ?_ | refine zb rfl rfl rfl rfl (zH qH hB12 rfl rfl rfl) ?_ | refine zg ?_ | refine WC.block ?_ | refine zc ?_ | refine zh ?_ | refine za ?_ | refine zt ?_ | refine zy ?_ | refine zx ?_ | refine zm ?_ | refine zi ?_ | refine zf ?_ | refine zn ?_ | refine zk ?_ | refine zl rfl ?_ | refine zv ?_ | refine zw ?_ | refine zj ?_ | refine zp ?_ | refine zo ?_ | refine zd rfl (ze qH rfl) ?_ | refine zd rfl (zq rfl rfl rfl) ?_ | refine zJ rfl rfl rfl rfl ?_ | refine zb rfl rfl rfl rfl (ze qH rfl) ?_)
  refine zE rfl (fun _=>?_) (fun h=>by cases h)
  repeat (first | refine zd rfl (zH qH hB12 rfl rfl rfl) ?_ | refine zd rfl (zH qH hB2 rfl rfl rfl) ?_ | refine zd rfl (qf hbt rfl rfl) ?_ | refine zb rfl rfl rfl rfl (zH qH hB12 rfl rfl rfl) ?_ | refine zg ?_ | refine WC.block ?_ | refine zc ?_ | refine zh ?_ | refine za ?_ | refine zt ?_ | refine zy ?_ | refine zx ?_ | refine zm ?_ | refine zi ?_ | refine zf ?_ | refine zn ?_ | refine zk ?_ | refine zl rfl ?_ | refine zv ?_ | refine zw ?_ | refine zj ?_ | refine zp ?_ | refine zo ?_ | refine zd rfl (ze qH rfl) ?_ | refine zd rfl (zq rfl rfl rfl) ?_ | refine zJ rfl rfl rfl rfl ?_ | refine zb rfl rfl rfl rfl (ze qH rfl) ?_)
  have hp:=val_pos hCa (hna rfl)
  refine zM rfl rfl ⟨?_,hg12⟩
  simp only [cond_true,cond_false]
  rw [if_pos (by omega)]
  rfl
 ·repeat (first | refine zd rfl (zH qH hB12 rfl rfl rfl) ?_ | refine zd rfl (zH qH hB2 rfl rfl rfl) ?_ | refine zd rfl (qf hbt rfl rfl) ?_ | refine zb rfl rfl rfl rfl (zH qH hB12 rfl rfl rfl) ?_ | refine zg ?_ | refine WC.block ?_ | refine zc ?_ | refine zh ?_ | refine za ?_ | refine zt ?_ | refine zy ?_ | refine zx ?_ | refine zm ?_ | refine zi ?_ | refine zf ?_ | refine zn ?_ | refine zk ?_ | refine zl rfl ?_ | refine zv ?_ | refine zw ?_ | refine zj ?_ | refine zp ?_ | refine zo ?_ | refine zd rfl (ze qH rfl) ?_ | refine zd rfl (zq rfl rfl rfl) ?_ | refine zJ rfl rfl rfl rfl ?_ | refine zb rfl rfl rfl rfl (ze qH rfl) ?_)
  refine zE rfl (fun h=>by cases h) (fun _=>?_)
  repeat (first | refine zd rfl (zH qH hB12 rfl rfl rfl) ?_ | refine zd rfl (zH qH hB2 rfl rfl rfl) ?_ | refine zd rfl (qf hbt rfl rfl) ?_ | refine zb rfl rfl rfl rfl (zH qH hB12 rfl rfl rfl) ?_ | refine zg ?_ | refine WC.block ?_ | refine zc ?_ | refine zh ?_ | refine za ?_ | refine zt ?_ | refine zy ?_ | refine zx ?_ | refine zm ?_ | refine zi ?_ | refine zf ?_ | refine zn ?_ | refine zk ?_ | refine zl rfl ?_ | refine zv ?_ | refine zw ?_ | refine zj ?_ | refine zp ?_ | refine zo ?_ | refine zd rfl (ze qH rfl) ?_ | refine zd rfl (zq rfl rfl rfl) ?_ | refine zJ rfl rfl rfl rfl ?_ | refine zb rfl rfl rfl rfl (ze qH rfl) ?_)
  refine zE rfl (fun h=>by cases h) (fun _=>?_)
  repeat (first | refine zd rfl (zH qH hB12 rfl rfl rfl) ?_ | refine zd rfl (zH qH hB2 rfl rfl rfl) ?_ | refine zd rfl (qf hbt rfl rfl) ?_ | refine zb rfl rfl rfl rfl (zH qH hB12 rfl rfl rfl) ?_ | refine zg ?_ | refine WC.block ?_ | refine zc ?_ | refine zh ?_ | refine za ?_ | refine zt ?_ | refine zy ?_ | refine zx ?_ | refine zm ?_ | refine zi ?_ | refine zf ?_ | refine zn ?_ | refine zk ?_ | refine zl rfl ?_ | refine zv ?_ | refine zw ?_ | refine zj ?_ | refine zp ?_ | refine zo ?_ | refine zd rfl (ze qH rfl) ?_ | refine zd rfl (zq rfl rfl rfl) ?_ | refine zJ rfl rfl rfl rfl ?_ | refine zb rfl rfl rfl rfl (ze qH rfl) ?_)
  refine zE rfl (fun _=>?_) (fun h=>by cases h)
  repeat (first | refine zd rfl (zH qH hB12 rfl rfl rfl) ?_ | refine zd rfl (zH qH hB2 rfl rfl rfl) ?_ | refine zd rfl (qf hbt rfl rfl) ?_ | refine zb rfl rfl rfl rfl (zH qH hB12 rfl rfl rfl) ?_ | refine zg ?_ | refine WC.block ?_ | refine zc ?_ | refine zh ?_ | refine za ?_ | refine zt ?_ | refine zy ?_ | refine zx ?_ | refine zm ?_ | refine zi ?_ | refine zf ?_ | refine zn ?_ | refine zk ?_ | refine zl rfl ?_ | refine zv ?_ | refine zw ?_ | refine zj ?_ | refine zp ?_ | refine zo ?_ | refine zd rfl (ze qH rfl) ?_ | refine zd rfl (zq rfl rfl rfl) ?_ | refine zJ rfl rfl rfl rfl ?_ | refine zb rfl rfl rfl rfl (ze qH rfl) ?_)
  refine zK rfl rfl (cmp_fn B cb lb A c la w2 hB22 hA2 hDb hDa hCb hCa (by omega) (by omega)) ?_
  rintro _ w3 ⟨⟨n,rfl,ht⟩,hw3⟩
  have hw4:=hw3.symm
  subst hw4
  refine zK rfl rfl (sign_fn n w2) ?_
  rintro _ w4 ⟨rfl,hw5⟩
  have hw6:=hw5.symm
  subst hw6
  repeat (first | refine zg ?_ | refine WC.block ?_ | refine zc ?_ | refine zh ?_ | refine za ?_ | refine zt ?_ | refine zy ?_ | refine zx ?_ | refine zm ?_ | refine zi ?_ | refine zf ?_ | refine zn ?_ | refine zk ?_ | refine zl rfl ?_ | refine zv ?_ | refine zw ?_ | refine zj ?_ | refine zp ?_ | refine zo ?_ | refine zd rfl (ze qH rfl) ?_ | refine zd rfl (zq rfl rfl rfl) ?_ | refine zJ rfl rfl rfl rfl ?_ | refine zb rfl rfl rfl rfl (ze qH rfl) ?_)
  refine zM rfl rfl ⟨?_,hg12⟩
  simp only [cond_true]
  exact congrArg vi (tells_sign' ht)
end
 section
open Go Go.RowKit
attribute [local irreducible] WL WC WX WQ WK Yld Eff Ef0 Fn
theorem val_set:∀ (l:List Nat) (j d:Nat),j<l.length->val (l.set j d)+1000000000 ^ j*l.getD j 0=val l+1000000000 ^ j*d
 | [],j,d,h=>by simp at h
 | x :: l,0,d,_=>by simp [val]; omega
 | x :: l,j+1,d,h=>by
  have:=val_set l j d (by simpa using h)
  simp only [List.set_cons_succ,val,List.getD_cons_succ,Nat.pow_succ]
  grind
theorem getD_setN_eq (l:List Nat) (j d:Nat) (h:j<l.length):(l.set j d).getD j 0=d:=by simp [List.getD,h]
theorem getD_setN_ne (l:List Nat) (j i d:Nat) (h:j≠i):(l.set j d).getD i 0=l.getD i 0:=by simp [List.getD,List.getElem?_set_ne h]
theorem Dg.set {l:List Nat} (h:Dg l) (j:Nat) {d:Nat} (hd:d<1000000000):Dg (l.set j d):=fun i=>by
 rcases Nat.lt_or_ge j l.length with hj | hj
 ·rcases Classical.em (j=i) with e | e
  ·subst e; rw [getD_setN_eq l j d hj]; exact hd
  ·rw [getD_setN_ne l j i d e]; exact h i
 ·rw [List.set_eq_of_length_le hj]; exact h i
theorem Dg.zeros (m:Nat):Dg (List.replicate m 0):=fun i=>by
 simp only [List.getD,List.getElem?_replicate]; split <;> simp
theorem val_zeros (m:Nat):val (List.replicate m 0)=0:=by
 induction m with
 | zero=>rfl
 | succ m ih=>simp [List.replicate_succ,val,ih]
theorem mul_step (o old p x y c c' d V t:Nat) (h:d+1000000000*c'=old+x*y+c) (hs:o+p*old=V+p*d) (h0:V+c*p=t):o+c'*(p*1000000000)=t+x*y*p:=by grind
set_option maxHeartbeats 4000000 in
theorem mul_fn (na nb:Bool) (A:Option Addr) (c:Nat) (la:List Nat) (B:Option Addr) (cb:Nat) (lb:List Nat) (w:World) (hA:Rd vd w A c la) (hB:Rd vd w B cb lb) (hDa:Dg la) (hDb:Dg lb) (hla:la.length<=400000) (hlb:lb.length<=400000) :
  Fn Tryz.prog 189 ⟨[.agg ⟨[.bool na,.slice A la.length c]⟩,.agg ⟨[.bool nb,.slice B lb.length cb]⟩]⟩ w fun r w'=>Nm w' r (bif na != nb then -((val la*val lb:Nat):Int) else ((val la*val lb:Nat):Int)) (la.length+lb.length)/\w.grownBy w' none:=by
 refine Fn.enter (by kernel_rfl) Tryz.func189 rfl Tryz.ntmps189 rfl ?_
 repeat (first | refine zg ?_ | refine WC.block ?_ | refine zc ?_ | refine zh ?_ | refine za ?_ | refine zt ?_ | refine zy ?_ | refine zx ?_ | refine zm ?_ | refine zi ?_ | refine zf ?_ | refine zn ?_ | refine zk ?_ | refine zl rfl ?_ | refine zv ?_ | refine zw ?_ | refine zj ?_ | refine zp ?_ | refine zo ?_ | refine zd rfl (Yld.add rfl rfl (by simp only [In]; omega)) ?_ | refine zd rfl (zC rfl rfl (by simp only [In]; omega)) ?_ | refine zd rfl (zr qH rfl rfl rfl rfl) ?_ | refine zd rfl (zu qH rfl rfl rfl (by simp only [In]; omega)) ?_ | refine zd rfl (zz rfl rfl (by omega) (by omega) (by simp only [In]; omega)) ?_ | refine zd rfl (zA rfl rfl (by omega) (by omega)) ?_ | refine zd rfl (ze qH rfl) ?_)
 refine z4 (us:=[.bool na,.slice A la.length c]) rfl rfl rfl (fun g1 w1 hB1 hg1 hl1=>?_)
 repeat (first | refine zg ?_ | refine WC.block ?_ | refine zc ?_ | refine zh ?_ | refine za ?_ | refine zt ?_ | refine zy ?_ | refine zx ?_ | refine zm ?_ | refine zi ?_ | refine zf ?_ | refine zn ?_ | refine zk ?_ | refine zl rfl ?_ | refine zv ?_ | refine zw ?_ | refine zj ?_ | refine zp ?_ | refine zo ?_ | refine zd rfl (Yld.add rfl rfl (by simp only [In]; omega)) ?_ | refine zd rfl (zC rfl rfl (by simp only [In]; omega)) ?_ | refine zd rfl (zr qH rfl rfl rfl rfl) ?_ | refine zd rfl (zu qH rfl rfl rfl (by simp only [In]; omega)) ?_ | refine zd rfl (zz rfl rfl (by omega) (by omega) (by simp only [In]; omega)) ?_ | refine zd rfl (zA rfl rfl (by omega) (by omega)) ?_ | refine zd rfl (ze qH rfl) ?_)
 refine z4 (us:=[.bool nb,.slice B lb.length cb]) rfl rfl rfl (fun g2 w2 hB2 hg2 hl2=>?_)
 repeat (first | refine zg ?_ | refine WC.block ?_ | refine zc ?_ | refine zh ?_ | refine za ?_ | refine zt ?_ | refine zy ?_ | refine zx ?_ | refine zm ?_ | refine zi ?_ | refine zf ?_ | refine zn ?_ | refine zk ?_ | refine zl rfl ?_ | refine zv ?_ | refine zw ?_ | refine zj ?_ | refine zp ?_ | refine zo ?_ | refine zd rfl (Yld.add rfl rfl (by simp only [In]; omega)) ?_ | refine zd rfl (zC rfl rfl (by simp only [In]; omega)) ?_ | refine zd rfl (zr qH rfl rfl rfl rfl) ?_ | refine zd rfl (zu qH rfl rfl rfl (by simp only [In]; omega)) ?_ | refine zd rfl (zz rfl rfl (by omega) (by omega) (by simp only [In]; omega)) ?_ | refine zd rfl (zA rfl rfl (by omega) (by omega)) ?_ | refine zd rfl (ze qH rfl) ?_)
 refine WL.alloc rfl qX (fun g4 w3 hB4 hg3 hl4=>?_)
 have h1:=hB1.lt
 have h2:=hB2.lt
 have hz1:=hg1.size
 have hz2:=hg2.size
 have hz3:=hg3.size
 have h4:=hB4.lt
 have hB13:=(hB1.keep hg2 (by simp)).keep hg3 (by simp)
 have hB23:=hB2.keep hg3 (by simp)
 have hg13:=qI (qI hg1 hg2) hg3
 have hA3:=hA.grown hg13
 have hB3:=hB.grown hg13
 repeat (first | refine zd rfl (zH qH hB13 rfl rfl rfl) ?_ | refine zd rfl (zH qH hB23 rfl rfl rfl) ?_ | refine zg ?_ | refine WC.block ?_ | refine zc ?_ | refine zh ?_ | refine za ?_ | refine zt ?_ | refine zy ?_ | refine zx ?_ | refine zm ?_ | refine zi ?_ | refine zf ?_ | refine zn ?_ | refine zk ?_ | refine zl rfl ?_ | refine zv ?_ | refine zw ?_ | refine zj ?_ | refine zp ?_ | refine zo ?_ | refine zd rfl (Yld.add rfl rfl (by simp only [In]; omega)) ?_ | refine zd rfl (zC rfl rfl (by simp only [In]; omega)) ?_ | refine zd rfl (zr qH rfl rfl rfl rfl) ?_ | refine zd rfl (zu qH rfl rfl rfl (by simp only [In]; omega)) ?_ | refine zd rfl (zz rfl rfl (by omega) (by omega) (by simp only [In]; omega)) ?_ | refine zd rfl (zA rfl rfl (by omega) (by omega)) ?_ | refine zd rfl (ze qH rfl) ?_)
 have hM:(la.length:Int)+(lb.length:Int)=((la.length+lb.length:Nat):Int):=by omega
 rw [hM]
 refine WL.makeZ (f:=vd) (z:=0) (B:=w3.heap.size) qH rfl rfl zero171 rfl rfl (by omega) (by omega) (Nat.le_refl _) (fun g w5 hO5 hg5 hl5=>?_)
 have hB15:=hB13.keep hg5 (by simp)
 have hB25:=hB23.keep hg5 (by simp)
 repeat (first | refine zd rfl (zH qH hB15 rfl rfl rfl) ?_ | refine zd rfl (zH qH hB25 rfl rfl rfl) ?_ | refine zg ?_ | refine WC.block ?_ | refine zc ?_ | refine zh ?_ | refine za ?_ | refine zt ?_ | refine zy ?_ | refine zx ?_ | refine zm ?_ | refine zi ?_ | refine zf ?_ | refine zn ?_ | refine zk ?_ | refine zl rfl ?_ | refine zv ?_ | refine zw ?_ | refine zj ?_ | refine zp ?_ | refine zo ?_ | refine zd rfl (Yld.add rfl rfl (by simp only [In]; omega)) ?_ | refine zd rfl (zC rfl rfl (by simp only [In]; omega)) ?_ | refine zd rfl (zr qH rfl rfl rfl rfl) ?_ | refine zd rfl (zu qH rfl rfl rfl (by simp only [In]; omega)) ?_ | refine zd rfl (zz rfl rfl (by omega) (by omega) (by simp only [In]; omega)) ?_ | refine zd rfl (zA rfl rfl (by omega) (by omega)) ?_ | refine zd rfl (ze qH rfl) ?_)
 refine WC.loop2 (S1:=Nat) (S2:=List Nat) (fun i _=>la.length - i)
  (fun i _=>[(23,vi i),(22,.int .i64 (la.length:Int)),(21,.slice A la.length c),(5,.slice (some ⟨g,0,none⟩) (la.length+lb.length) (la.length+lb.length)),(2,.pointer (some ⟨g1,0,none⟩)),(3,.pointer (some ⟨g2,0,none⟩)),(4,.pointer (some ⟨g4,0,none⟩))])
  (fun i o w6=>i<=la.length/\o.length=la.length+lb.length/\Dg o/\val o=val (la.take i)*val lb/\(∀ j,i+lb.length<=j->o.getD j 0=0)/\Own vd w6 w3.heap.size 171 (some ⟨g,0,none⟩) (la.length+lb.length) o/\w3.grownBy w6 none)
  0 (List.replicate (la.length+lb.length) 0) ⟨by omega,by simp,Dg.zeros _,by simp [val_zeros,val],fun j _=>by simp only [List.getD,List.getElem?_replicate]; split <;> simp,hO5,hg5⟩ (by repeat (first | exact zS | refine Sub.cons rfl ?_)) (fun i o w6 ⟨hi,hol,hDo,hv,hz,hO,hg6⟩=>?_)
 have hA6:=hA3.grown hg6
 have hB26:=hB23.keep hg6 (by simp)
 repeat (first | refine zg ?_ | refine WC.block ?_ | refine zc ?_ | refine zh ?_ | refine za ?_ | refine zt ?_ | refine zy ?_ | refine zx ?_ | refine zm ?_ | refine zi ?_ | refine zf ?_ | refine zn ?_ | refine zk ?_ | refine zl rfl ?_ | refine zv ?_ | refine zw ?_ | refine zj ?_ | refine zp ?_ | refine zo ?_ | refine zd rfl (Yld.add rfl rfl (by simp only [In]; omega)) ?_ | refine zd rfl (zC rfl rfl (by simp only [In]; omega)) ?_ | refine zd rfl (zr qH rfl rfl rfl rfl) ?_ | refine zd rfl (zu qH rfl rfl rfl (by simp only [In]; omega)) ?_ | refine zd rfl (zz rfl rfl (by omega) (by omega) (by simp only [In]; omega)) ?_ | refine zd rfl (zA rfl rfl (by omega) (by omega)) ?_ | refine zd rfl (ze qH rfl) ?_)
 refine zE rfl (fun h=>?_) (fun h=>?_)
 ·simp only [decide_eq_true_eq] at h
  have hxi:=hDa i
  repeat (first | refine zd rfl (zH qH hB26 rfl rfl rfl) ?_ | refine zd rfl (qr qH hA6 rfl rfl rfl rfl (by omega)) ?_ | refine zd rfl (zQ 0 qH hA6 rfl rfl (by omega)) ?_ | refine zg ?_ | refine WC.block ?_ | refine zc ?_ | refine zh ?_ | refine za ?_ | refine zt ?_ | refine zy ?_ | refine zx ?_ | refine zm ?_ | refine zi ?_ | refine zf ?_ | refine zn ?_ | refine zk ?_ | refine zl rfl ?_ | refine zv ?_ | refine zw ?_ | refine zj ?_ | refine zp ?_ | refine zo ?_ | refine zd rfl (Yld.add rfl rfl (by simp only [In]; omega)) ?_ | refine zd rfl (zC rfl rfl (by simp only [In]; omega)) ?_ | refine zd rfl (zr qH rfl rfl rfl rfl) ?_ | refine zd rfl (zu qH rfl rfl rfl (by simp only [In]; omega)) ?_ | refine zd rfl (zz rfl rfl (by omega) (by omega) (by simp only [In]; omega)) ?_ | refine zd rfl (zA rfl rfl (by omega) (by omega)) ?_ | refine zd rfl (ze qH rfl) ?_)
  have hti:=j4 la i
  generalize la.getD i 0=x at *
  refine WC.loop3 (S1:=Nat) (S2:=List Nat) (S3:=Nat) (fun k _ _=>lb.length - k)
   (fun k _ cr=>[(31,vi k),(30,.int .i64 (lb.length:Int)),(29,.slice B lb.length cb),(6,vi i),(7,vd x),(8,.int .u64 (cr:Int)),(23,vi i),(22,.int .i64 (la.length:Int)),(21,.slice A la.length c),(5,.slice (some ⟨g,0,none⟩) (la.length+lb.length) (la.length+lb.length)),(2,.pointer (some ⟨g1,0,none⟩)),(3,.pointer (some ⟨g2,0,none⟩)),(4,.pointer (some ⟨g4,0,none⟩))])
   (fun k o' cr w7=>k<=lb.length/\o'.length=la.length+lb.length/\Dg o'/\cr<1000000000/\val o'+cr*1000000000 ^ (i+k)=val o+x*val (lb.take k)*1000000000 ^ i/\(∀ j,i+k<=j->o'.getD j 0=o.getD j 0)/\Own vd w7 w3.heap.size 171 (some ⟨g,0,none⟩) (la.length+lb.length) o'/\w3.grownBy w7 none)
   0 o 0 ⟨by omega,hol,hDo,by omega,by simp [val],fun _ _=>rfl,hO,hg6⟩ (by repeat (first | exact zS | refine Sub.cons rfl ?_)) (fun k o' cr w7 ⟨hk,hol',hDo',hcr,hv',hz',hO',hg7⟩=>?_)
  have hB7:=hB3.grown hg7
  have hB27:=hB23.keep hg7 (by simp)
  repeat (first | refine zg ?_ | refine WC.block ?_ | refine zc ?_ | refine zh ?_ | refine za ?_ | refine zt ?_ | refine zy ?_ | refine zx ?_ | refine zm ?_ | refine zi ?_ | refine zf ?_ | refine zn ?_ | refine zk ?_ | refine zl rfl ?_ | refine zv ?_ | refine zw ?_ | refine zj ?_ | refine zp ?_ | refine zo ?_ | refine zd rfl (Yld.add rfl rfl (by simp only [In]; omega)) ?_ | refine zd rfl (zC rfl rfl (by simp only [In]; omega)) ?_ | refine zd rfl (zr qH rfl rfl rfl rfl) ?_ | refine zd rfl (zu qH rfl rfl rfl (by simp only [In]; omega)) ?_ | refine zd rfl (zz rfl rfl (by omega) (by omega) (by simp only [In]; omega)) ?_ | refine zd rfl (zA rfl rfl (by omega) (by omega)) ?_ | refine zd rfl (ze qH rfl) ?_)
  refine zE rfl (fun h'=>?_) (fun h'=>?_)
  ·simp only [decide_eq_true_eq] at h'
   have hyk:=hDb k
   have hoik:=hDo' (i+k)
   have hik:((i:Int)+(k:Int)).toNat=i+k:=by omega
   have hoik2:=hDo' ((i:Int)+(k:Int)).toNat
   have htk:=j4 lb k
   have hs2:=val_set o' (i+k)
   repeat (first | refine zd rfl (qr qH hB7 rfl rfl rfl rfl (by omega)) ?_ | refine zd rfl (zQ 0 qH hB7 rfl rfl (by omega)) ?_ | refine zg ?_ | refine WC.block ?_ | refine zc ?_ | refine zh ?_ | refine za ?_ | refine zt ?_ | refine zy ?_ | refine zx ?_ | refine zm ?_ | refine zi ?_ | refine zf ?_ | refine zn ?_ | refine zk ?_ | refine zl rfl ?_ | refine zv ?_ | refine zw ?_ | refine zj ?_ | refine zp ?_ | refine zo ?_ | refine zd rfl (Yld.add rfl rfl (by simp only [In]; omega)) ?_ | refine zd rfl (zC rfl rfl (by simp only [In]; omega)) ?_ | refine zd rfl (zr qH rfl rfl rfl rfl) ?_ | refine zd rfl (zu qH rfl rfl rfl (by simp only [In]; omega)) ?_ | refine zd rfl (zz rfl rfl (by omega) (by omega) (by simp only [In]; omega)) ?_ | refine zd rfl (zA rfl rfl (by omega) (by omega)) ?_ | refine zd rfl (ze qH rfl) ?_)
   generalize lb.getD k 0=y at *
   have hlook:x*y<=999999999*999999999:=Nat.mul_le_mul (by omega) (by omega)
   have hxy1:(x:Int)*(y:Int)<=999999999*999999999:=by rw [<-Int.natCast_mul]; omega
   have hxy0:(0:Int)<=(x:Int)*(y:Int):=by rw [<-Int.natCast_mul]; omega
   repeat (first | refine zd rfl (qm qH hO'.rd rfl rfl hol'.symm rfl (by omega) (by omega)) ?_ | refine zd rfl (zQ 0 qH hO'.rd rfl rfl (by omega)) ?_ | refine zg ?_ | refine WC.block ?_ | refine zc ?_ | refine zh ?_ | refine za ?_ | refine zt ?_ | refine zy ?_ | refine zx ?_ | refine zm ?_ | refine zi ?_ | refine zf ?_ | refine zn ?_ | refine zk ?_ | refine zl rfl ?_ | refine zv ?_ | refine zw ?_ | refine zj ?_ | refine zp ?_ | refine zo ?_ | refine zd rfl (Yld.add rfl rfl (by simp only [In]; omega)) ?_ | refine zd rfl (zC rfl rfl (by simp only [In]; omega)) ?_ | refine zd rfl (zr qH rfl rfl rfl rfl) ?_ | refine zd rfl (zu qH rfl rfl rfl (by simp only [In]; omega)) ?_ | refine zd rfl (zz rfl rfl (by omega) (by omega) (by simp only [In]; omega)) ?_ | refine zd rfl (zA rfl rfl (by omega) (by omega)) ?_ | refine zd rfl (ze qH rfl) ?_)
   rw [hik]
   have hd:((o'.getD (i+k) 0:Int)+(x:Int)*(y:Int)+(cr:Int)) % 1000000000=(((o'.getD (i+k) 0+x*y+cr) % 1000000000:Nat):Int):=by rw [<-Int.natCast_mul]; omega
   have hq:((o'.getD (i+k) 0:Int)+(x:Int)*(y:Int)+(cr:Int)) / 1000000000=(((o'.getD (i+k) 0+x*y+cr) / 1000000000:Nat):Int):=by rw [<-Int.natCast_mul]; omega
   rw [hd]
   refine WL.ostore (v:=(o'.getD (i+k) 0+x*y+cr) % 1000000000) one171 One.d hO' rfl rfl (by omega) (fun w8 hO8 hg8=>?_)
   repeat (first | refine zg ?_ | refine WC.block ?_ | refine zc ?_ | refine zh ?_ | refine za ?_ | refine zt ?_ | refine zy ?_ | refine zx ?_ | refine zm ?_ | refine zi ?_ | refine zf ?_ | refine zn ?_ | refine zk ?_ | refine zl rfl ?_ | refine zv ?_ | refine zw ?_ | refine zj ?_ | refine zp ?_ | refine zo ?_ | refine zd rfl (Yld.add rfl rfl (by simp only [In]; omega)) ?_ | refine zd rfl (zC rfl rfl (by simp only [In]; omega)) ?_ | refine zd rfl (zr qH rfl rfl rfl rfl) ?_ | refine zd rfl (zu qH rfl rfl rfl (by simp only [In]; omega)) ?_ | refine zd rfl (zz rfl rfl (by omega) (by omega) (by simp only [In]; omega)) ?_ | refine zd rfl (zA rfl rfl (by omega) (by omega)) ?_ | refine zd rfl (ze qH rfl) ?_)
   rw [hq]
   have hsum:o'.getD (i+k) 0+x*y+cr<=999999999+999999999*999999999+999999999:=by omega
   refine WX.round3 (k+1) (o'.set (i+k) ((o'.getD (i+k) 0+x*y+cr) % 1000000000)) ((o'.getD (i+k) 0+x*y+cr) / 1000000000) ⟨by omega,by simp [hol'],hDo'.set _ (by omega),by omega,?_,fun j hj=>?_,hO8,gr_own hg7 hO' hg8 (Nat.le_refl _)⟩ (by omega) (by repeat (first | exact zS | refine Sub.cons rfl ?_))
   ·have hs3:=hs2 ((o'.getD (i+k) 0+x*y+cr) % 1000000000) (by omega)
    rw [htk,show i+(k+1)=i+k+1 by omega,Nat.pow_succ]
    have:=mul_step _ (o'.getD (i+k) 0) (1000000000 ^ (i+k)) x y cr ((o'.getD (i+k) 0+x*y+cr) / 1000000000) _ _ _ (by omega) hs3 hv'
    rw [this,Nat.pow_add]
    grind
   ·rw [getD_setN_ne _ _ _ _ (by omega)]
    exact hz' j (by omega)
  ·simp only [decide_eq_false_iff_not] at h'
   obtain rfl:k=lb.length:=by omega
   rw [List.take_of_length_le (Nat.le_refl _)] at hv'
   have hik:((i:Int)+(lb.length:Int)).toNat=i+lb.length:=by omega
   have hs2:=val_set o' (i+lb.length) cr (by omega)
   rw [hz' (i+lb.length) (by omega),hz (i+lb.length) (by omega)] at hs2
   repeat (first | refine zd rfl (zH qH hB27 rfl rfl rfl) ?_ | refine zd rfl (qm qH hO'.rd rfl rfl hol'.symm rfl (by omega) (by omega)) ?_ | refine zg ?_ | refine WC.block ?_ | refine zc ?_ | refine zh ?_ | refine za ?_ | refine zt ?_ | refine zy ?_ | refine zx ?_ | refine zm ?_ | refine zi ?_ | refine zf ?_ | refine zn ?_ | refine zk ?_ | refine zl rfl ?_ | refine zv ?_ | refine zw ?_ | refine zj ?_ | refine zp ?_ | refine zo ?_ | refine zd rfl (Yld.add rfl rfl (by simp only [In]; omega)) ?_ | refine zd rfl (zC rfl rfl (by simp only [In]; omega)) ?_ | refine zd rfl (zr qH rfl rfl rfl rfl) ?_ | refine zd rfl (zu qH rfl rfl rfl (by simp only [In]; omega)) ?_ | refine zd rfl (zz rfl rfl (by omega) (by omega) (by simp only [In]; omega)) ?_ | refine zd rfl (zA rfl rfl (by omega) (by omega)) ?_ | refine zd rfl (ze qH rfl) ?_)
   rw [hik]
   refine WL.ostore (v:=cr) one171 One.d hO' rfl rfl (by omega) (fun w8 hO8 hg8=>?_)
   repeat (first | refine zg ?_ | refine WC.block ?_ | refine zc ?_ | refine zh ?_ | refine za ?_ | refine zt ?_ | refine zy ?_ | refine zx ?_ | refine zm ?_ | refine zi ?_ | refine zf ?_ | refine zn ?_ | refine zk ?_ | refine zl rfl ?_ | refine zv ?_ | refine zw ?_ | refine zj ?_ | refine zp ?_ | refine zo ?_ | refine zd rfl (Yld.add rfl rfl (by simp only [In]; omega)) ?_ | refine zd rfl (zC rfl rfl (by simp only [In]; omega)) ?_ | refine zd rfl (zr qH rfl rfl rfl rfl) ?_ | refine zd rfl (zu qH rfl rfl rfl (by simp only [In]; omega)) ?_ | refine zd rfl (zz rfl rfl (by omega) (by omega) (by simp only [In]; omega)) ?_ | refine zd rfl (zA rfl rfl (by omega) (by omega)) ?_ | refine zd rfl (ze qH rfl) ?_)
   refine WX.round2 (i+1) (o'.set (i+lb.length) cr) ⟨by omega,by simp [hol'],hDo'.set _ hcr,?_,fun j hj=>?_,hO8,gr_own hg7 hO' hg8 (Nat.le_refl _)⟩ (by omega) (by repeat (first | exact zS | refine Sub.cons rfl ?_))
   ·rw [hti]
    grind
   ·rw [getD_setN_ne _ _ _ _ (by omega),hz' j (by omega)]
    exact hz j (by omega)
 ·simp only [decide_eq_false_iff_not] at h
  obtain rfl:i=la.length:=by omega
  rw [List.take_of_length_le (Nat.le_refl _)] at hv
  have hB16:=hB13.keep hg6 (by simp)
  have hB46:=hB4.keep hg6 (by simp)
  have hbt:=Tryz.underlying4
  repeat (first | refine zd rfl (zH qH hB16 rfl rfl rfl) ?_ | refine zd rfl (zH qH hB26 rfl rfl rfl) ?_ | refine zd rfl (qf hbt rfl rfl) ?_ | refine zg ?_ | refine WC.block ?_ | refine zc ?_ | refine zh ?_ | refine za ?_ | refine zt ?_ | refine zy ?_ | refine zx ?_ | refine zm ?_ | refine zi ?_ | refine zf ?_ | refine zn ?_ | refine zk ?_ | refine zl rfl ?_ | refine zv ?_ | refine zw ?_ | refine zj ?_ | refine zp ?_ | refine zo ?_ | refine zd rfl (Yld.add rfl rfl (by simp only [In]; omega)) ?_ | refine zd rfl (zC rfl rfl (by simp only [In]; omega)) ?_ | refine zd rfl (zr qH rfl rfl rfl rfl) ?_ | refine zd rfl (zu qH rfl rfl rfl (by simp only [In]; omega)) ?_ | refine zd rfl (zz rfl rfl (by omega) (by omega) (by simp only [In]; omega)) ?_ | refine zd rfl (zA rfl rfl (by omega) (by omega)) ?_ | refine zd rfl (ze qH rfl) ?_)
  have hMl:=js (na != nb) (some ⟨g,0,none⟩) (la.length+lb.length) o w6 hO.rd hDo (by omega)
  rw [hol] at hMl
  refine zK rfl rfl hMl ?_
  rintro r w8 ⟨hN,hg8⟩
  have hB48:=hB46.keep hg8 (by simp)
  obtain ⟨a,b,rfl,ha,hb⟩:=hN.agg
  refine zT (vs:=[a,b]) qH rfl rfl rfl (by intro u hu; simp at hu; rcases hu with rfl | rfl <;> assumption) hB48 rfl rfl (fun w9 hB9 hg9=>?_)
  repeat (first | refine zg ?_ | refine WC.block ?_ | refine zc ?_ | refine zh ?_ | refine za ?_ | refine zt ?_ | refine zy ?_ | refine zx ?_ | refine zm ?_ | refine zi ?_ | refine zf ?_ | refine zn ?_ | refine zk ?_ | refine zl rfl ?_ | refine zv ?_ | refine zw ?_ | refine zj ?_ | refine zp ?_ | refine zo ?_ | refine zd rfl (Yld.add rfl rfl (by simp only [In]; omega)) ?_ | refine zd rfl (zC rfl rfl (by simp only [In]; omega)) ?_ | refine zd rfl (zr qH rfl rfl rfl rfl) ?_ | refine zd rfl (zu qH rfl rfl rfl (by simp only [In]; omega)) ?_ | refine zd rfl (zz rfl rfl (by omega) (by omega) (by simp only [In]; omega)) ?_ | refine zd rfl (zA rfl rfl (by omega) (by omega)) ?_ | refine zd rfl (ze qH rfl) ?_)
  rw [hv] at hN
  exact qc qH rfl rfl rfl hB9 rfl ⟨hN.stored hB48 jk hg9,jp (qI (qI hg13 hg6) hg8) hg9 (by omega)⟩
end
 section
open Go Go.RowKit
attribute [local irreducible] WL WC WX WQ WK Yld Eff Ef0 Fn
theorem Nm.nat {w:World} {v:Value} {n m:Nat} (h:Nm w v (n:Int) m):∃ A c l,v=.agg ⟨[.bool false,.slice A l.length c]⟩/\Rd vd w A c l/\Dg l/\Can l/\l.length<=m/\val l=n:=by
 obtain ⟨neg,A,c,l,rfl,hR,hD,hC,hl,hn,hz⟩:=h
 cases neg with
 | false=>exact ⟨A,c,l,rfl,hR,hD,hC,hl,by simp only [cond_false] at hz; omega⟩
 | true =>
  have:=val_pos hC (hn rfl)
  simp only [cond_true] at hz
  omega
theorem mul_nm (va vb_:Value) (x y:Int) (m:Nat) (w:World) (ha:Nm w va x m) (hb:Nm w vb_ y m) (hm:m<=400000):Fn Tryz.prog 189 ⟨[va,vb_]⟩ w fun r w'=>Nm w' r (x*y) (m+m)/\w.grownBy w' none:=by
 obtain ⟨na,A,c,la,rfl,hA,hDa,hCa,hla,hna,rfl⟩:=ha
 obtain ⟨nb,B,cb,lb,rfl,hB,hDb,hCb,hlb,hnb,rfl⟩:=hb
 refine (mul_fn na nb A c la B cb lb w hA hB hDa hDb (by omega) (by omega)).mono fun r w' ⟨h1,h2⟩=>⟨?_,h2⟩
 have e:(bif na != nb then -((val la*val lb:Nat):Int) else ((val la*val lb:Nat):Int))=(bif na then -(val la:Int) else (val la:Int))*(bif nb then -(val lb:Int) else (val lb:Int)):=by
  cases na <;> cases nb <;> simp [Int.natCast_mul,Int.neg_mul,Int.mul_neg]
 rw [e] at h1
 exact h1.mono (by omega)
theorem val_len_le {la lb:List Nat} (hDb:Dg lb) (hCa:Can la) (h:val la<=val lb):la.length<=lb.length:=by
 rcases Nat.lt_or_ge lb.length la.length with h5 | h5
 ·have:=val_lt_len hDb hCa h5; omega
 ·exact h5
theorem times_fn (A:Option Addr) (c:Nat) (la:List Nat) (n:Nat) (w:World) (hA:Rd vd w A c la) (hDa:Dg la) (hn:n<1000000000) (hla:la.length<=300000) :
  Fn Tryz.prog 212 ⟨[.slice A la.length c,vd n]⟩ w fun v w'=>∃ A' c' l,v=.slice A' l.length c'/\Rd vd w' A' c' l/\Dg l/\Can l/\l.length<=la.length+1/\val l=val la*n/\w.grownBy w' none:=by
 refine Fn.enter (by kernel_rfl) Tryz.func212 rfl Tryz.ntmps212 rfl ?_
 repeat (first | refine zg ?_ | refine WC.block ?_ | refine zc ?_ | refine zh ?_ | refine za ?_ | refine zt ?_ | refine zy ?_ | refine zx ?_ | refine zm ?_ | refine zi ?_ | refine zf ?_ | refine zn ?_ | refine zk ?_ | refine zl rfl ?_ | refine zv ?_ | refine zw ?_ | refine zj ?_ | refine zp ?_ | refine zo ?_ | refine zd rfl (Yld.add rfl rfl (by simp only [In]; omega)) ?_ | refine zd rfl (Yld.sub rfl rfl (by simp only [In]; omega)) ?_ | refine zd rfl (zC rfl rfl (by simp only [In]; omega)) ?_ | refine zd rfl (zr qH rfl rfl rfl rfl) ?_ | refine zd rfl (zu qH rfl rfl rfl (by simp only [In]; omega)) ?_ | refine zd rfl (zz rfl rfl (by omega) (by omega) (by simp only [In]; omega)) ?_ | refine zd rfl (zA rfl rfl (by omega) (by omega)) ?_ | refine zd rfl (zI rfl rfl (by omega)) ?_ | refine zd rfl (zG rfl rfl (by omega)) ?_ | refine zd rfl (ze qH rfl) ?_ | refine zd rfl (zF qJ rfl rfl rfl) ?_ | refine zd rfl (zD rfl rfl) ?_ | refine zd rfl (zB rfl rfl) ?_ | refine zd rfl (zq rfl rfl rfl) ?_ | refine zJ rfl rfl rfl rfl ?_ | refine zb rfl rfl rfl rfl (Yld.add rfl rfl (by simp only [In]; omega)) ?_ | refine zb rfl rfl rfl rfl (Yld.sub rfl rfl (by simp only [In]; omega)) ?_ | refine zb rfl rfl rfl rfl (zC rfl rfl (by simp only [In]; omega)) ?_ | refine zb rfl rfl rfl rfl (zr qH rfl rfl rfl rfl) ?_ | refine zb rfl rfl rfl rfl (zu qH rfl rfl rfl (by simp only [In]; omega)) ?_ | refine zb rfl rfl rfl rfl (zz rfl rfl (by omega) (by omega) (by simp only [In]; omega)) ?_ | refine zb rfl rfl rfl rfl (zA rfl rfl (by omega) (by omega)) ?_ | refine zb rfl rfl rfl rfl (zI rfl rfl (by omega)) ?_ | refine zb rfl rfl rfl rfl (zG rfl rfl (by omega)) ?_ | refine zb rfl rfl rfl rfl (ze qH rfl) ?_ | refine zb rfl rfl rfl rfl (zF qJ rfl rfl rfl) ?_ | refine zb rfl rfl rfl rfl (zD rfl rfl) ?_ | refine zb rfl rfl rfl rfl (zB rfl rfl) ?_ | refine zb rfl rfl rfl rfl (zq rfl rfl rfl) ?_)
 refine zd rfl (z3 (us:=[.bool false,.slice A la.length c]) qX places75 rfl rfl) ?_
 repeat (first | refine zg ?_ | refine WC.block ?_ | refine zc ?_ | refine zh ?_ | refine za ?_ | refine zt ?_ | refine zy ?_ | refine zx ?_ | refine zm ?_ | refine zi ?_ | refine zf ?_ | refine zn ?_ | refine zk ?_ | refine zl rfl ?_ | refine zv ?_ | refine zw ?_ | refine zj ?_ | refine zp ?_ | refine zo ?_ | refine zd rfl (Yld.add rfl rfl (by simp only [In]; omega)) ?_ | refine zd rfl (Yld.sub rfl rfl (by simp only [In]; omega)) ?_ | refine zd rfl (zC rfl rfl (by simp only [In]; omega)) ?_ | refine zd rfl (zr qH rfl rfl rfl rfl) ?_ | refine zd rfl (zu qH rfl rfl rfl (by simp only [In]; omega)) ?_ | refine zd rfl (zz rfl rfl (by omega) (by omega) (by simp only [In]; omega)) ?_ | refine zd rfl (zA rfl rfl (by omega) (by omega)) ?_ | refine zd rfl (zI rfl rfl (by omega)) ?_ | refine zd rfl (zG rfl rfl (by omega)) ?_ | refine zd rfl (ze qH rfl) ?_ | refine zd rfl (zF qJ rfl rfl rfl) ?_ | refine zd rfl (zD rfl rfl) ?_ | refine zd rfl (zB rfl rfl) ?_ | refine zd rfl (zq rfl rfl rfl) ?_ | refine zJ rfl rfl rfl rfl ?_ | refine zb rfl rfl rfl rfl (Yld.add rfl rfl (by simp only [In]; omega)) ?_ | refine zb rfl rfl rfl rfl (Yld.sub rfl rfl (by simp only [In]; omega)) ?_ | refine zb rfl rfl rfl rfl (zC rfl rfl (by simp only [In]; omega)) ?_ | refine zb rfl rfl rfl rfl (zr qH rfl rfl rfl rfl) ?_ | refine zb rfl rfl rfl rfl (zu qH rfl rfl rfl (by simp only [In]; omega)) ?_ | refine zb rfl rfl rfl rfl (zz rfl rfl (by omega) (by omega) (by simp only [In]; omega)) ?_ | refine zb rfl rfl rfl rfl (zA rfl rfl (by omega) (by omega)) ?_ | refine zb rfl rfl rfl rfl (zI rfl rfl (by omega)) ?_ | refine zb rfl rfl rfl rfl (zG rfl rfl (by omega)) ?_ | refine zb rfl rfl rfl rfl (ze qH rfl) ?_ | refine zb rfl rfl rfl rfl (zF qJ rfl rfl rfl) ?_ | refine zb rfl rfl rfl rfl (zD rfl rfl) ?_ | refine zb rfl rfl rfl rfl (zB rfl rfl) ?_ | refine zb rfl rfl rfl rfl (zq rfl rfl rfl) ?_)
 refine qg (us:=[vd n]) qH rfl rfl rfl (by intro u hu; rw [List.mem_singleton] at hu; rw [hu]; rfl) rfl (by omega) (fun g w1 hL1 hg1 hl1=>?_)
 have hR1:Rd vd w1 (some ⟨g,0,none⟩) 1 [n]:=qE hL1 (by simp) (by simp [maxLen])
 refine zd rfl (z3 (us:=[.bool false,.slice (some ⟨g,0,none⟩) 1 1]) qX places75 rfl rfl) ?_
 have hDn:Dg [n]:=Dg.nil.push hn
 refine zK rfl rfl (mul_fn false false A c la (some ⟨g,0,none⟩) 1 [n] w1 (hA.grown hg1) hR1 hDa hDn (by omega) (by simp)) ?_
 rintro r w2 ⟨hN,hg2⟩
 obtain ⟨A2,c2,l2,rfl,hR2,hD2,hC2,hl2,hv2⟩:=Nm.nat hN
 repeat (first | refine zg ?_ | refine WC.block ?_ | refine zc ?_ | refine zh ?_ | refine za ?_ | refine zt ?_ | refine zy ?_ | refine zx ?_ | refine zm ?_ | refine zi ?_ | refine zf ?_ | refine zn ?_ | refine zk ?_ | refine zl rfl ?_ | refine zv ?_ | refine zw ?_ | refine zj ?_ | refine zp ?_ | refine zo ?_ | refine zd rfl (Yld.add rfl rfl (by simp only [In]; omega)) ?_ | refine zd rfl (Yld.sub rfl rfl (by simp only [In]; omega)) ?_ | refine zd rfl (zC rfl rfl (by simp only [In]; omega)) ?_ | refine zd rfl (zr qH rfl rfl rfl rfl) ?_ | refine zd rfl (zu qH rfl rfl rfl (by simp only [In]; omega)) ?_ | refine zd rfl (zz rfl rfl (by omega) (by omega) (by simp only [In]; omega)) ?_ | refine zd rfl (zA rfl rfl (by omega) (by omega)) ?_ | refine zd rfl (zI rfl rfl (by omega)) ?_ | refine zd rfl (zG rfl rfl (by omega)) ?_ | refine zd rfl (ze qH rfl) ?_ | refine zd rfl (zF qJ rfl rfl rfl) ?_ | refine zd rfl (zD rfl rfl) ?_ | refine zd rfl (zB rfl rfl) ?_ | refine zd rfl (zq rfl rfl rfl) ?_ | refine zJ rfl rfl rfl rfl ?_ | refine zb rfl rfl rfl rfl (Yld.add rfl rfl (by simp only [In]; omega)) ?_ | refine zb rfl rfl rfl rfl (Yld.sub rfl rfl (by simp only [In]; omega)) ?_ | refine zb rfl rfl rfl rfl (zC rfl rfl (by simp only [In]; omega)) ?_ | refine zb rfl rfl rfl rfl (zr qH rfl rfl rfl rfl) ?_ | refine zb rfl rfl rfl rfl (zu qH rfl rfl rfl (by simp only [In]; omega)) ?_ | refine zb rfl rfl rfl rfl (zz rfl rfl (by omega) (by omega) (by simp only [In]; omega)) ?_ | refine zb rfl rfl rfl rfl (zA rfl rfl (by omega) (by omega)) ?_ | refine zb rfl rfl rfl rfl (zI rfl rfl (by omega)) ?_ | refine zb rfl rfl rfl rfl (zG rfl rfl (by omega)) ?_ | refine zb rfl rfl rfl rfl (ze qH rfl) ?_ | refine zb rfl rfl rfl rfl (zF qJ rfl rfl rfl) ?_ | refine zb rfl rfl rfl rfl (zD rfl rfl) ?_ | refine zb rfl rfl rfl rfl (zB rfl rfl) ?_ | refine zb rfl rfl rfl rfl (zq rfl rfl rfl) ?_)
 refine zK rfl rfl (js false A2 c2 l2 w2 hR2 hD2 (by simp at hl2; omega)) ?_
 rintro r w3 ⟨hN3,hg3⟩
 obtain ⟨A3,c3,l3,rfl,hR3,hD3,hC3,hl3,hv3⟩:=Nm.nat hN3
 repeat (first | refine zg ?_ | refine WC.block ?_ | refine zc ?_ | refine zh ?_ | refine za ?_ | refine zt ?_ | refine zy ?_ | refine zx ?_ | refine zm ?_ | refine zi ?_ | refine zf ?_ | refine zn ?_ | refine zk ?_ | refine zl rfl ?_ | refine zv ?_ | refine zw ?_ | refine zj ?_ | refine zp ?_ | refine zo ?_ | refine zd rfl (Yld.add rfl rfl (by simp only [In]; omega)) ?_ | refine zd rfl (Yld.sub rfl rfl (by simp only [In]; omega)) ?_ | refine zd rfl (zC rfl rfl (by simp only [In]; omega)) ?_ | refine zd rfl (zr qH rfl rfl rfl rfl) ?_ | refine zd rfl (zu qH rfl rfl rfl (by simp only [In]; omega)) ?_ | refine zd rfl (zz rfl rfl (by omega) (by omega) (by simp only [In]; omega)) ?_ | refine zd rfl (zA rfl rfl (by omega) (by omega)) ?_ | refine zd rfl (zI rfl rfl (by omega)) ?_ | refine zd rfl (zG rfl rfl (by omega)) ?_ | refine zd rfl (ze qH rfl) ?_ | refine zd rfl (zF qJ rfl rfl rfl) ?_ | refine zd rfl (zD rfl rfl) ?_ | refine zd rfl (zB rfl rfl) ?_ | refine zd rfl (zq rfl rfl rfl) ?_ | refine zJ rfl rfl rfl rfl ?_ | refine zb rfl rfl rfl rfl (Yld.add rfl rfl (by simp only [In]; omega)) ?_ | refine zb rfl rfl rfl rfl (Yld.sub rfl rfl (by simp only [In]; omega)) ?_ | refine zb rfl rfl rfl rfl (zC rfl rfl (by simp only [In]; omega)) ?_ | refine zb rfl rfl rfl rfl (zr qH rfl rfl rfl rfl) ?_ | refine zb rfl rfl rfl rfl (zu qH rfl rfl rfl (by simp only [In]; omega)) ?_ | refine zb rfl rfl rfl rfl (zz rfl rfl (by omega) (by omega) (by simp only [In]; omega)) ?_ | refine zb rfl rfl rfl rfl (zA rfl rfl (by omega) (by omega)) ?_ | refine zb rfl rfl rfl rfl (zI rfl rfl (by omega)) ?_ | refine zb rfl rfl rfl rfl (zG rfl rfl (by omega)) ?_ | refine zb rfl rfl rfl rfl (ze qH rfl) ?_ | refine zb rfl rfl rfl rfl (zF qJ rfl rfl rfl) ?_ | refine zb rfl rfl rfl rfl (zD rfl rfl) ?_ | refine zb rfl rfl rfl rfl (zB rfl rfl) ?_ | refine zb rfl rfl rfl rfl (zq rfl rfl rfl) ?_)
 refine zM rfl rfl ⟨A3,c3,l3,rfl,hR3,hD3,hC3,by simp at hl2; omega,by rw [hv3,hv2]; simp [val],qI (qI hg1 hg2) hg3⟩
end
 section
open Go Go.RowKit
attribute [local irreducible] WL WC WX WQ WK Yld Eff Ef0 Fn
theorem drop_cons (l:List Nat) (i:Nat) (h:i<l.length):l.drop i=l.getD i 0 :: l.drop (i+1):=by
 rw [List.drop_eq_getElem_cons h]; simp [List.getD,h]
theorem drop_set_self (l:List Nat) (i d:Nat) (h:i<l.length):(l.set i d).drop i=d :: l.drop (i+1):=by
 rw [drop_cons _ _ (by simpa using h),getD_setN_eq l i d h]
 congr 1
 apply List.ext_getElem?
 intro j
 simp only [List.getElem?_drop]
 rw [List.getElem?_set_ne (by omega)]
theorem Dg.cons {l:List Nat} (h:Dg l) {d:Nat} (hd:d<1000000000):Dg (d :: l):=fun i=>by
 cases i with
 | zero=>simpa using hd
 | succ i=>simpa using h i
theorem div_step (a q vb r r1 low s:Nat) (hs:s=q*vb+r) (h1:r1=a+1000000000*r) (h2:vb*low<=r1):a+1000000000*s=(low+1000000000*q)*vb+(r1 - vb*low):=by
 subst hs h1
 have:a+1000000000*(q*vb+r)=(1000000000*q)*vb+(a+1000000000*r):=by grind
 rw [this,Nat.add_mul]
 have:low*vb=vb*low:=Nat.mul_comm _ _
 omega
set_option maxHeartbeats 4000000 in
theorem divide_fn (A:Option Addr) (c:Nat) (la:List Nat) (B:Option Addr) (cb:Nat) (lb:List Nat) (w:World) (hA:Rd vd w A c la) (hB:Rd vd w B cb lb) (hDa:Dg la) (hDb:Dg lb) (hCb:Can lb) (hb0:lb≠[]) (hla:la.length<=100000) (hlb:lb.length<=100000) :
  Fn Tryz.prog 193 ⟨[.slice A la.length c,.slice B lb.length cb]⟩ w fun v w'=>∃ Q cq q R cr r,v=.tuple #[.slice Q q.length cq,.slice R r.length cr]/\Rd vd w' Q cq q/\Rd vd w' R cr r/\Dg q/\Dg r/\Can r/\q.length=la.length/\val la=val q*val lb+val r/\val r<val lb/\w.grownBy w' none:=by
 have hvb:=val_pos hCb hb0
 refine Fn.enter (by kernel_rfl) Tryz.func193 rfl Tryz.ntmps193 rfl ?_
 repeat (first | refine zg ?_ | refine WC.block ?_ | refine zc ?_ | refine zh ?_ | refine za ?_ | refine zt ?_ | refine zy ?_ | refine zx ?_ | refine zm ?_ | refine zi ?_ | refine zf ?_ | refine zn ?_ | refine zk ?_ | refine zl rfl ?_ | refine zv ?_ | refine zw ?_ | refine zj ?_ | refine zp ?_ | refine zo ?_ | refine zd rfl (Yld.add rfl rfl (by simp only [In]; omega)) ?_ | refine zd rfl (Yld.sub rfl rfl (by simp only [In]; omega)) ?_ | refine zd rfl (zz rfl rfl (by omega) (by omega) (by simp only [In]; omega)) ?_ | refine zd rfl (ze qH rfl) ?_ | refine zd rfl (zF qJ rfl rfl rfl) ?_)
 refine WL.makeZ (f:=vd) (z:=0) (B:=w.heap.size) qH rfl rfl zero171 rfl rfl (by omega) (by omega) (Nat.le_refl _) (fun g w1 hO1 hg1 hl1=>?_)
 repeat (first | refine zg ?_ | refine WC.block ?_ | refine zc ?_ | refine zh ?_ | refine za ?_ | refine zt ?_ | refine zy ?_ | refine zx ?_ | refine zm ?_ | refine zi ?_ | refine zf ?_ | refine zn ?_ | refine zk ?_ | refine zl rfl ?_ | refine zv ?_ | refine zw ?_ | refine zj ?_ | refine zp ?_ | refine zo ?_ | refine zd rfl (Yld.add rfl rfl (by simp only [In]; omega)) ?_ | refine zd rfl (Yld.sub rfl rfl (by simp only [In]; omega)) ?_ | refine zd rfl (zz rfl rfl (by omega) (by omega) (by simp only [In]; omega)) ?_ | refine zd rfl (ze qH rfl) ?_ | refine zd rfl (zF qJ rfl rfl rfl) ?_)
 refine WC.loop5 (S1:=Nat) (S2:=List Nat) (S3:=Option Addr) (S4:=Nat) (S5:=List Nat) (fun j _ _ _ _=>j)
  (fun j _ R cr r=>[(8,.int .i64 ((j:Int) - 1)),(7,.slice R r.length cr),(6,.slice (some ⟨g,0,none⟩) la.length la.length),(0,.slice A la.length c),(1,.slice B lb.length cb)])
  (fun j q R cr r w2=>j<=la.length/\q.length=la.length/\Dg q/\Rd vd w2 R cr r/\Dg r/\Can r/\val r<val lb/\val (la.drop j)=val (q.drop j)*val lb+val r/\Own vd w2 w.heap.size 171 (some ⟨g,0,none⟩) la.length q/\w.grownBy w2 none)
  la.length (List.replicate la.length 0) none 0 [] ⟨by omega,by simp,Dg.zeros _,Rd.nil _ _ (by simp [maxLen]),Dg.nil,fun h=>absurd rfl h,by simpa [val] using hvb,by simp [val],hO1,hg1⟩ (by repeat (first | exact zS | refine Sub.cons rfl ?_)) (fun j q R cr r w2 ⟨hj,hql,hDq,hR,hDr,hCr,hvr,hv,hO,hg⟩=>?_)
 have hA2:=hA.grown hg
 have hB2:=hB.grown hg
 repeat (first | refine zg ?_ | refine WC.block ?_ | refine zc ?_ | refine zh ?_ | refine za ?_ | refine zt ?_ | refine zy ?_ | refine zx ?_ | refine zm ?_ | refine zi ?_ | refine zf ?_ | refine zn ?_ | refine zk ?_ | refine zl rfl ?_ | refine zv ?_ | refine zw ?_ | refine zj ?_ | refine zp ?_ | refine zo ?_ | refine zd rfl (Yld.add rfl rfl (by simp only [In]; omega)) ?_ | refine zd rfl (Yld.sub rfl rfl (by simp only [In]; omega)) ?_ | refine zd rfl (zz rfl rfl (by omega) (by omega) (by simp only [In]; omega)) ?_ | refine zd rfl (ze qH rfl) ?_ | refine zd rfl (zF qJ rfl rfl rfl) ?_)
 refine zE rfl (fun h=>?_) (fun h=>?_)
 ·simp only [decide_eq_true_eq] at h
  obtain ⟨i,rfl⟩:∃ i,j=i+1:=⟨j - 1,by omega⟩
  have hit:(((i+1:Nat):Int) - 1).toNat=i:=by omega
  have hxi:=hDa i
  have hdc:=drop_cons la i (by omega)
  repeat (first | refine zd rfl (qm qH hA2 rfl rfl rfl rfl (by omega) (by omega)) ?_ | refine zd rfl (zQ 0 qH hA2 rfl rfl (by omega)) ?_ | refine zg ?_ | refine WC.block ?_ | refine zc ?_ | refine zh ?_ | refine za ?_ | refine zt ?_ | refine zy ?_ | refine zx ?_ | refine zm ?_ | refine zi ?_ | refine zf ?_ | refine zn ?_ | refine zk ?_ | refine zl rfl ?_ | refine zv ?_ | refine zw ?_ | refine zj ?_ | refine zp ?_ | refine zo ?_ | refine zd rfl (Yld.add rfl rfl (by simp only [In]; omega)) ?_ | refine zd rfl (Yld.sub rfl rfl (by simp only [In]; omega)) ?_ | refine zd rfl (zz rfl rfl (by omega) (by omega) (by simp only [In]; omega)) ?_ | refine zd rfl (ze qH rfl) ?_ | refine zd rfl (zF qJ rfl rfl rfl) ?_)
  rw [hit]
  generalize la.getD i 0=x at *
  refine qg (us:=[vd x]) qH rfl rfl rfl (by intro u hu; rw [List.mem_singleton] at hu; rw [hu]; rfl) rfl (by omega) (fun g3 w3 hL3 hg3 hl3=>?_)
  repeat (first | refine zg ?_ | refine WC.block ?_ | refine zc ?_ | refine zh ?_ | refine za ?_ | refine zt ?_ | refine zy ?_ | refine zx ?_ | refine zm ?_ | refine zi ?_ | refine zf ?_ | refine zn ?_ | refine zk ?_ | refine zl rfl ?_ | refine zv ?_ | refine zw ?_ | refine zj ?_ | refine zp ?_ | refine zo ?_ | refine zd rfl (Yld.add rfl rfl (by simp only [In]; omega)) ?_ | refine zd rfl (Yld.sub rfl rfl (by simp only [In]; omega)) ?_ | refine zd rfl (zz rfl rfl (by omega) (by omega) (by simp only [In]; omega)) ?_ | refine zd rfl (ze qH rfl) ?_ | refine zd rfl (zF qJ rfl rfl rfl) ?_)
  have hrl:=val_len_le hDb hCr (by omega:val r<=val lb)
  have hz1:=hg1.size
  have hz2:=hg.size
  have hO3:Own vd w3 w2.heap.size 171 (some ⟨g3,0,none⟩) 1 [x]:=Own.ofBl hL3 hl3 (by simp [maxLen]) rfl
  refine qo qH rfl rfl One.d hO3 rfl rfl (hR.grown hg3) rfl rfl (by simp only [List.length_cons,List.length_nil]; omega) (by simp only [maxLen,List.length_cons,List.length_nil]; omega) (by have:=hg3.size; omega) (fun A4 c4 w4 hO4 hg4 hf4=>?_)
  have hg24:=gr_own hg3 hO3 hg4 (Nat.le_refl _)
  have hA4b:∀ q,blk A4=some q->w2.heap.size<=q:=fun q hq=>(hO4.lt hq).1
  have hgl:g<w2.heap.size:=(hO.lt rfl).2
  have hDx:Dg ([x]++r):=hDr.cons hxi
  refine zK rfl rfl (made_fn' false A4 c4 ([x]++r) w4 hO4.rd hDx (by simp; omega)) ?_
  rintro _ w5 ⟨hN5,hg5,hlies⟩
  obtain ⟨A5,c5,r1,rfl,hR5,hD5,hC5,hl5,hv5⟩:=Nm.nat hN5
  have hA5:blk A5≠some g:=fun e=>by have:=hA4b _ (hlies _ _ _ _ rfl _ e); omega
  clear hlies
  have hg25:=qI hg24 hg5
  have hv1:val r1=x+1000000000*val r:=hv5
  have hr1:val r1<val lb*1000000000:=by
   have:val r+1<=val lb:=hvr
   omega
  have hl5':r1.length<=100001:=by simp at hl5; omega
  have hB5:=hB2.grown hg25
  have hO5:=hO.grown hg25
  repeat (first | refine zg ?_ | refine WC.block ?_ | refine zc ?_ | refine zh ?_ | refine za ?_ | refine zt ?_ | refine zy ?_ | refine zx ?_ | refine zm ?_ | refine zi ?_ | refine zf ?_ | refine zn ?_ | refine zk ?_ | refine zl rfl ?_ | refine zv ?_ | refine zw ?_ | refine zj ?_ | refine zp ?_ | refine zo ?_ | refine zd rfl (Yld.add rfl rfl (by simp only [In]; omega)) ?_ | refine zd rfl (Yld.sub rfl rfl (by simp only [In]; omega)) ?_ | refine zd rfl (zz rfl rfl (by omega) (by omega) (by simp only [In]; omega)) ?_ | refine zd rfl (ze qH rfl) ?_ | refine zd rfl (zF qJ rfl rfl rfl) ?_)
  refine WC.loop2 (S1:=Nat) (S2:=Nat) (fun lo hi=>hi - lo)
   (fun lo hi=>[(9,vd lo),(10,vd hi),(8,.int .i64 (((i+1:Nat):Int) - 1)),(7,.slice A5 r1.length c5),(6,.slice (some ⟨g,0,none⟩) la.length la.length),(0,.slice A la.length c),(1,.slice B lb.length cb)])
   (fun lo hi w6=>lo<=hi/\hi<=999999999/\val lb*lo<=val r1/\val r1<val lb*(hi+1)/\w5.grownBy w6 none) 0 999999999 ⟨by omega,by omega,by omega,hr1,qR _ _⟩ (by repeat (first | exact zS | refine Sub.cons rfl ?_)) (fun lo hi w6 ⟨h1,h2,h3,h4,hg6⟩=>?_)
  have hB6:=hB5.grown hg6
  have hR6:=hR5.grown hg6
  repeat (first | refine zg ?_ | refine WC.block ?_ | refine zc ?_ | refine zh ?_ | refine za ?_ | refine zt ?_ | refine zy ?_ | refine zx ?_ | refine zm ?_ | refine zi ?_ | refine zf ?_ | refine zn ?_ | refine zk ?_ | refine zl rfl ?_ | refine zv ?_ | refine zw ?_ | refine zj ?_ | refine zp ?_ | refine zo ?_ | refine zd rfl (Yld.add rfl rfl (by simp only [In]; omega)) ?_ | refine zd rfl (Yld.sub rfl rfl (by simp only [In]; omega)) ?_ | refine zd rfl (zz rfl rfl (by omega) (by omega) (by simp only [In]; omega)) ?_ | refine zd rfl (ze qH rfl) ?_ | refine zd rfl (zF qJ rfl rfl rfl) ?_)
  refine zE rfl (fun h'=>?_) (fun h'=>?_)
  ·simp only [decide_eq_true_eq] at h'
   have hmid:((lo:Int)+(hi:Int)+1) / 2=(((lo+hi+1) / 2:Nat):Int):=by omega
   repeat (first | refine zg ?_ | refine WC.block ?_ | refine zc ?_ | refine zh ?_ | refine za ?_ | refine zt ?_ | refine zy ?_ | refine zx ?_ | refine zm ?_ | refine zi ?_ | refine zf ?_ | refine zn ?_ | refine zk ?_ | refine zl rfl ?_ | refine zv ?_ | refine zw ?_ | refine zj ?_ | refine zp ?_ | refine zo ?_ | refine zd rfl (Yld.add rfl rfl (by simp only [In]; omega)) ?_ | refine zd rfl (Yld.sub rfl rfl (by simp only [In]; omega)) ?_ | refine zd rfl (zz rfl rfl (by omega) (by omega) (by simp only [In]; omega)) ?_ | refine zd rfl (ze qH rfl) ?_ | refine zd rfl (zF qJ rfl rfl rfl) ?_)
   rw [hmid]
   generalize hM:(lo+hi+1) / 2=M
   have hM1:lo<M/\M<=hi:=by omega
   refine zK rfl rfl (times_fn B cb lb M w6 hB6 hDb (by omega) (by omega)) ?_
   rintro _ w7 ⟨A7,c7,l7,rfl,hR7,hD7,hC7,hl7,hv7,hg7⟩
   repeat (first | refine zg ?_ | refine WC.block ?_ | refine zc ?_ | refine zh ?_ | refine za ?_ | refine zt ?_ | refine zy ?_ | refine zx ?_ | refine zm ?_ | refine zi ?_ | refine zf ?_ | refine zn ?_ | refine zk ?_ | refine zl rfl ?_ | refine zv ?_ | refine zw ?_ | refine zj ?_ | refine zp ?_ | refine zo ?_ | refine zd rfl (Yld.add rfl rfl (by simp only [In]; omega)) ?_ | refine zd rfl (Yld.sub rfl rfl (by simp only [In]; omega)) ?_ | refine zd rfl (zz rfl rfl (by omega) (by omega) (by simp only [In]; omega)) ?_ | refine zd rfl (ze qH rfl) ?_ | refine zd rfl (zF qJ rfl rfl rfl) ?_)
   refine zK rfl rfl (cmp_fn A7 c7 l7 A5 c5 r1 w7 hR7 (hR6.grown hg7) hD7 hD5 hC7 hC5 (by omega) (by omega)) ?_
   rintro _ w8 ⟨⟨n,rfl,ht⟩,hw8⟩
   have hw9:=hw8.symm
   subst hw9
   repeat (first | refine zg ?_ | refine WC.block ?_ | refine zc ?_ | refine zh ?_ | refine za ?_ | refine zt ?_ | refine zy ?_ | refine zx ?_ | refine zm ?_ | refine zi ?_ | refine zf ?_ | refine zn ?_ | refine zk ?_ | refine zl rfl ?_ | refine zv ?_ | refine zw ?_ | refine zj ?_ | refine zp ?_ | refine zo ?_ | refine zd rfl (Yld.add rfl rfl (by simp only [In]; omega)) ?_ | refine zd rfl (Yld.sub rfl rfl (by simp only [In]; omega)) ?_ | refine zd rfl (zz rfl rfl (by omega) (by omega) (by simp only [In]; omega)) ?_ | refine zd rfl (ze qH rfl) ?_ | refine zd rfl (zF qJ rfl rfl rfl) ?_)
   refine zE rfl (fun h0=>?_) (fun h0=>?_)
   ·simp only [decide_eq_true_eq] at h0
    have:val l7<=val r1:=by rcases ht with h | h | h <;> omega
    repeat (first | refine zg ?_ | refine WC.block ?_ | refine zc ?_ | refine zh ?_ | refine za ?_ | refine zt ?_ | refine zy ?_ | refine zx ?_ | refine zm ?_ | refine zi ?_ | refine zf ?_ | refine zn ?_ | refine zk ?_ | refine zl rfl ?_ | refine zv ?_ | refine zw ?_ | refine zj ?_ | refine zp ?_ | refine zo ?_ | refine zd rfl (Yld.add rfl rfl (by simp only [In]; omega)) ?_ | refine zd rfl (Yld.sub rfl rfl (by simp only [In]; omega)) ?_ | refine zd rfl (zz rfl rfl (by omega) (by omega) (by simp only [In]; omega)) ?_ | refine zd rfl (ze qH rfl) ?_ | refine zd rfl (zF qJ rfl rfl rfl) ?_)
    exact WX.round2 M hi ⟨by omega,h2,by omega,h4,qI hg6 hg7⟩ (by omega) (by repeat (first | exact zS | refine Sub.cons rfl ?_))
   ·simp only [decide_eq_false_iff_not] at h0
    have:val r1<val l7:=by rcases ht with h | h | h <;> omega
    repeat (first | refine zg ?_ | refine WC.block ?_ | refine zc ?_ | refine zh ?_ | refine za ?_ | refine zt ?_ | refine zy ?_ | refine zx ?_ | refine zm ?_ | refine zi ?_ | refine zf ?_ | refine zn ?_ | refine zk ?_ | refine zl rfl ?_ | refine zv ?_ | refine zw ?_ | refine zj ?_ | refine zp ?_ | refine zo ?_ | refine zd rfl (Yld.add rfl rfl (by simp only [In]; omega)) ?_ | refine zd rfl (Yld.sub rfl rfl (by simp only [In]; omega)) ?_ | refine zd rfl (zz rfl rfl (by omega) (by omega) (by simp only [In]; omega)) ?_ | refine zd rfl (ze qH rfl) ?_ | refine zd rfl (zF qJ rfl rfl rfl) ?_)
    have hM3:(M:Int) - 1=((M - 1:Nat):Int):=by omega
    rw [hM3]
    exact WX.round2 lo (M - 1) ⟨by omega,by omega,h3,by rw [show M - 1+1=M by omega]; omega,qI hg6 hg7⟩ (by omega) (by repeat (first | exact zS | refine Sub.cons rfl ?_))
  ·simp only [decide_eq_false_iff_not] at h'
   obtain rfl:hi=lo:=by omega
   have hO6:=hO5.grown hg6
   repeat (first | refine zd rfl (qm qH hO6.rd rfl rfl hql.symm rfl (by omega) (by omega)) ?_ | refine zg ?_ | refine WC.block ?_ | refine zc ?_ | refine zh ?_ | refine za ?_ | refine zt ?_ | refine zy ?_ | refine zx ?_ | refine zm ?_ | refine zi ?_ | refine zf ?_ | refine zn ?_ | refine zk ?_ | refine zl rfl ?_ | refine zv ?_ | refine zw ?_ | refine zj ?_ | refine zp ?_ | refine zo ?_ | refine zd rfl (Yld.add rfl rfl (by simp only [In]; omega)) ?_ | refine zd rfl (Yld.sub rfl rfl (by simp only [In]; omega)) ?_ | refine zd rfl (zz rfl rfl (by omega) (by omega) (by simp only [In]; omega)) ?_ | refine zd rfl (ze qH rfl) ?_ | refine zd rfl (zF qJ rfl rfl rfl) ?_)
   rw [hit]
   refine WL.ostore (v:=hi) one171 One.d hO6 rfl rfl (by omega) (fun w7 hO7 hg7=>?_)
   have hR7:=hR6.keep hg7 (fun q hq e=>hA5 (e.trans hq.symm))
   have hg27:=gr_own (qI (qI hg hg25) hg6) hO6 hg7 (Nat.le_refl _)
   have hB7:=hB.grown hg27
   repeat (first | refine zg ?_ | refine WC.block ?_ | refine zc ?_ | refine zh ?_ | refine za ?_ | refine zt ?_ | refine zy ?_ | refine zx ?_ | refine zm ?_ | refine zi ?_ | refine zf ?_ | refine zn ?_ | refine zk ?_ | refine zl rfl ?_ | refine zv ?_ | refine zw ?_ | refine zj ?_ | refine zp ?_ | refine zo ?_ | refine zd rfl (Yld.add rfl rfl (by simp only [In]; omega)) ?_ | refine zd rfl (Yld.sub rfl rfl (by simp only [In]; omega)) ?_ | refine zd rfl (zz rfl rfl (by omega) (by omega) (by simp only [In]; omega)) ?_ | refine zd rfl (ze qH rfl) ?_ | refine zd rfl (zF qJ rfl rfl rfl) ?_)
   refine zK rfl rfl (times_fn B cb lb hi w7 hB7 hDb (by omega) (by omega)) ?_
   rintro _ w8 ⟨A8,c8,l8,rfl,hR8,hD8,hC8,hl8,hv8,hg8⟩
   repeat (first | refine zg ?_ | refine WC.block ?_ | refine zc ?_ | refine zh ?_ | refine za ?_ | refine zt ?_ | refine zy ?_ | refine zx ?_ | refine zm ?_ | refine zi ?_ | refine zf ?_ | refine zn ?_ | refine zk ?_ | refine zl rfl ?_ | refine zv ?_ | refine zw ?_ | refine zj ?_ | refine zp ?_ | refine zo ?_ | refine zd rfl (Yld.add rfl rfl (by simp only [In]; omega)) ?_ | refine zd rfl (Yld.sub rfl rfl (by simp only [In]; omega)) ?_ | refine zd rfl (zz rfl rfl (by omega) (by omega) (by simp only [In]; omega)) ?_ | refine zd rfl (ze qH rfl) ?_ | refine zd rfl (zF qJ rfl rfl rfl) ?_)
   have hle8:val l8<=val r1:=by omega
   refine zK rfl rfl (minus_fn A5 c5 r1 A8 c8 l8 w8 (hR7.grown hg8) hR8 hD5 hD8 (by omega) (val_len_le hD5 hC8 hle8) hle8) ?_
   rintro _ w9 ⟨A9,c9,l9,rfl,hR9,hD9,hv9,hl9,hg9⟩
   repeat (first | refine zg ?_ | refine WC.block ?_ | refine zc ?_ | refine zh ?_ | refine za ?_ | refine zt ?_ | refine zy ?_ | refine zx ?_ | refine zm ?_ | refine zi ?_ | refine zf ?_ | refine zn ?_ | refine zk ?_ | refine zl rfl ?_ | refine zv ?_ | refine zw ?_ | refine zj ?_ | refine zp ?_ | refine zo ?_ | refine zd rfl (Yld.add rfl rfl (by simp only [In]; omega)) ?_ | refine zd rfl (Yld.sub rfl rfl (by simp only [In]; omega)) ?_ | refine zd rfl (zz rfl rfl (by omega) (by omega) (by simp only [In]; omega)) ?_ | refine zd rfl (ze qH rfl) ?_ | refine zd rfl (zF qJ rfl rfl rfl) ?_)
   refine zK rfl rfl (js false A9 c9 l9 w9 hR9 hD9 (by omega)) ?_
   rintro _ wa ⟨hNa,hga⟩
   obtain ⟨Aa,ca,ra,rfl,hRa,hDa',hCa,hla',hva⟩:=Nm.nat hNa
   repeat (first | refine zg ?_ | refine WC.block ?_ | refine zc ?_ | refine zh ?_ | refine za ?_ | refine zt ?_ | refine zy ?_ | refine zx ?_ | refine zm ?_ | refine zi ?_ | refine zf ?_ | refine zn ?_ | refine zk ?_ | refine zl rfl ?_ | refine zv ?_ | refine zw ?_ | refine zj ?_ | refine zp ?_ | refine zo ?_ | refine zd rfl (Yld.add rfl rfl (by simp only [In]; omega)) ?_ | refine zd rfl (Yld.sub rfl rfl (by simp only [In]; omega)) ?_ | refine zd rfl (zz rfl rfl (by omega) (by omega) (by simp only [In]; omega)) ?_ | refine zd rfl (ze qH rfl) ?_ | refine zd rfl (zF qJ rfl rfl rfl) ?_)
   have hsl:((i+1:Nat):Int) - 1 - 1=(i:Int) - 1:=by omega
   rw [hsl]
   have hgx:=qI (qI hg8 hg9) hga
   have hva':val ra=val r1 - val lb*hi:=by omega
   refine WX.round5 i (q.set i hi) Aa ca ra ⟨by omega,by simp [hql],hDq.set _ (by omega),hRa,hDa',hCa,by rw [hva']; rw [Nat.mul_add] at h4; omega,?_,hO7.grown hgx,qI hg27 hgx⟩ (by omega) (by repeat (first | exact zS | refine Sub.cons rfl ?_))
   rw [hdc,drop_set_self _ _ _ (by omega),hva']
   exact div_step _ _ _ _ _ _ _ hv hv1 h3
 ·simp only [decide_eq_false_iff_not] at h
  obtain rfl:j=0:=by omega
  repeat (first | refine zg ?_ | refine WC.block ?_ | refine zc ?_ | refine zh ?_ | refine za ?_ | refine zt ?_ | refine zy ?_ | refine zx ?_ | refine zm ?_ | refine zi ?_ | refine zf ?_ | refine zn ?_ | refine zk ?_ | refine zl rfl ?_ | refine zv ?_ | refine zw ?_ | refine zj ?_ | refine zp ?_ | refine zo ?_ | refine zd rfl (Yld.add rfl rfl (by simp only [In]; omega)) ?_ | refine zd rfl (Yld.sub rfl rfl (by simp only [In]; omega)) ?_ | refine zd rfl (zz rfl rfl (by omega) (by omega) (by simp only [In]; omega)) ?_ | refine zd rfl (ze qH rfl) ?_ | refine zd rfl (zF qJ rfl rfl rfl) ?_)
  simp only [List.drop_zero] at hv
  have hfin:Value.slice (some ⟨g,0,none⟩) la.length la.length=Value.slice (some ⟨g,0,none⟩) q.length la.length:=by rw [hql]
  rw [hfin]
  exact zW rfl rfl rfl ⟨_,_,q,R,cr,r,rfl,hO.rd,hR,hDq,hDr,hCr,hql,hv,hvr,hg⟩
end
 end Go.Proofs.YtjoepdjeekadcaaGreatDoor
