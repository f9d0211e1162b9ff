/- Texts of this claim, joined by a program: PathA, PathB, PathC, Srt, Lin, See, DiskP, DiskQ, CpA, Sha0, Sha1, Sha2, Sha3, Sha4, Sha5, Sha6, Sha7, Sha8, Sha10, KeyA, Ord, GKa, Arr. -/
import Derived.Test.YtafpeckmdjplnaaGreatDoorJ2
import Derived.Lib.Replace
import Derived.Lib.Join
import Derived.Lib.SlicesCompact
import Derived.Sort.Walk0
import Derived.Lib.SplitLaws
import Derived.Lib.Strings
import Derived.Test.YtafpeckmdjplnaaGreatDoorRows
import Derived.Stop.BytesEq
import Derived.WideKeyArr
namespace Go.Proofs.YtafpeckmdjplnaaGreatDoor

section
open Go Go.RowKit
def cuts:List UInt8->List (List UInt8)
 | []=>[[]]
 | c :: s=>if c=47 then [] :: cuts s else match cuts s with
  | []=>[[c]]
  | h :: t=>(c :: h) :: t
theorem cuts_ne (s:List UInt8):cuts s≠[]:=by
 cases s with
 | nil=>simp [cuts]
 | cons c s =>
  unfold cuts
  split
  ·simp
  ·split <;> simp
theorem split_cuts:∀ s:List UInt8,Lib.split s [47]=cuts s
 | []=>by simp [Lib.split,Lib.count_miss,Lib.index,Lib.splitK,cuts]
 | c :: s=>by
  have ih:=split_cuts s
  unfold Lib.split at ih |-
  by_cases hc:c=47
  ·subst hc
   have hix:Lib.index (47 :: s) [47]=0:=by rw [Lib.index]; simp [List.isPrefixOf]
   rw [Lib.count_cons_eq,Nat.add_comm,Lib.splitK,if_neg (by rw [hix]; decide),hix]
   simp only [cuts,if_true]
   rw [<-ih]
   simp
  ·have hp:([47]:List UInt8).isPrefixOf (c :: s)=false:=by simp [List.isPrefixOf,Ne.symm hc]
   have hix:Lib.index (c :: s) [47]=if Lib.index s [47] == -1 then -1 else Lib.index s [47]+1:=by rw [Lib.index,hp]; simp
   rw [Lib.count_cons_ne c 47 s hc]
   simp only [cuts,if_neg hc]
   rw [<-ih]
   cases hk:Lib.count s [47] with
   | zero=>simp [Lib.splitK]
   | succ k =>
    have hne:Lib.index s [47] ≠ -1:=fun e=>by rw [Lib.count_miss e] at hk; cases hk
    have hge:=Lib.index_ge s [47]
    obtain ⟨j,hj⟩:∃ j:Nat,Lib.index s [47]=j:=⟨(Lib.index s [47]).toNat,by omega⟩
    have hix':Lib.index (c :: s) [47]=((j+1:Nat):Int):=by rw [hix,if_neg (fun e=>hne (beq_iff_eq.1 e)),hj]; omega
    rw [Lib.splitK,Lib.splitK,if_neg (fun e=>hne (beq_iff_eq.1 e)),if_neg (by rw [hix']; simp; omega),hix',hj]
    simp
theorem splitL_cuts (s:List UInt8):splitL [47] s=cuts s:=split_cuts s
theorem cuts_length (s:List UInt8):(cuts s).length<=s.length+1:=by
 induction s with
 | nil=>simp [cuts]
 | cons c s ih =>
  unfold cuts
  split
  ·simp; omega
  ·split
   ·simp
   ·rename_i h t e; rw [e] at ih; simp at ih |-; omega
theorem split_M {s:List UInt8} {K:List (List UInt8)->Prop} (hs:s.length<=4000000000) (h:K (cuts s)):M_strings_Split s [47] K :=
 ⟨by omega,by simp,by rw [splitL_cuts]; exact h⟩
def letB (c:UInt8):Bool:=(((decide (48<=c.toNat) && decide (c.toNat<=57)) || (decide (65<=c.toNat) && decide (c.toNat<=90))) || (decide (97<=c.toNat) && decide (c.toNat<=122))) || ([33,35,37,43,44,45,46,61,64,95,126]:List UInt8).contains c
theorem indexByte_contains (l:List UInt8) (c:UInt8):decide (0<=Lib.indexByte l c)=l.contains c:=by
 induction l with
 | nil=>simp [Lib.indexByte]
 | cons b l ih =>
  unfold Lib.indexByte
  by_cases h:b=c
  ·subst h; simp
  ·have hge:=Lib.indexByte_ge l c
   rw [if_neg (by simpa using h)]
   have hc:(b :: l).contains c=l.contains c:=by simp [Ne.symm h]
   rw [hc,<-ih]
   by_cases h1:Lib.indexByte l c = -1
   ·rw [if_pos (by simpa using h1),h1]
   ·rw [if_neg (by simpa using h1),decide_eq_decide]; omega
theorem letter_M {c:UInt8} {K:Bool->Prop} (h:K (letB c)):Zy (c.toNat:Int) K:=by
 have e:((((decide ((48:Int)<=(c.toNat:Int))) && (decide ((c.toNat:Int)<=(57:Int)))) || ((decide ((65:Int)<=(c.toNat:Int))) && (decide ((c.toNat:Int)<=(90:Int))))) || ((decide ((97:Int)<=(c.toNat:Int))) && (decide ((c.toNat:Int)<=(122:Int)))))=(((decide (48<=c.toNat) && decide (c.toNat<=57)) || (decide (65<=c.toNat) && decide (c.toNat<=90))) || (decide (97<=c.toNat) && decide (c.toNat<=122))):=by
  have d:∀ a b:Nat,decide ((a:Int)<=(b:Int))=decide (a<=b):=fun a b=>by rw [decide_eq_decide]; omega
  have d1:decide ((48:Int)<=(c.toNat:Int))=decide (48<=c.toNat):=d 48 c.toNat
  have d2:decide ((c.toNat:Int)<=(57:Int))=decide (c.toNat<=57):=d c.toNat 57
  have d3:decide ((65:Int)<=(c.toNat:Int))=decide (65<=c.toNat):=d 65 c.toNat
  have d4:decide ((c.toNat:Int)<=(90:Int))=decide (c.toNat<=90):=d c.toNat 90
  have d5:decide ((97:Int)<=(c.toNat:Int))=decide (97<=c.toNat):=d 97 c.toNat
  have d6:decide ((c.toNat:Int)<=(122:Int))=decide (c.toNat<=122):=d c.toNat 122
  rw [d1,d2,d3,d4,d5,d6]
 unfold Zy
 rw [e]
 unfold letB at h
 refine ⟨fun h1=>?_,fun h1=>?_⟩
 ·rw [h1] at h; exact h
 ·rw [h1,Bool.false_or] at h
  unfold Zx
  rw [show ((c.toNat:Int).toNat.toUInt8)=c by simp]
  show K (decide (0<=Lib.indexByte _ _))
  rw [indexByte_contains]
  exact h
def dotsB (s:List UInt8):Bool:=(decide (s=[]) || decide (s=[46])) || decide (s=[46,46])
def fairB (s:List UInt8):Bool:=s.all letB && !dotsB s
theorem take_all_succ {p:UInt8->Bool} {s:List UInt8} {k:Nat} (h:(s.take k).all p=true) (hk:k<s.length) (hp:p (s.getD k 0)=true):(s.take (k+1)).all p=true:=by
 rw [List.take_succ_eq_append_getElem hk,List.all_append,h]
 simpa [List.getD,hk] using hp
theorem fair_M {s:List UInt8} {K:Bool->Prop} (hs:s.length<=4000000000) (h:K (fairB s)):M_path_fair s K:=by
 unfold M_path_fair
 refine ⟨fun i=>∃ k:Nat,i=k/\k<=s.length/\(s.take k).all letB=true,fun i=>(s.length - i.toNat),⟨0,rfl,by omega,by simp⟩,?_⟩
 rintro _ ⟨k,rfl,hk,hall⟩
 refine ⟨fun hlt=>⟨by omega,letter_M ?_⟩,fun hge=>?_⟩
 ·have hk':k<s.length:=by omega
  rw [Int.toNat_natCast]
  cases hl:letB (s.getD k 0) with
  | false =>
   refine ⟨fun _=>?_,fun h1=>by simp at h1⟩
   have:s.all letB=false:=by
    rw [List.all_eq_false]
    exact ⟨s.getD k 0,by simp [List.getD,hk'],by rw [hl]; simp⟩
   unfold fairB at h
   rw [this] at h
   exact h
  | true=>exact ⟨fun h1=>by simp at h1,fun _=>⟨by simp only [In]; omega,⟨k+1,by omega,by omega,take_all_succ hall hk' hl⟩,by dsimp only; omega⟩⟩
 ·obtain rfl:k=s.length:=by omega
  rw [List.take_length] at hall
  unfold fairB at h
  rw [hall,Bool.true_and] at h
  exact h
def jY (p:List UInt8):Bool:=decide (p.length<=200) && (cuts p).all fairB
theorem cuts_part {s x:List UInt8} (h:x∈cuts s):x.length<=s.length:=by
 induction s generalizing x with
 | nil=>simp [cuts] at h; subst h; simp
 | cons c s ih =>
  unfold cuts at h
  split at h
  ·rcases List.mem_cons.1 h with rfl | h
   ·simp
   ·have:=ih h; simp; omega
  ·split at h
   ·rename_i e; exact absurd e (cuts_ne s)
   ·rename_i y t e
    rcases List.mem_cons.1 h with rfl | h
    ·have:=ih (x:=y) (by rw [e]; simp); simp; omega
    ·have:=ih (x:=x) (by rw [e]; simp [h]); simp; omega
theorem getD_mem {α:Type} {l:List α} {k:Nat} {d:α} (h:k<l.length):l.getD k d∈l:=by
 simp [List.getD,h]
theorem valid_M {p:List UInt8} {K:Bool->Prop} (hp:p.length<=4000000000) (h:K (jY p)):kX p K:=by
 unfold kX
 unfold jY at h
 refine ⟨fun h1=>?_,fun h1=>split_M hp ?_⟩
 ·rw [decide_eq_false (by omega:¬ p.length<=200)] at h; exact h
 rw [decide_eq_true (by omega:p.length<=200),Bool.true_and] at h
 refine ⟨fun i=>∃ k:Nat,i=k/\k<=(cuts p).length/\((cuts p).take k).all fairB=true,fun i=>((cuts p).length - i.toNat),⟨0,rfl,by omega,by simp⟩,?_⟩
 have hcl:=cuts_length p
 rintro _ ⟨k,rfl,hk,hall⟩
 refine ⟨fun hlt=>⟨by omega,?_⟩,fun hge=>?_⟩
 ·have hk':k<(cuts p).length:=by omega
  rw [Int.toNat_natCast]
  have hm:(cuts p).getD k []∈cuts p:=getD_mem hk'
  have hx:=cuts_part hm
  refine fair_M (by omega) ?_
  cases hl:fairB ((cuts p).getD k []) with
  | false =>
   refine ⟨fun _=>?_,fun h1=>by simp at h1⟩
   have:(cuts p).all fairB=false:=by
    rw [List.all_eq_false]
    exact ⟨_,hm,by rw [hl]; simp⟩
   rw [this] at h
   exact h
  | true =>
   refine ⟨fun h1=>by simp at h1,fun _=>⟨by simp only [In]; omega,⟨k+1,by omega,by omega,?_⟩,by dsimp only; omega⟩⟩
   rw [List.take_succ_eq_append_getElem hk',List.all_append,hall]
   simpa [List.getD,hk'] using hl
 ·obtain rfl:k=(cuts p).length:=by omega
  rw [List.take_length] at hall
  rw [hall] at h
  exact h
end
 
section
open Go Go.RowKit
section
variable (star:Nat->Bool) (eq:Nat->Nat->Bool) (i j:Nat)
end
def bt (p:List UInt8) (i:Nat):UInt8:=p.getD i 0
def RowIs (d:Nat->Bool) (n k:Nat) (xs:List Bool):Prop:=xs.length=n+1/\∀ j,j<k->xs.getD j false=d j
theorem getD_set {xs:List Bool} {a j:Nat} {v:Bool} (h:a<xs.length):(xs.set a v).getD j false=if j=a then v else xs.getD j false:=by
 by_cases e:j=a
 ·subst e; simp [List.getD,h]
 ·simp [List.getD,List.getElem?_set,Ne.symm e,e]
theorem RowIs.next {d:Nat->Bool} {n k:Nat} {xs:List Bool} {v:Bool} (h:RowIs d n k xs) (hk:k<=n) (hv:v=d k):RowIs d n (k+1) (xs.set k v) :=
 ⟨by rw [List.length_set]; exact h.1,fun j hj=>by
  rw [getD_set (by rw [h.1]; omega)]
  split
  ·rename_i e; rw [e]; exact hv
  ·exact h.2 j (by omega)⟩
end
 
section
open Go Go.RowKit
def glue:List (List UInt8)->List UInt8
 | []=>[]
 | [x]=>x
 | x :: y :: r=>x++47 :: glue (y :: r)
def wt:List (List UInt8)->Nat
 | []=>0
 | x :: r=>x.length+1+wt r
theorem wt_append (l r:List (List UInt8)):wt (l++r)=wt l+wt r:=by
 induction l with
 | nil=>simp [wt]
 | cons x l ih=>simp [wt,ih]; omega
theorem glue_length (l:List (List UInt8)):(glue l).length<=wt l:=by
 induction l with
 | nil=>simp [glue,wt]
 | cons x l ih =>
  cases l with
  | nil=>simp [glue,wt]
  | cons y r=>simp [glue,wt] at ih |-; omega
theorem length_wt (l:List (List UInt8)):l.length<=wt l:=by
 induction l with
 | nil=>simp [wt]
 | cons x l ih=>simp [wt]; omega
theorem wt_cuts (s:List UInt8):wt (cuts s)=s.length+1:=by
 induction s with
 | nil=>simp [cuts,wt]
 | cons c s ih =>
  unfold cuts
  split
  ·simp [wt,ih]; omega
  ·split
   ·rename_i e; exact absurd e (cuts_ne s)
   ·rename_i h t e; rw [e] at ih; simp [wt] at ih |-; omega
theorem wt_take (l:List (List UInt8)) (k:Nat):wt (l.take k)<=wt l:=by
 conv=>rhs; rw [<-List.take_append_drop k l]
 rw [wt_append]; omega
def cl (l:List (List UInt8)):List (List UInt8)->Option (List (List UInt8))
 | []=>some l
 | x :: r=>if decide (x=[]) || decide (x=[46]) then cl l r else if decide (x=[46,46]) && decide (0<l.length) then cl (l.take (l.length - 1)) r else if fairB x then cl (l++[x]) r else none
def cleanP (p:List UInt8):Option (List UInt8):=match cl [] (cuts p) with
 | none=>none
 | some l=>if (glue l).length<=200 then some (glue l) else none
end
 
section
open Go
abbrev Bs:=List UInt8
def sortB (l:List Bs):List Bs:=l.mergeSort fun x y=>decide (x<=y)
theorem sortB_le (l:List Bs):(sortB l).Pairwise (· <= ·):=by
 have h:=List.pairwise_mergeSort (le:=fun (x y:Bs)=>decide (x<=y)) (fun a b c h k=>by
  simp only [decide_eq_true_eq] at h k |-
  exact List.le_trans h k) (fun a b=>by
  simp only [Bool.or_eq_true,decide_eq_true_eq]
  exact List.le_total a b) l
 exact h.imp fun h=>by simpa using h
theorem sortB_mem (l:List Bs) (x:Bs):x∈sortB l↔x∈l:=(List.mergeSort_perm l _).mem_iff
end
 
section
open Go Go.RowKit
theorem sorted_uniq:∀ {a b:List Bs},a.Pairwise (· <= ·)->b.Pairwise (· <= ·)->a.Perm b->a=b
 | [],b,_,_,h=>h.nil_eq.symm ▸ rfl
 | x :: a,[],_,_,h=>absurd h.eq_nil (by simp)
 | x :: a,y :: b,ha,hb,h=>by
  have ha':=List.pairwise_cons.1 ha
  have hb':=List.pairwise_cons.1 hb
  have h1:y<=x:=by
   rcases List.mem_cons.1 (h.mem_iff.1 (List.mem_cons_self (a:=x) (l:=a))) with e | e
   ·rw [e]; exact List.le_refl _
   ·exact hb'.1 x e
  have h2:x<=y:=by
   rcases List.mem_cons.1 (h.mem_iff.2 (List.mem_cons_self (a:=y) (l:=b))) with e | e
   ·rw [e]; exact List.le_refl _
   ·exact ha'.1 y e
  obtain rfl:x=y:=List.le_antisymm h2 h1
  rw [sorted_uniq ha'.2 hb'.2 h.cons_inv]
theorem sortB_perm (l:List Bs):(sortB l).Perm l:=List.mergeSort_perm l _
theorem sortB_of {a l:List Bs} (h:a.Pairwise (· <= ·)) (k:a.Perm l):a=sortB l:=sorted_uniq h (sortB_le l) (k.trans (sortB_perm l).symm)
theorem sortB_congr {a b:List Bs} (h:a.Perm b):sortB a=sortB b:=sortB_of (sortB_le a) ((sortB_perm a).trans h)
end
 
section
open Go Go.RowKit
def isB:Er->Int->Bool
 | .ok,c=>decide (0=c)
 | .e n,c=>decide (101+(n:Int)=c)
 | .at_ _ _,_=>false
theorem is_M {e:Er} {code:Int} {K:Bool->Prop} (h:K (isB e code)):jJ e code K:=by
 unfold jJ j5 Zs Zn kt kB Ze kb j5 Zd kt
 cases e with
 | ok=>refine ⟨fun _=>?_,fun h2=>absurd rfl h2⟩; exact (congrArg K (show isB .ok code=_ by simp [isB])).mp h
 | e n=>refine ⟨fun h2=>(by cases h2),fun _=>⟨fun p m h2=>(by cases h2),fun _=>?_⟩⟩; exact (congrArg K (show isB (.e n) code=_ by rw [Bool.eq_iff_iff]; simp [isB,sentV]; exact decide_eq_true_iff.symm)).mp h
 | at_ p n =>
  refine ⟨fun h2=>(by cases h2),fun _=>⟨fun p' m h2=>?_,fun h2=>absurd rfl (h2 p n)⟩⟩
  cases h2
  refine ⟨fun h2=>(by simp at h2),fun _=>⟨fun h2=>(by simp only [sentV] at h2; omega),fun _=>?_⟩⟩
  exact (congrArg K (show isB (.at_ p n) code=_ by simp [isB])).mp h
end
 
section
open Go Go.RowKit
abbrev DF:=List (List UInt8 × Fil)
def fz:Fil:=([],false,[],false,[])
def fil (fs:DF) (p:List UInt8):Fil:=(mget fs p).getD fz
theorem fil_put (fs:DF) (p q:List UInt8) (x:Fil):fil (mput fs p x) q=if p=q then x else fil fs q:=by
 unfold fil
 rw [Zv]
 split <;> rfl
theorem mput_mput {κ ν:Type} [DecidableEq κ] (k:κ) (v v':ν):∀ m:List (κ × ν),mput (mput m k v) k v'=mput m k v'
 | []=>by simp [mput]
 | p :: m=>by
  by_cases h:p.1=k
  ·simp [mput,h]
  ·simp [mput,h,mput_mput k v v' m]
theorem eraseIdx_perm {α:Type}:∀ (l:List α) (i:Nat) (h:i<l.length),l.Perm (l[i] :: l.eraseIdx i)
 | [],_,h=>by simp at h
 | x :: l,0,_=>List.Perm.refl _
 | x :: l,i+1,h=>((eraseIdx_perm l i (by simpa using h)).cons x).trans (List.Perm.swap _ _ _)
def ju (fs:DF) (p:List UInt8):Bool:=(fil fs p).2.1
theorem there_eq (fs:DF) (p:List UInt8):((mget fs p).isSome && ((mget fs p).getD fz).2.1)=ju fs p:=by
 unfold ju fil
 cases mget fs p <;> rfl
theorem there_some {fs:DF} {p:List UInt8} (h:ju fs p=true):(mget fs p).isSome=true:=by
 unfold ju fil at h
 cases e:mget fs p with
 | none=>rw [e] at h; cases h
 | some x=>rfl
def jW (ops left:Int) (down:Bool):Er × Int × Int × Bool :=
 if down then (.e 15,ops,left,true) else if 0<left then (if left=1 then (.e 15,ops+1,0,true) else (.ok,ops+1,left - 1,false)) else (.ok,ops+1,left,false)
theorem call_M {fs:DF} {ops left:Int} {down:Bool} {K:Er->DF->Int->Int->Bool->Prop} (h0:0<=ops) (h1:ops<=1000000000) (hl:left<=1000000000) (h:K (jW ops left down).1 fs (jW ops left down).2.1 (jW ops left down).2.2.1 (jW ops left down).2.2.2):kd fs ops left down K:=by
 refine ⟨fun hd=>?_,fun hd=>⟨by simp only [In]; omega,fun d=>d=(if 0<left then left - 1 else left)/\¬ (0<left/\left=1),⟨fun hp=>⟨by simp only [In]; omega,fun h1'=>?_,fun hne=>?_⟩,fun hp=>?_⟩,fun d2 ⟨e,hn⟩=>?_⟩⟩
 ·subst hd; simpa [jW] using h
 ·have e:left=1:=by omega
  subst hd; subst e; simpa [jW] using h
 ·exact ⟨by rw [if_pos hp],by omega⟩
 ·exact ⟨by rw [if_neg hp],by omega⟩
 ·subst hd
  subst e
  unfold jW at h
  by_cases hp:0<left
  ·have hne:left≠1:=by omega
   simpa [hp,hne] using h
  ·simpa [hp] using h
theorem dthere_M {fs:DF} {ops left:Int} {down:Bool} {p:List UInt8} {K:Bool->Prop} (hp:p.length<=maxLen) (h:K (ju fs p)):j1 fs ops left down p K:=by
 refine ⟨hp,fun _=>hp,fun h=>h,?_⟩
 rw [show (([],false,[],false,[]):Fil)=fz from rfl,there_eq]
 exact h
theorem known_M {fs:DF} {ops left:Int} {down:Bool} {p:List UInt8} {K:DF->Int->Int->Bool->Prop} (hp:p.length<=maxLen) (hf:fs.length<maxLen) (h:∀ fs',(∀ x,mput fs' p x=mput fs p x)->(mget fs' p).isSome=true->fil fs' p=fil fs p->K fs' ops left down):Za fs ops left down p K:=by
 refine ⟨fun f=>(∀ x,mput f p x=mput fs p x)/\(mget f p).isSome=true/\fil f p=fil fs p,⟨hp,fun hn=>⟨⟨hp,hf⟩,fun x=>mput_mput _ _ _ _,?_,?_⟩,fun hn=>⟨fun _=>rfl,isSome_of hn,rfl⟩⟩,fun d ⟨h1,h2,h3⟩=>⟨hp,h d h1 h2 h3⟩⟩
 ·rw [mget_same]; rfl
 ·rw [fil_put,if_pos rfl]
  unfold fil
  rw [Option.isNone_iff_eq_none.1 hn]; rfl
def kV (fs:DF):List (List UInt8):=sortB ((fs.map (·.1)).filter fun k=>ju fs k)
theorem paths_M {fs:DF} {ops left:Int} {down:Bool} {K:List (List UInt8)->Prop} (hf:fs.length<=1000000) (h:K (kV fs)):ku fs ops left down K:=by
 refine ⟨fun l todo=>(l++todo.filter fun k=>ju fs k).Perm ((fs.map (·.1)).filter fun k=>ju fs k)/\l.length+todo.length<=fs.length/\∀ k∈todo,k∈fs.map (·.1),fun _ todo=>todo.length,⟨by simp,by simp,fun k hk=>hk⟩,fun l todo ⟨a0,a1,a2⟩=>⟨fun he=>?_,fun ix key hq=>?_⟩⟩
 ·subst he
  refine ⟨by simp only [List.length_nil] at a1; omega,?_⟩
  have:=sortB_congr (by simpa using a0:l.Perm _)
  unfold sortB at this
  rw [this]
  exact h
 ·obtain ⟨hi,rfl⟩:=List.getElem?_eq_some_iff.1 hq
  have hmem:=a2 _ (List.getElem_mem hi)
  have hp:todo.Perm (todo[ix] :: todo.eraseIdx ix):=eraseIdx_perm todo ix hi
  have hlen:(todo.eraseIdx ix).length+1=todo.length:=by rw [List.length_eraseIdx_of_lt hi]; omega
  have hsome:(mget fs todo[ix]).isSome=true:=by
   obtain ⟨p,hp,e⟩:=List.mem_map.1 hmem
   cases hm:mget fs todo[ix] with
   | some x=>rfl
   | none=>exact absurd e (mget_none.1 hm p hp)
  refine ⟨hsome,fun ht=>⟨by simp; omega,⟨?_,by simp; omega,fun k hk=>a2 k (List.mem_of_mem_eraseIdx hk)⟩,by (try dsimp only); omega⟩,fun ht=>⟨⟨?_,by omega,fun k hk=>a2 k (List.mem_of_mem_eraseIdx hk)⟩,by (try dsimp only); omega⟩⟩
  ·have ht':ju fs todo[ix]=true:=ht
   refine List.Perm.trans ?_ a0
   rw [List.append_assoc]
   refine List.Perm.append_left l ?_
   refine List.Perm.trans ?_ (hp.filter _).symm
   rw [List.filter_cons,if_pos ht']
   rfl
  ·have ht':ju fs todo[ix]=false:=ht
   refine List.Perm.trans (List.Perm.append_left l ?_) a0
   refine List.Perm.trans ?_ (hp.filter _).symm
   rw [List.filter_cons,if_neg (by rw [ht']; simp)]
theorem count_M {fs:DF} {ops left:Int} {down:Bool} {K:Int->Prop} (hf:fs.length<=1000000) (h:K ((kV fs).length:Int)):kZ fs ops left down K:=paths_M hf h
theorem pathsP_len (fs:DF):(kV fs).length<=fs.length:=by
 unfold kV sortB
 rw [List.length_mergeSort]
 exact Nat.le_trans (List.length_filter_le _ _) (by simp)
theorem dread_M {fs:DF} {ops left:Int} {down:Bool} {p:List UInt8} {K:List UInt8->Bool->Er->DF->Int->Int->Bool->Prop} (hp:p.length<=maxLen) (h0:0<=ops) (h1:ops<=1000000000) (hl:left<=1000000000)
  (h:∀ o l d,(∀ e,jW ops left down=(e,o,l,d)->e≠.ok->K [] false e fs o l d)/\(jW ops left down=(.ok,o,l,d)->ju fs p=true->K (fil fs p).1 true .ok fs o l d)/\(jW ops left down=(.ok,o,l,d)->ju fs p=false->K [] false .ok fs o l d)):jU fs ops left down p K:=by
 refine call_M h0 h1 hl ?_
 rcases hc:jW ops left down with ⟨e,o,l,d⟩
 obtain ⟨k1,k2,k3⟩:=h o l d
 by_cases he:e=.ok
 ·subst he
  refine ⟨fun b=>b = !ju fs p,⟨fun hn=>by simp at hn,fun _=>dthere_M hp rfl⟩,fun q hq=>⟨fun ht=>k3 hc (by rw [hq] at ht; simpa using ht),fun hf=>?_⟩⟩
  have ht:ju fs p=true:=by rw [hq] at hf; simpa using hf
  exact ⟨hp,there_some ht,k2 hc ht⟩
 ·refine ⟨fun b=>b=true,⟨fun _=>rfl,fun hn=>absurd (by simpa using hn) he⟩,fun q hq=>⟨fun _=>k1 e hc he,fun hf=>(by rw [hq] at hf; cases hf)⟩⟩
def dlay (fs:DF) (p text:List UInt8) (kind:Int):Er × DF :=
 let t:=if kind=1/\ju fs p=true then (fil fs p).1++text else text
 if jY p=false∨65536<t.length then (.e 11,fs)
 else if ju fs p=false/\2000<=(kV fs).length then (.e 9,fs)
 else (.ok,mput fs p (t,true,(fil fs p).2.2.1,(fil fs p).2.2.2.1,(fil fs p).2.2.2.2++[(kind,text)]))
theorem put_M {fs:DF} {ops left:Int} {down:Bool} {p text:List UInt8} {kind:Int} {K:Er->DF->Int->Int->Bool->Prop} (hp:p.length<=1000000) (h0:0<=ops) (h1:ops<=1000000000) (hl:left<=1000000000) (hf:fs.length<=1000000) (ht:text.length<=1000000) (hx:(fil fs p).1.length<=1000000) (hs:(fil fs p).2.2.2.2.length<=1000000)
  (h:∀ o l d,(∀ e,jW ops left down=(e,o,l,d)->e≠.ok->K e fs o l d)/\(jW ops left down=(.ok,o,l,d)->K (dlay fs p text kind).1 (dlay fs p text kind).2 o l d)):j0 fs ops left down p text kind text K:=by
 refine call_M h0 h1 hl ?_
 rcases hc:jW ops left down with ⟨e,o,l,d⟩
 obtain ⟨k1,k2⟩:=h o l d
 refine ⟨fun hne=>k1 e hc hne,fun he=>?_⟩
 dsimp only at he
 subst he
 have k2:=k2 hc
 have hpm:p.length<=maxLen:=by unfold maxLen; omega
 refine ⟨fun t=>t=(if kind=1/\ju fs p=true then (fil fs p).1++text else text),⟨fun b=>b=(decide (kind=1) && ju fs p),⟨fun hk=>dthere_M hpm (by rw [hk]; rfl),fun hk=>by rw [hk]; rfl⟩,fun q hq=>⟨fun hq1=>?_,fun hq0=>?_⟩⟩,fun t hte=>?_⟩
 ·rw [hq,Bool.and_eq_true,decide_eq_true_eq] at hq1
  refine ⟨hpm,there_some hq1.2,?_,?_⟩
  ·show (fil fs p).1.length+_<=_; omega
  ·rw [if_pos hq1]; rfl
 ·rw [hq] at hq0
  have:¬ (kind=1/\ju fs p=true):=fun ⟨a,b⟩=>by rw [b,decide_eq_true a] at hq0; cases hq0
  rw [if_neg this]
 ·have htl:t.length<=2000000:=by
   rw [hte]; split
   ·rw [List.length_append]; omega
   ·omega
  unfold dlay at k2
  simp only [<-hte] at k2
  refine valid_M (by omega) ⟨fun hb=>?_,fun hb=>dthere_M hpm ?_⟩
  ·rw [Bool.or_eq_true,Bool.not_eq_true',decide_eq_true_eq] at hb
   have:jY p=false∨65536<t.length:=hb.imp id fun h=>by omega
   rw [if_pos this] at k2
   exact k2
  ·rw [Bool.or_eq_false_iff,Bool.not_eq_false',decide_eq_false_iff_not] at hb
   have:¬ (jY p=false∨65536<t.length):=fun h=>h.elim (fun h=>by rw [hb.1] at h; cases h) (fun h=>by omega)
   rw [if_neg this] at k2
   refine ⟨fun b=>b=(!ju fs p && decide (2000<=(kV fs).length)),⟨fun hn=>count_M hf ?_,fun hn=>by rw [hn]; rfl⟩,fun q hq=>⟨fun hq1=>?_,fun hq0=>?_⟩⟩
   ·rw [hn,Bool.true_and]
    apply Bool.eq_iff_iff.2
    simp only [decide_eq_true_eq]; omega
   ·rw [hq,Bool.and_eq_true,Bool.not_eq_true',decide_eq_true_eq] at hq1
    rw [if_pos hq1] at k2
    exact k2
   ·rw [hq] at hq0
    have:¬ (ju fs p=false/\2000<=(kV fs).length):=fun ⟨a,b⟩=>by rw [a,decide_eq_true b] at hq0; cases hq0
    rw [if_neg this] at k2
    refine known_M hpm (by unfold maxLen; omega) fun fs' g1 g2 g3=>⟨g2,?_,?_⟩
    ·have:((mget fs' p).getD ([],false,[],false,[])).2.2.2.2=(fil fs p).2.2.2.2:=by rw [<-g3]; rfl
     rw [this]; simp; omega
    ·have e:(mget fs' p).getD ([],false,[],false,[])=fil fs p:=g3
     rw [e,g1]
     exact k2
def dsync (fs:DF) (p:List UInt8):Er × DF :=
 if jY p=false then (.e 11,fs) else (.ok,if (mget fs p).isSome=true then mput fs p ((fil fs p).1,(fil fs p).2.1,(fil fs p).1,(fil fs p).2.1,[]) else fs)
theorem sync_M {fs:DF} {ops left:Int} {down:Bool} {p:List UInt8} {K:Er->DF->Int->Int->Bool->Prop} (hp:p.length<=1000000) (h0:0<=ops) (h1:ops<=1000000000) (hl:left<=1000000000)
  (h:∀ o l d,(∀ e,jW ops left down=(e,o,l,d)->e≠.ok->K e fs o l d)/\(jW ops left down=(.ok,o,l,d)->K (dsync fs p).1 (dsync fs p).2 o l d)):jV fs ops left down p K:=by
 refine call_M h0 h1 hl ?_
 rcases hc:jW ops left down with ⟨e,o,l,d⟩
 obtain ⟨k1,k2⟩:=h o l d
 refine ⟨fun hne=>k1 e hc hne,fun he=>?_⟩
 dsimp only at he
 subst he
 have k2:=k2 hc
 have hpm:p.length<=maxLen:=by unfold maxLen; omega
 unfold dsync at k2
 refine valid_M (by omega) ⟨fun hb=>?_,fun hb=>?_⟩
 ·have:jY p=false:=by simpa using hb
  rw [if_pos this] at k2
  exact k2
 ·have:¬ jY p=false:=by simpa using hb
  rw [if_neg this] at k2
  exact ⟨fun f=>f=(if (mget fs p).isSome=true then mput fs p ((fil fs p).1,(fil fs p).2.1,(fil fs p).1,(fil fs p).2.1,[]) else fs),⟨hpm,fun ht=>fun _=>by rw [if_pos ht]; rfl,fun ht=>by rw [if_neg (by rw [ht]; simp)]⟩,fun f hf=>by rw [hf]; exact k2⟩
theorem pathsP_mem {fs:DF} {k:List UInt8}:k∈kV fs↔ju fs k=true:=by
 unfold kV
 rw [sortB_mem,List.mem_filter,List.mem_map]
 refine ⟨fun h=>h.2,fun h=>⟨?_,h⟩⟩
 have:=there_some h
 obtain ⟨x,hx⟩:=Option.isSome_iff_exists.1 this
 have:∀ (m:DF),mget m k=some x->(k,x)∈m:=fun m=>by
  induction m with
  | nil=>intro h; simp [mget] at h
  | cons p m ih =>
   intro h
   unfold mget at h
   split at h
   ·rename_i e; simp only [Option.some.injEq] at h; rw [<-h,<-e]; simp
   ·exact List.mem_cons_of_mem _ (ih h)
 exact ⟨_,this fs hx,rfl⟩
theorem dump_M {fs:DF} {ops left:Int} {down:Bool} {K:List (List UInt8 × List UInt8)->Prop} (hf:fs.length<=1000000) (hk:∀ k,ju fs k=true->k.length<=maxLen) (h:K ((kV fs).map fun k=>(k,(fil fs k).1))):kG fs ops left down K:=by
 refine paths_M hf ?_
 have hlen:=pathsP_len fs
 refine ⟨fun l i=>0<=i/\i<=(kV fs).length/\l=((kV fs).take i.toNat).map fun k=>(k,(fil fs k).1),fun _ i=>(kV fs).length - i.toNat,⟨by omega,by omega,by simp⟩,fun l i ⟨a0,a1,a2⟩=>⟨fun hlt=>?_,fun hge=>?_⟩⟩
 ·have hi:i.toNat<(kV fs).length:=by omega
  have e:(kV fs).getD i.toNat []=(kV fs)[i.toNat]:=by simp [List.getD,hi]
  have hm:ju fs (kV fs)[i.toNat]=true:=pathsP_mem.1 (List.getElem_mem hi)
  rw [e]
  refine ⟨⟨a0,hlt⟩,hk _ hm,there_some hm,by rw [a2]; simp; omega,by simp only [In]; omega,⟨by omega,by omega,?_⟩,by (try dsimp only); omega⟩
  rw [show (i+1).toNat=i.toNat+1 by omega,List.take_succ_eq_append_getElem hi,List.map_append,a2]
  rfl
 ·obtain rfl:i=(kV fs).length:=by omega
  rw [a2]
  simpa using h
end
 
section
open Go Go.RowKit
section
variable {fs:DF} {ops:Int} {p text:List UInt8} {kind:Int}
theorem put0_M {K:Er->DF->Int->Int->Bool->Prop} (hp:p.length<=1000000) (h0:0<=ops) (h1:ops<=1000000000) (hf:fs.length<=1000000) (ht:text.length<=1000000) (hx:(fil fs p).1.length<=1000000) (hs:(fil fs p).2.2.2.2.length<=1000000) (h:K (dlay fs p text kind).1 (dlay fs p text kind).2 (ops+1) 0 false):j0 fs ops 0 false p text kind text K :=
 put_M hp h0 h1 (by omega) hf ht hx hs fun o l d=>⟨fun e he hne=>by
  simp only [jW,Bool.false_eq_true,if_false,Int.lt_irrefl,Prod.mk.injEq] at he
  exact absurd he.1.symm hne,fun he=>by
  simp only [jW,Bool.false_eq_true,if_false,Int.lt_irrefl,Prod.mk.injEq,true_and] at he
  obtain ⟨rfl,rfl,rfl⟩:=he
  exact h⟩
theorem sync0_M {K:Er->DF->Int->Int->Bool->Prop} (hp:p.length<=1000000) (h0:0<=ops) (h1:ops<=1000000000) (h:K (dsync fs p).1 (dsync fs p).2 (ops+1) 0 false):jV fs ops 0 false p K :=
 sync_M hp h0 h1 (by omega) fun o l d=>⟨fun e he hne=>by
  simp only [jW,Bool.false_eq_true,if_false,Int.lt_irrefl,Prod.mk.injEq] at he
  exact absurd he.1.symm hne,fun he=>by
  simp only [jW,Bool.false_eq_true,if_false,Int.lt_irrefl,Prod.mk.injEq,true_and] at he
  obtain ⟨rfl,rfl,rfl⟩:=he
  exact h⟩
def kE (fs:DF) (p:List UInt8):List UInt8:=if ju fs p=true then (fil fs p).1 else []
theorem dreadC_M {left:Int} {down:Bool} {K:List UInt8->Bool->Er->DF->Int->Int->Bool->Prop} (hp:p.length<=maxLen) (h0:0<=ops) (h1:ops<=1000000000) (hl:left<=1000000000)
  (h:K (if (jW ops left down).1=.ok then kE fs p else []) (decide ((jW ops left down).1=.ok) && ju fs p) (jW ops left down).1 fs (jW ops left down).2.1 (jW ops left down).2.2.1 (jW ops left down).2.2.2):jU fs ops left down p K:=by
 refine dread_M hp h0 h1 hl fun o l d=>⟨fun e he hne=>?_,fun he ht=>?_,fun he ht=>?_⟩
 ·rw [he] at h
  simpa [hne] using h
 ·rw [he] at h
  simpa [kE,ht] using h
 ·rw [he] at h
  simpa [kE,ht] using h
theorem dread0_M {K:List UInt8->Bool->Er->DF->Int->Int->Bool->Prop} (hp:p.length<=maxLen) (h0:0<=ops) (h1:ops<=1000000000) (h:K (kE fs p) (ju fs p) .ok fs (ops+1) 0 false):jU fs ops 0 false p K :=
 dreadC_M hp h0 h1 (by omega) (by simpa [jW] using h)
theorem dlay_ok (hv:jY p=true) (hf:fs.length<2000) (ht:(if kind=1/\ju fs p=true then (fil fs p).1++text else text).length<=65536) :
  dlay fs p text kind=(.ok,mput fs p (if kind=1/\ju fs p=true then (fil fs p).1++text else text,true,(fil fs p).2.2.1,(fil fs p).2.2.2.1,(fil fs p).2.2.2.2++[(kind,text)])):=by
 have:=pathsP_len fs
 unfold dlay
 rw [if_neg (fun h=>h.elim (fun h=>by rw [hv] at h; cases h) (fun h=>by omega)),if_neg (by rintro ⟨_,h⟩; omega)]
end
def appC (c:Int × List UInt8) (t:List UInt8):List UInt8 × Bool:=if c.1=0 then (c.2,true) else if c.1=1 then (t++c.2,true) else ([],false)
def cutN (c:Int × List UInt8) (cut:Int):Int:=if (c.2.length:Int) - 1<cut then (c.2.length:Int) - 1 else cut
def riseP (cut:Int):Nat->List (Int × List UInt8)->List UInt8->Bool->List UInt8 × Bool
 | _,[],t,b=>(t,b)
 | 0,c :: _,t,b=>if c.1=1/\0<cutN c cut then (t++c.2.take (cutN c cut).toNat,true) else (t,b)
 | k+1,c :: l,t,_=>riseP cut k l (appC c t).1 (appC c t).2
theorem frise_M {text synced:List UInt8} {is was:Bool} {since:List (Int × List UInt8)} {keep cut:Int} {K:List UInt8->Bool->List UInt8->Bool->List (Int × List UInt8)->Prop} (hk:0<=keep) (hs:synced.length<=1000000) (hn:since.length<=1000000) (hc:∀ c∈since,c.2.length<=1000000)
  (h:K (riseP cut keep.toNat since synced was).1 (riseP cut keep.toNat since synced was).2 synced was since):Zj text is synced was since keep cut K:=by
 intro _
 refine ⟨fun i t b=>0<=i/\i<=since.length/\i<=keep/\riseP cut (keep - i).toNat (since.drop i.toNat) t b=riseP cut keep.toNat since synced was/\t.length<=1000000*(i.toNat+1),fun i _ _=>since.length - i.toNat,⟨by omega,by omega,hk,by simp,by simpa using hs⟩,fun i t b ⟨a0,a1,a2,a3,a4⟩=>⟨fun hlt=>?_,fun hge=>?_⟩⟩
 ·have hi:i.toNat<since.length:=by omega
  have e:since.getD i.toNat (0,[])=since[i.toNat]:=by simp [List.getD,hi]
  have hc':=hc _ (List.getElem_mem hi)
  rw [List.drop_eq_getElem_cons hi] at a3
  rw [e]
  generalize since[i.toNat]=c at a3 hc' |-
  refine ⟨fun t' b'=>(t',b')=appC c t/\i<keep,⟨⟨a0,hlt⟩,fun hke=>?_,fun hnk=>?_⟩,fun t' b' ⟨g1,g2⟩=>⟨by simp only [In]; omega,⟨by omega,by omega,by omega,?_,?_⟩,by (try dsimp only); omega⟩⟩
  ·have hik:i=keep:=by omega
   rw [show (keep - i).toNat=0 by omega] at a3
   have hcn:(if (c.2.length:Int) - 1<cut then (c.2.length:Int) - 1 else cut)=cutN c cut:=rfl
   rw [hcn]
   have hcl:cutN c cut<=(c.2.length:Int) - 1:=by unfold cutN; split <;> omega
   refine ⟨fun t' b'=>(t',b')=riseP cut keep.toNat since synced was,⟨by simp only [In]; omega,fun hb=>?_,fun hb=>?_⟩,fun t' b' hr=>?_⟩
   ·rw [Bool.and_eq_true,decide_eq_true_eq,decide_eq_true_eq] at hb
    refine ⟨⟨by omega,by omega⟩,by rw [List.length_take]; omega,?_⟩
    rw [<-a3]; unfold riseP; rw [if_pos hb]
   ·have:¬ (c.1=1/\0<cutN c cut):=fun ⟨g1,g2⟩=>by rw [decide_eq_true g1,decide_eq_true g2] at hb; cases hb
    rw [<-a3]; unfold riseP; rw [if_neg this]
   ·rw [<-hr] at h
    exact h
  ·have hik:i<keep:=by omega
   refine ⟨fun h0=>⟨by unfold appC; rw [if_pos h0],hik⟩,fun h0=>⟨fun h1=>⟨by omega,by unfold appC; rw [if_neg h0,if_pos h1],hik⟩,fun h1=>⟨by unfold appC; rw [if_neg h0,if_neg h1],hik⟩⟩⟩
  ·rw [show (keep - i).toNat=(keep - (i+1)).toNat+1 by omega] at a3
   rw [show (i+1).toNat=i.toNat+1 by omega,<-a3]
   show _=riseP cut _ _ (appC c t).1 (appC c t).2
   rw [<-g1]
  ·have:t'=(appC c t).1:=by rw [<-g1]
   rw [this]
   unfold appC
   split
   ·show c.2.length<=_; omega
   ·split
    ·show (t++c.2).length<=_; rw [List.length_append]; omega
    ·show ([]:List UInt8).length<=_; simp
 ·obtain rfl:i=since.length:=by omega
  have:since.drop ((since.length:Int).toNat)=[]:=by simp
  rw [this] at a3
  have e2:∀ k,riseP cut k [] t b=(t,b):=fun k=>by cases k <;> rfl
  rw [e2] at a3
  rw [<-a3] at h
  exact h
def kD (cut:Int):List (List UInt8)->Int->DF->DF
 | [],_,fs=>fs
 | k :: ks,keep,fs =>
  if (fil fs k).2.2.2.2=[] then kD cut ks keep (mput fs k ((fil fs k).1,(fil fs k).2.1,(fil fs k).1,(fil fs k).2.1,[]))
  else kD cut ks (keep / 4) (mput fs k ((riseP cut (keep % 4).toNat (fil fs k).2.2.2.2 (fil fs k).2.2.1 (fil fs k).2.2.2.1).1,(riseP cut (keep % 4).toNat (fil fs k).2.2.2.2 (fil fs k).2.2.1 (fil fs k).2.2.2.1).2,(riseP cut (keep % 4).toNat (fil fs k).2.2.2.2 (fil fs k).2.2.1 (fil fs k).2.2.2.1).1,(riseP cut (keep % 4).toNat (fil fs k).2.2.2.2 (fil fs k).2.2.1 (fil fs k).2.2.2.1).2,[]))
theorem riseAll_cons (cut:Int) (k:List UInt8) (ks:List (List UInt8)) (keep:Int) (fs:DF):kD cut (k :: ks) keep fs =
 (if (fil fs k).2.2.2.2=[] then kD cut ks keep (mput fs k ((fil fs k).1,(fil fs k).2.1,(fil fs k).1,(fil fs k).2.1,[]))
  else kD cut ks (keep / 4) (mput fs k ((riseP cut (keep % 4).toNat (fil fs k).2.2.2.2 (fil fs k).2.2.1 (fil fs k).2.2.2.1).1,(riseP cut (keep % 4).toNat (fil fs k).2.2.2.2 (fil fs k).2.2.1 (fil fs k).2.2.2.1).2,(riseP cut (keep % 4).toNat (fil fs k).2.2.2.2 (fil fs k).2.2.1 (fil fs k).2.2.2.1).1,(riseP cut (keep % 4).toNat (fil fs k).2.2.2.2 (fil fs k).2.2.1 (fil fs k).2.2.2.1).2,[]))):=rfl
def SmallF (x:Fil):Prop:=x.2.2.1.length<=1000000/\x.2.2.2.2.length<=1000000/\∀ c∈x.2.2.2.2,c.2.length<=1000000
def max0 (n:Int):Int:=if n<0 then 0 else n
theorem mget_put_some {fs:DF} {k q:List UInt8} {x:Fil} (h:(mget fs q).isSome=true):(mget (mput fs k x) q).isSome=true:=by
 rw [Zv]; split
 ·rfl
 ·exact h
theorem rise_M {fs:DF} {ops left:Int} {down:Bool} {keep cut:Int} {K:DF->Int->Int->Bool->Prop} (hf:fs.length<=1000000) (hkl:∀ p∈fs,p.1.length<=maxLen) (hk:In .i64 keep) (hS:∀ k,SmallF (fil fs k)) (h:if down=true then K (kD (max0 cut) (sortB (fs.map (·.1))) (max0 keep) fs) ops 0 false else K fs ops left down):kH fs ops left down keep cut K:=by
 refine ⟨fun hd=>?_,fun hd=>⟨by omega,?_⟩⟩
 ·have:down=false:=by simpa using hd
  subst this
  simpa using h
 ·have:down=true:=by simpa using hd
  subst this
  rw [if_pos rfl] at h
  show Lp3 _ (max0 keep) 0 fs
  have hsort:((fs.map (·.1)).mergeSort fun x y=>decide (x<=y))=sortB (fs.map (·.1)):=rfl
  rw [hsort]
  have hks:∀ k∈sortB (fs.map (·.1)),(mget fs k).isSome=true/\k.length<=maxLen:=fun k hk=>by
   obtain ⟨p,hp,rfl⟩:=List.mem_map.1 ((sortB_mem _ _).1 hk)
   refine ⟨?_,hkl p hp⟩
   cases hm:mget fs p.1 with
   | some x=>rfl
   | none=>exact absurd rfl (mget_none.1 hm p hp)
  have hlen:(sortB (fs.map (·.1))).length<=1000000:=by unfold sortB; rw [List.length_mergeSort,List.length_map]; exact hf
  generalize sortB (fs.map (·.1))=ks at h hks hlen |-
  have hk63:keep<9223372036854775808:=by simp only [In] at hk; omega
  refine ⟨fun kp i d=>0<=i/\i<=ks.length/\0<=kp/\kp<9223372036854775808/\kD (max0 cut) (ks.drop i.toNat) kp d=kD (max0 cut) ks (max0 keep) fs/\(∀ k∈ks,(mget d k).isSome=true)/\∀ k,SmallF (fil d k)∨(fil d k).2.2.2.2=[],fun _ i _=>ks.length - i.toNat,
   ⟨by omega,by omega,by unfold max0; split <;> omega,by unfold max0; split <;> omega,by simp,fun k hk=>(hks k hk).1,fun k=>.inl (hS k)⟩,fun kp i d ⟨a0,a1,a2,a3,a4,a5,a6⟩=>⟨fun hlt=>?_,fun hge=>?_⟩⟩
  ·have hi:i.toNat<ks.length:=by omega
   have e:ks.getD i.toNat []=ks[i.toNat]:=by simp [List.getD,hi]
   have hm:=hks _ (List.getElem_mem hi)
   have hsm:=a5 _ (List.getElem_mem hi)
   have hmem:=List.getElem_mem hi
   rw [List.drop_eq_getElem_cons hi] at a4
   rw [e]
   generalize ks[i.toNat]=k at a4 hm hsm hmem |-
   have hz:(mget d k).getD ([],false,[],false,[])=fil d k:=rfl
   rw [riseAll_cons] at a4
   rw [hz]
   refine ⟨⟨a0,hlt⟩,hm.2,fun kp' d'=>0<=kp'/\kp'<9223372036854775808/\(mget d' k).isSome=true/\(∀ q∈ks,(mget d' q).isSome=true)/\(∀ q,q≠k->fil d' q=fil d q)/\kD (max0 cut) (ks.drop (i.toNat+1)) kp' (mput d' k ((fil d' k).1,(fil d' k).2.1,(fil d' k).1,(fil d' k).2.1,[]))=kD (max0 cut) ks (max0 keep) fs,⟨hsm,fun hpos=>⟨⟨a2,by omega⟩,?_⟩,fun hz0=>?_⟩,fun kp' d' ⟨b0,b1,b2,b3,b4,b5⟩=>⟨b2,fun _=>⟨by simp only [In]; omega,⟨by omega,by omega,b0,b1,?_,?_,?_⟩,by (try dsimp only); omega⟩⟩⟩
   ·have hne:(fil d k).2.2.2.2≠[]:=fun e=>by rw [e] at hpos; simp at hpos
    rw [if_neg hne] at a4
    have hsmall:SmallF (fil d k):=(a6 k).resolve_right hne
    refine frise_M (by omega) hsmall.1 hsmall.2.1 hsmall.2.2 ⟨⟨a2,by omega,by simp only [In]; omega⟩,by omega,by omega,by rw [mget_same]; rfl,fun q hq=>mget_put_some (a5 q hq),fun q hq=>by rw [fil_put,if_neg (fun e=>hq e.symm)],?_⟩
    rw [mput_mput,fil_put,if_pos rfl]
    exact a4
   ·have h0:(fil d k).2.2.2.2=[]:=List.eq_nil_of_length_eq_zero (by omega)
    rw [if_pos h0] at a4
    exact ⟨a2,a3,hsm,a5,fun _ _=>rfl,a4⟩
   ·rw [show (i+1).toNat=i.toNat+1 by omega]
    exact b5
   ·exact fun q hq=>mget_put_some (b3 q hq)
   ·intro q
    rw [fil_put]
    split
    ·exact .inr rfl
    ·rename_i hq
     rw [b4 q (fun e=>hq e.symm)]
     exact a6 q
  ·obtain rfl:i=ks.length:=by omega
   have:ks.drop ((ks.length:Int).toNat)=[]:=by simp
   rw [this] at a4
   have a4':d=kD (max0 cut) ks (max0 keep) fs:=a4
   rw [<-a4'] at h
   exact h
end
 
section
open Go Go.RowKit
abbrev Ch:=Bool × List UInt8 × Int
def ChgR:List UInt8->List (Int × List UInt8)->List Ch->List UInt8->Prop
 | t0,[],[],t=>t=t0
 | t0,c :: s,r :: q,t=>(c.1=1/\r=(true,t0++c.2,(c.2.length:Int))∨c.1=0/\r=(true,c.2,-1))/\ChgR r.2.1 s q t
 | _,_,_,_=>False
theorem ChgR.len:∀ {t0 s q t},ChgR t0 s q t->s.length=q.length
 | _,[],[],_,_=>rfl
 | _,c :: s,r :: q,_,h=>by rw [List.length_cons,List.length_cons,ChgR.len h.2]
 | _,[],_ :: _,_,h=>h.elim
 | _,_ :: _,[],_,h=>h.elim
theorem ChgR.snoc {x:Int × List UInt8} {y:Ch}:∀ {t0 s q t},ChgR t0 s q t->(x.1=1/\y=(true,t++x.2,(x.2.length:Int))∨x.1=0/\y=(true,x.2,-1))->ChgR t0 (s++[x]) (q++[y]) y.2.1
 | _,[],[],t,h,hx=>by
  have h:t=_:=h
  subst h
  exact ⟨hx,rfl⟩
 | _,c :: s,r :: q,_,h,hx=>⟨h.1,ChgR.snoc h.2 hx⟩
 | _,[],_ :: _,_,h,_=>h.elim
 | _,_ :: _,[],_,h,_=>h.elim
theorem take_behind (a b:List UInt8) {n:Int} (h:0<=n):(a++b).take (((a++b).length:Int) - (b.length:Int)+n).toNat=a++b.take n.toNat:=by
 rw [show (((a++b).length:Int) - (b.length:Int)+n).toNat=a.length+n.toNat by rw [List.length_append]; omega,List.take_append,List.take_of_length_le (Nat.le_add_right _ _),Nat.add_sub_cancel_left]
def rrB (t0:List UInt8) (q:List Ch) (n:Nat):List UInt8:=if 0<n then (q.getD (n - 1) (false,[],0)).2.1 else t0
def rrC (cut:Int) (q:List Ch) (n:Nat) (b:List UInt8):List UInt8 :=
 if n<q.length/\1<=(q.getD n (false,[],0)).2.2/\0<(if cut<(q.getD n (false,[],0)).2.2 - 1 then cut else (q.getD n (false,[],0)).2.2 - 1) then
  (q.getD n (false,[],0)).2.1.take (((q.getD n (false,[],0)).2.1.length:Int) - (q.getD n (false,[],0)).2.2+(if cut<(q.getD n (false,[],0)).2.2 - 1 then cut else (q.getD n (false,[],0)).2.2 - 1)).toNat
 else b
theorem rise_one (cut:Int):∀ (k:Nat) {t0 s q t},ChgR t0 s q t->riseP cut k s t0 true=(rrC cut q (min k q.length) (rrB t0 q (min k q.length)),true)
 | k,t0,[],[],t,h=>by cases k <;> simp [riseP,rrC,rrB]
 | 0,t0,c :: s,r :: q,t,h=>by
  rw [Nat.zero_min]
  unfold riseP rrC rrB cutN
  simp only [List.getD_cons_zero,List.length_cons,Nat.zero_lt_succ,true_and,Nat.lt_irrefl,if_false]
  rcases h.1 with ⟨h1,h2⟩ | ⟨h1,h2⟩
  ·rw [h2]
   dsimp only
   rw [show (if (c.2.length:Int) - 1<cut then (c.2.length:Int) - 1 else cut)=(if cut<(c.2.length:Int) - 1 then cut else (c.2.length:Int) - 1) by split <;> split <;> omega]
   generalize hm:(if cut<(c.2.length:Int) - 1 then cut else (c.2.length:Int) - 1)=m
   have hm1:m<=(c.2.length:Int) - 1:=by rw [<-hm]; split <;> omega
   by_cases hp:0<m
   ·rw [if_pos ⟨h1,hp⟩,if_pos ⟨by omega,hp⟩,take_behind _ _ (by omega)]
   ·rw [if_neg (by omega),if_neg (by omega)]
  ·rw [h2]
   rw [if_neg (by rintro ⟨g,_⟩; omega),if_neg (by rintro ⟨g,_⟩; dsimp only at g; omega)]
 | k+1,t0,c :: s,r :: q,t,h=>by
  have ih:=rise_one cut k h.2
  have hr:r.2.1=(appC c t0).1/\(appC c t0).2=true:=by
   unfold appC
   rcases h.1 with ⟨h1,h2⟩ | ⟨h1,h2⟩
   ·rw [h2,if_neg (by omega),if_pos h1]; exact ⟨rfl,rfl⟩
   ·rw [h2,if_pos h1]; exact ⟨rfl,rfl⟩
  show riseP cut k s (appC c t0).1 (appC c t0).2=_
  rw [hr.2,<-hr.1,ih,List.length_cons,Nat.succ_min_succ]
  congr 1
  unfold rrC
  simp only [List.getD_cons_succ,List.length_cons,Nat.succ_lt_succ_iff]
  have:rrB r.2.1 q (min k q.length)=rrB t0 (r :: q) (min k q.length+1):=by
   unfold rrB
   rw [if_pos (Nat.succ_pos _)]
   cases hm:min k q.length with
   | zero=>simp
   | succ j=>simp
  rw [this]
 | _,_,[],_ :: _,_,h=>h.elim
 | _,_,_ :: _,[],_,h=>h.elim
end
 section
open Go Go.RowKit
attribute [local irreducible] WL WC WX WQ Yld Fn
theorem u64_and31 (k:Int):bits BinOp.and IntKind.u64 (IntKind.u64.wrap k) 31=k % 32:=by
 show IntKind.u64.wrap ((BitVec.ofInt 64 (IntKind.u64.wrap k) &&& BitVec.ofInt 64 31).toNat:Int)=_
 rw [BitVec.toNat_and]
 have e:(BitVec.ofInt 64 31).toNat=2^5 - 1:=by decide
 rw [e,Nat.and_two_pow_sub_one_eq_mod,BitVec.toNat_ofInt,IntKind.wrap_u64,IntKind.wrap_u64]
 omega
def rotl (x k:Int):Int:=bits .or .u32 (shlV .u32 x (k % 32).toNat) (shrV .u32 x (32 - k % 32).toNat)
theorem rot_fn (x k:Int) (w:World):Fn Tryz.prog 144 ⟨[vu x,vi k]⟩ w fun v w'=>v=vu (rotl x k)/\w'=w:=by
 have hs:=u64_and31 k
 refine Fn.enter (by kernel_rfl) Tryz.func144 rfl Tryz.ntmps144 rfl ?_
 repeat (first | refine zd ?_ | refine zb ?_ | refine zf ?_ | refine za ?_ | refine zq ?_ | refine zg rfl (Yld.sub rfl rfl (by simp only [In]; omega)) ?_ | refine zg rfl (zG rfl rfl (by omega)) ?_ | refine zg rfl (zA rfl rfl (by omega)) ?_ | refine zg rfl (zc qY rfl) ?_)
 rw [hs]
 skip
 exact zw rfl rfl ⟨rfl,rfl⟩
def rotr (x n:Int):Int:=rotl x (0 - n)
theorem right_fn (x n:Int) (w:World) (h0:0<=n) (h1:n<=32):Fn Tryz.prog 122 ⟨[vu x,vi n]⟩ w fun v w'=>v=vu (rotr x n)/\w'=w:=by
 have hs:IntKind.i64.wrap (0 - n)=0 - n:=In.wrap (by simp only [In]; omega)
 refine Fn.enter (by kernel_rfl) Tryz.func122 rfl Tryz.ntmps122 rfl ?_
 repeat (first | refine zd ?_ | refine zb ?_ | refine zf ?_ | refine za ?_ | refine zg rfl (zc qY rfl) ?_)
 rw [hs]
 refine WL.call rfl rfl (rot_fn x (0 - n) w) ?_
 rintro v w' ⟨rfl,rfl⟩
 repeat (first | refine zf ?_ | refine za ?_ | refine zq ?_ | refine zg rfl (zc qY rfl) ?_)
 exact zw rfl rfl ⟨rfl,rfl⟩
end
 section
open Go Go.RowKit
attribute [local irreducible] WL WC WX WQ Yld Fn
def ktab:List Int:=[0x428a2f98,0x71374491,0xb5c0fbcf,0xe9b5dba5,0x3956c25b,0x59f111f1,0x923f82a4,0xab1c5ed5,
 0xd807aa98,0x12835b01,0x243185be,0x550c7dc3,0x72be5d74,0x80deb1fe,0x9bdc06a7,0xc19bf174,
 0xe49b69c1,0xefbe4786,0x0fc19dc6,0x240ca1cc,0x2de92c6f,0x4a7484aa,0x5cb0a9dc,0x76f988da,
 0x983e5152,0xa831c66d,0xb00327c8,0xbf597fc7,0xc6e00bf3,0xd5a79147,0x06ca6351,0x14292967,
 0x27b70a85,0x2e1b2138,0x4d2c6dfc,0x53380d13,0x650a7354,0x766a0abb,0x81c2c92e,0x92722c85,
 0xa2bfe8a1,0xa81a664b,0xc24b8b70,0xc76c51a3,0xd192e819,0xd6990624,0xf40e3585,0x106aa070,
 0x19a4c116,0x1e376c08,0x2748774c,0x34b0bcb5,0x391c0cb3,0x4ed8aa4a,0x5b9cca4f,0x682e6ff3,
 0x748f82ee,0x78a5636f,0x84c87814,0x8cc70208,0x90befffa,0xa4506ceb,0xbef9a3f7,0xc67178f2]
theorem oneM {α:Type} {f:α->Value} (hf:One f) (xs:List α):∀ u∈xs.map f,u.oneCell'=true:=fun u hu=>by
 obtain ⟨a,_,rfl⟩:=List.mem_map.1 hu
 exact hf a
theorem table_fn (w:World):Fn Tryz.prog 121 ⟨[]⟩ w fun v w'=>v=.agg ⟨ktab.map vu⟩/\w.grownBy w' none:=by
 refine Fn.enter (by kernel_rfl) Tryz.func121 rfl Tryz.ntmps121 rfl ?_
 repeat (first | refine zd ?_ | refine zb ?_)
 refine WL.alloc rfl zero191 (fun g w1 hB hg _=>?_)
 repeat (first | refine zd ?_ | refine zb ?_ | refine zf ?_ | refine za ?_)
 refine zg rfl (Yld.arr (us:=ktab.map vu) qY rfl zero191 rfl rfl (oneM One.u _) rfl) ?_
 refine zP qY rfl rfl rfl (oneM One.u _) hB rfl rfl (fun w2 hB2 hg2=>?_)
 repeat (first | refine zf ?_ | refine za ?_ | refine zq ?_)
 exact qv qY rfl rfl rfl hB2 rfl ⟨rfl,kq hg hg2 (by assumption)⟩
def h0s:List Int:=[0x6a09e667,0xbb67ae85,0x3c6ef372,0xa54ff53a,0x510e527f,0x9b05688c,0x1f83d9ab,0x5be0cd19]
def stc (hs:List Int) (A:Option Addr) (c:Nat) (r:List UInt8) (n:Int):List Value:=hs.map vu++[.slice A r.length c,.int .u64 n]
theorem new_fn (w:World):Fn Tryz.prog 76 ⟨[]⟩ w fun v w'=>∃ g,v=.pointer (some ⟨g,0,none⟩)/\Bl w' g 164 (stc h0s none 0 [] 0)/\w.grownBy w' none/\w.heap.size<=g:=by
 refine Fn.enter (by kernel_rfl) Tryz.func76 rfl Tryz.ntmps76 rfl ?_
 repeat (first | refine zd ?_ | refine zb ?_ | refine zf ?_ | refine za ?_ | refine zg rfl (zc qY rfl) ?_)
 refine zg rfl (Yld.arr (us:=h0s.map vu) qY rfl zero162 rfl rfl (oneM One.u _) rfl) ?_
 refine zg rfl (z6 (us:=stc h0s none 0 [] 0) zero164 places164 rfl rfl) ?_
 refine qm rfl rfl rfl (fun g w1 hB hg hs=>?_)
 repeat (first | refine zf ?_ | refine za ?_ | refine zq ?_ | refine zg rfl (zc qY rfl) ?_)
 exact zw rfl rfl ⟨g,rfl,hB,hg,hs⟩
end
 section
open Go Go.RowKit
attribute [local irreducible] WL WC WX WQ Yld Fn
def wnext (bs:List UInt8) (ws:List Int) (i:Nat):Int :=
 if i<16 then bits .or .u32 (bits .or .u32 (bits .or .u32 (shlV .u32 ((bs.getD (4*i) 0).toNat:Int) 24) (shlV .u32 ((bs.getD (4*i+1) 0).toNat:Int) 16)) (shlV .u32 ((bs.getD (4*i+2) 0).toNat:Int) 8)) ((bs.getD (4*i+3) 0).toNat:Int)
 else
  let x:=ws.getD (i - 15) 0
  let y:=ws.getD (i - 2) 0
  IntKind.u32.wrap (IntKind.u32.wrap (IntKind.u32.wrap (ws.getD (i - 16) 0+ws.getD (i - 7) 0)+bits .xor .u32 (bits .xor .u32 (rotr x 7) (rotr x 18)) (shrV .u32 x 3))+bits .xor .u32 (bits .xor .u32 (rotr y 17) (rotr y 19)) (shrV .u32 y 10))
def wsAt (bs:List UInt8):Nat->List Int
 | 0=>List.replicate 64 0
 | i+1=>(wsAt bs i).set i (wnext bs (wsAt bs i) i)
theorem wsAt_len (bs:List UInt8):∀ i,(wsAt bs i).length=64
 | 0=>rfl
 | i+1=>by rw [wsAt,List.length_set,wsAt_len bs i]
def hnext (ws:List Int) (h:List Int) (i:Nat):List Int :=
 let e:=h.getD 4 0
 let a:=h.getD 0 0
 let one:=IntKind.u32.wrap (IntKind.u32.wrap (IntKind.u32.wrap (IntKind.u32.wrap (h.getD 7 0+bits .xor .u32 (bits .xor .u32 (rotr e 6) (rotr e 11)) (rotr e 25))+bits .xor .u32 (bits .and .u32 e (h.getD 5 0)) (bits .and .u32 (bits .xor .u32 IntKind.u32.max e) (h.getD 6 0)))+ktab.getD i 0)+ws.getD i 0)
 let two:=IntKind.u32.wrap (bits .xor .u32 (bits .xor .u32 (rotr a 2) (rotr a 13)) (rotr a 22)+bits .xor .u32 (bits .xor .u32 (bits .and .u32 a (h.getD 1 0)) (bits .and .u32 a (h.getD 2 0))) (bits .and .u32 (h.getD 1 0) (h.getD 2 0)))
 [IntKind.u32.wrap (one+two),h.getD 0 0,h.getD 1 0,h.getD 2 0,IntKind.u32.wrap (h.getD 3 0+one),h.getD 4 0,h.getD 5 0,h.getD 6 0]
def hAt (ws:List Int) (h:List Int):Nat->List Int
 | 0=>h
 | i+1=>hnext ws (hAt ws h i) i
theorem hAt_len (ws h:List Int) (hh:h.length=8):∀ i,(hAt ws h i).length=8
 | 0=>hh
 | _+1=>rfl
def sumAt (hs h:List Int):Nat->List Int
 | 0=>hs
 | i+1=>(sumAt hs h i).set i (IntKind.u32.wrap ((sumAt hs h i).getD i 0+h.getD i 0))
theorem sumAt_len (hs h:List Int):∀ i,(sumAt hs h i).length=hs.length
 | 0=>rfl
 | i+1=>by rw [sumAt,List.length_set,sumAt_len hs h i]
def mixS (hs:List Int) (bs:List UInt8):List Int:=sumAt hs (hAt (wsAt bs 64) hs 64) 8
theorem mixS_len (hs:List Int) (bs:List UInt8):(mixS hs bs).length=hs.length:=sumAt_len _ _ 8
set_option maxHeartbeats 1000000 in
theorem mix_fn (g:Nat) (hs:List Int) (tl:List Value) (A:Option Addr) (c:Nat) (bs:List UInt8) (w:World) (hh:hs.length=8) (hB:Bl w g 164 (hs.map vu++tl)) (hR:Rd vb w A c bs) (hl:64<=bs.length) :
  Fn Tryz.prog 98 ⟨[.pointer (some ⟨g,0,none⟩),.slice A bs.length c]⟩ w fun v w'=>v=.tuple #[]/\Bl w' g 164 ((mixS hs bs).map vu++tl)/\w.grownBy w' (some g):=by
 have hglt:=hB.lt
 refine Fn.enter (by kernel_rfl) Tryz.func98 rfl Tryz.ntmps98 rfl ?_
 repeat (first | refine zd ?_ | refine zb ?_)
 refine WL.call rfl rfl (table_fn w) ?_
 rintro _ w1 ⟨rfl,hg1⟩
 refine WL.alloc rfl zero191 (fun gk w2 hk2 hg2 hlk=>?_)
 refine zP qY rfl rfl rfl (oneM One.u _) hk2 rfl rfl (fun w3 hk3 hg3=>?_)
 repeat (first | refine zd ?_ | refine zb ?_ | refine zf ?_ | refine za ?_)
 refine WL.alloc rfl zero191 (fun gw w4 hw4 hg4 hlw=>?_)
 repeat (first | refine zd ?_ | refine WC.block ?_ | refine zb ?_ | refine zf ?_ | refine za ?_ | refine zg rfl (zc qY rfl) ?_)
 have hz1:=hg1.size
 have hz2:=hg2.size
 have hz3:=hg3.size
 have hz4:=hg4.size
 have hk4:Bl w4 gk 191 (ktab.map vu):=hk3.keep hg4 (by simp)
 have hkl:=hk3.lt
 have hR4:Rd vb w4 A c bs:=((hR.grown (ja hg1 hg2)).keep hg3 (fun q hq e=>by
  injection hq with hq
  have:=hR.lt (fun e=>by rw [e] at hl; simp at hl) e
  omega)).grown hg4
 have hB4:Bl w4 g 164 (hs.map vu++tl):=((hB.keep (ja hg1 hg2) (by simp)).keep hg3 (fun e=>by injection e with e; omega)).keep hg4 (by simp)
 have hgr4:w.grownBy w4 none:=ja (kq (ja hg1 hg2) hg3 (by omega)) hg4
 clear hk2 hk3 hg1 hg2 hg3 hg4
 refine qG (S:=Nat) (fun i=>64 - i) (fun i=>[(17,vi i),(5,.pointer (some ⟨gw,0,none⟩)),(4,.pointer (some ⟨gk,0,none⟩)),(0,.pointer (some ⟨g,0,none⟩)),(1,.slice A bs.length c)])
  (fun i w'=>i<=64/\Bl w' gw 191 ((wsAt bs i).map vu)/\w4.grownBy w' (some gw)) 0 ⟨by omega,by rw [wsAt,List.map_replicate]; exact hw4,jr _ _⟩ (by repeat (first | exact qb | refine Sub.cons rfl ?_)) (fun i w5 ⟨hi,hw5,hg5⟩=>?_)
 have hlen:=wsAt_len bs i
 have hR5:Rd vb w5 A c bs:=hR4.keep hg5 (fun q hq e=>by
  injection hq with hq
  have:=hR.lt (fun e=>by rw [e] at hl; simp at hl) e
  omega)
 repeat (first | refine zd ?_ | refine zb ?_ | refine zf ?_ | refine za ?_ | refine zg rfl (zc qY rfl) ?_)
 refine zp rfl (fun h=>?_) (fun h=>?_)
 ·simp only [decide_eq_true_eq] at h
  repeat (first | refine zd ?_ | refine WC.block ?_ | refine zb ?_ | refine zf ?_ | refine za ?_ | refine zo ?_ | refine zg rfl (zc qY rfl) ?_)
  refine zp rfl (fun h16=>?_) (fun h16=>?_)
  ·simp only [decide_eq_true_eq] at h16
   repeat (refine zd ?_)
   refine WC.tail 35 mixed (by kernel_rfl) ?_
   repeat (first | refine z7 rfl (Yld.iaddr qY hR5 rfl rfl rfl rfl (by omega) (by omega)) ?_ | refine z7 rfl (zN 0 qY hR5 rfl rfl (by omega)) ?_ | refine z7 rfl (qi qY rfl rfl rfl (by omega) (by omega)) ?_ | refine z7 rfl (Yld.add rfl rfl (by simp only [In]; omega)) ?_ | refine z7 rfl (zE rfl rfl (by simp only [In]; omega)) ?_ | refine z7 rfl (zu qY rfl rfl rfl rfl) ?_ | refine z7 rfl (zG rfl rfl (by omega)) ?_ | refine z7 rfl (zc qY rfl) ?_)
   refine WQ.tail ?_
   refine zR one115 rfl rfl rfl hw5 (by rw [List.length_map]; omega) (fun w6 hw6 hg6=>?_)
   repeat (first | refine zb ?_ | refine zf ?_ | refine za ?_ | refine zD ?_ | refine zj ?_ | refine zm ?_ | refine zg rfl (Yld.add rfl rfl (by simp only [In]; omega)) ?_ | refine zg rfl (zc qY rfl) ?_)
   refine qw (i+1) ⟨by omega,?_,ja hg5 hg6⟩ (by omega) (by repeat (first | exact qb | refine Sub.cons rfl ?_))
   have e0:(4*(i:Int)).toNat=4*i:=by omega
   have e1:(4*(i:Int)+1).toNat=4*i+1:=by omega
   have e2:(4*(i:Int)+2).toNat=4*i+2:=by omega
   have e3:(4*(i:Int)+3).toNat=4*i+3:=by omega
   have ei:0+(i:Int).toNat*1=i:=by omega
   rw [e0,e1,e2,e3,ei] at hw6
   rw [wsAt,List.map_set,wnext,if_pos (by omega)]
   exact hw6
  ·simp only [decide_eq_false_iff_not] at h16
   repeat (first | refine zd ?_ | refine za ?_ | refine zo ?_)
   refine qK mixed (by kernel_rfl) ?_
   repeat (first | refine z7 rfl (qz 0 qY hw5 rfl rfl (by omega)) ?_ | refine z7 rfl (qi qY rfl rfl rfl (by omega) (by omega)) ?_ | refine z7 rfl (Yld.sub rfl rfl (by simp only [In]; omega)) ?_ | refine z7 rfl (zc qY rfl) ?_)
   refine qU ?_
   repeat (refine za ?_)
   refine WC.tail 29 mixed (by kernel_rfl) ?_
   repeat (first | refine z7 rfl (qz 0 qY hw5 rfl rfl (by omega)) ?_ | refine z7 rfl (qi qY rfl rfl rfl (by omega) (by omega)) ?_ | refine WQ.call rfl rfl (right_fn _ _ _ (by omega) (by omega)) ?_ | refine z7 rfl (Yld.sub rfl rfl (by simp only [In]; omega)) ?_ | refine z7 rfl (zA rfl rfl (by omega)) ?_ | refine z7 rfl (zc qY rfl) ?_)
   refine WQ.tail ?_
   refine zR one115 rfl rfl rfl hw5 (by rw [List.length_map]; omega) (fun w6 hw6 hg6=>?_)
   repeat (first | refine zb ?_ | refine zf ?_ | refine za ?_ | refine zi ?_ | refine zg rfl (Yld.add rfl rfl (by simp only [In]; omega)) ?_ | refine zg rfl (zc qY rfl) ?_)
   refine qw (i+1) ⟨by omega,?_,ja hg5 hg6⟩ (by omega) (by repeat (first | exact qb | refine Sub.cons rfl ?_))
   have e0:0+((i:Int) - 16).toNat*1=i - 16:=by omega
   have e1:0+((i:Int) - 7).toNat*1=i - 7:=by omega
   have e2:0+((i:Int) - 15).toNat*1=i - 15:=by omega
   have e3:0+((i:Int) - 2).toNat*1=i - 2:=by omega
   have ei:0+(i:Int).toNat*1=i:=by omega
   rw [e0,e1,e2,e3,ei] at hw6
   rw [wsAt,List.map_set,wnext,if_neg (by omega)]
   exact hw6
 ·simp only [decide_eq_false_iff_not] at h
  obtain rfl:i=64:=by omega
  have hk5:Bl w5 gk 191 (ktab.map vu):=hk4.keep hg5 (fun e=>by injection e with e; omega)
  have hB5:Bl w5 g 164 (hs.map vu++tl):=hB4.keep hg5 (fun e=>by injection e with e; omega)
  have hgr5:w.grownBy w5 none:=kq hgr4 hg5 (by omega)
  have hwl:=hw5.lt
  clear hg5 hw4 hk4 hB4 hR4 hR5 hgr4
  repeat (first | refine zd ?_ | refine zb ?_ | refine za ?_ | refine zD ?_ | refine zj ?_ | refine zm ?_ | refine zg rfl (zc qY rfl) ?_)
  refine zg rfl (zQ (vs:=hs.map vu) qY hB5 rfl rfl (by simp [hh]) (by simp [hh])) ?_
  refine WL.alloc rfl zero162 (fun gh w6 hh6 hg6 hlh=>?_)
  refine zP qY rfl rfl rfl (oneM One.u _) hh6 rfl (by simp [hh]) (fun w7 hh7 hg7=>?_)
  have hz6:=hg6.size
  have hz7:=hg7.size
  have hhl:=hh7.lt
  have hk7:Bl w7 gk 191 (ktab.map vu):=(hk5.keep hg6 (by simp)).keep hg7 (fun e=>by injection e with e; have:=hk5.lt; omega)
  have hw7:Bl w7 gw 191 ((wsAt bs 64).map vu):=(hw5.keep hg6 (by simp)).keep hg7 (fun e=>by injection e with e; omega)
  have hB7:Bl w7 g 164 (hs.map vu++tl):=(hB5.keep hg6 (by simp)).keep hg7 (fun e=>by injection e with e; have:=hB5.lt; omega)
  have hgr7:w.grownBy w7 none:=kq (ja hgr5 hg6) hg7 (by have:=hgr5.size; omega)
  have hkl7:=hk7.lt
  clear hh6 hg6 hg7 hk5 hw5 hB5 hgr5
  generalize hws:wsAt bs 64=ws at *
  repeat (first | refine zd ?_ | refine WC.block ?_ | refine zb ?_ | refine zf ?_ | refine za ?_ | refine zg rfl (zc qY rfl) ?_)
  refine qG (S:=Nat) (fun i=>64 - i) (fun i=>[(99,vi i),(9,.pointer (some ⟨gh,0,none⟩)),(5,.pointer (some ⟨gw,0,none⟩)),(4,.pointer (some ⟨gk,0,none⟩)),(0,.pointer (some ⟨g,0,none⟩))])
   (fun i w'=>i<=64/\Bl w' gh 162 ((hAt ws hs i).map vu)/\w7.grownBy w' (some gh)) 0 ⟨by omega,hh7,jr _ _⟩ (by repeat (first | exact qb | refine Sub.cons rfl ?_)) (fun i w8 ⟨hi,hh8,hg8⟩=>?_)
  have hl8:=hAt_len ws hs hh i
  have hk8:Bl w8 gk 191 (ktab.map vu):=hk7.keep hg8 (fun e=>by injection e with e; omega)
  have hw8:Bl w8 gw 191 (ws.map vu):=hw7.keep hg8 (fun e=>by injection e with e; omega)
  repeat (first | refine zd ?_ | refine zb ?_ | refine zf ?_ | refine za ?_ | refine zg rfl (zc qY rfl) ?_)
  have hkt:ktab.length=64:=rfl
  refine zp rfl (fun h=>?_) (fun h=>?_)
  ·simp only [decide_eq_true_eq] at h
   repeat (first | refine zd ?_ | refine WC.block ?_ | refine zb ?_ | refine zf ?_ | refine za ?_ | refine zo ?_ | refine zg rfl (zc qY rfl) ?_)
   refine qK mixed (by kernel_rfl) ?_
   repeat (first | refine z7 rfl (qz 0 qY hh8 rfl rfl (by omega)) ?_ | refine z7 rfl (qi qY rfl rfl rfl (by omega) (by omega)) ?_ | refine z7 rfl (zc qY rfl) ?_)
   refine qU ?_
   repeat (first | refine zd ?_ | refine za ?_)
   refine qK mixed (by kernel_rfl) ?_
   repeat (first | refine z7 rfl (qz 0 qY hh8 rfl rfl (by omega)) ?_ | refine z7 rfl (qz 0 qY hk8 rfl rfl (by omega)) ?_ | refine z7 rfl (qz 0 qY hw8 rfl rfl (by omega)) ?_ | refine z7 rfl (qi qY rfl rfl rfl (by omega) (by omega)) ?_ | refine WQ.call rfl rfl (right_fn _ _ _ (by omega) (by omega)) ?_ | refine z7 rfl (zc qY rfl) ?_)
   refine qU ?_
   have ei:0+(i:Int).toNat*1=i:=by omega
   rw [ei]
   repeat (first | refine zd ?_ | refine za ?_)
   refine qK mixed (by kernel_rfl) ?_
   repeat (first | refine z7 rfl (qz 0 qY hh8 rfl rfl (by omega)) ?_ | refine z7 rfl (qi qY rfl rfl rfl (by omega) (by omega)) ?_ | refine WQ.call rfl rfl (right_fn _ _ _ (by omega) (by omega)) ?_ | refine z7 rfl (zc qY rfl) ?_)
   refine qU ?_
   repeat (first | refine zg rfl (qz 0 qY hh8 rfl rfl (by omega)) ?_ | refine zg rfl (qi qY rfl rfl rfl (by omega) (by omega)) ?_ | refine zb ?_ | refine za ?_ | refine zg rfl (zc qY rfl) ?_)
   refine zg rfl (Yld.arr (us:=(hnext ws (hAt ws hs i) i).map vu) qY rfl zero162 rfl rfl (oneM One.u _) rfl) ?_
   refine zP qY rfl rfl rfl (oneM One.u _) hh8 (by simp [hl8]) rfl (fun w9 hh9 hg9=>?_)
   repeat (first | refine zb ?_ | refine zf ?_ | refine za ?_ | refine zi ?_ | refine zg rfl (Yld.add rfl rfl (by simp only [In]; omega)) ?_ | refine zg rfl (zc qY rfl) ?_)
   exact qw (i+1) ⟨by omega,hh9,ja hg8 hg9⟩ (by omega) (by repeat (first | exact qb | refine Sub.cons rfl ?_))
  ·simp only [decide_eq_false_iff_not] at h
   obtain rfl:i=64:=by omega
   have hB8:Bl w8 g 164 (hs.map vu++tl):=hB7.keep hg8 (fun e=>by injection e with e; omega)
   have hgr8:w.grownBy w8 none:=kq hgr7 hg8 (by have:=hgr7.size; omega)
   have hhl8:=hh8.lt
   have hgl8:=hB8.lt
   have hne:g≠gh:=by omega
   clear hg8 hh7 hk7 hw7 hB7 hgr7 hk8 hw8
   have hfin:mixS hs bs=sumAt hs (hAt ws hs 64) 8:=by rw [mixS,hws]
   generalize hAt ws hs 64=hv at *
   repeat (first | refine zd ?_ | refine WC.block ?_ | refine zb ?_ | refine zf ?_ | refine za ?_ | refine zD ?_ | refine zj ?_ | refine zm ?_ | refine zg rfl (zc qY rfl) ?_)
   refine qG (S:=Nat) (fun i=>8 - i) (fun i=>[(181,vi i),(9,.pointer (some ⟨gh,0,none⟩)),(0,.pointer (some ⟨g,0,none⟩))])
    (fun i w'=>i<=8/\Bl w' g 164 ((sumAt hs hv i).map vu++tl)/\w8.grownBy w' (some g)) 0 ⟨by omega,hB8,jr _ _⟩ (by repeat (first | exact qb | refine Sub.cons rfl ?_)) (fun i w9 ⟨hi,hB9,hg9⟩=>?_)
   have hsl:=sumAt_len hs hv i
   have hh9:Bl w9 gh 162 (hv.map vu):=hh8.keep hg9 (fun e=>by injection e with e; omega)
   repeat (first | refine zd ?_ | refine zb ?_ | refine zf ?_ | refine za ?_ | refine zg rfl (zc qY rfl) ?_)
   refine zp rfl (fun h=>?_) (fun h=>?_)
   ·simp only [decide_eq_true_eq] at h
    have ei:0+0+(i:Int).toNat*1=i:=by omega
    have hv9:((sumAt hs hv i).map vu++tl)[0+0+(i:Int).toNat*1]? = some (vu ((sumAt hs hv i).getD i 0)):=by
     rw [ei,List.getElem?_append_left (by rw [List.length_map]; omega)]
     simp [List.getD,show i<(sumAt hs hv i).length by omega]
    repeat (first | refine zd ?_ | refine WC.block ?_ | refine zb ?_ | refine zf ?_ | refine za ?_ | refine zo ?_ | refine zg rfl (zc qY rfl) ?_)
    refine WC.tail 13 mixed (by kernel_rfl) ?_
    repeat (first | refine z7 rfl (zk qY hB9 rfl rfl hv9) ?_ | refine z7 rfl (qz 0 qY hh9 rfl rfl (by omega)) ?_ | refine z7 rfl (qi qY rfl rfl rfl (by omega) (by omega)) ?_ | refine z7 rfl (zc qY rfl) ?_)
    refine WQ.tail ?_
    refine zR one115 rfl rfl rfl hB9 (by simp; omega) (fun w10 hB10 hg10=>?_)
    repeat (first | refine zb ?_ | refine zf ?_ | refine za ?_ | refine zi ?_ | refine zg rfl (Yld.add rfl rfl (by simp only [In]; omega)) ?_ | refine zg rfl (zc qY rfl) ?_)
    refine qw (i+1) ⟨by omega,?_,ja hg9 hg10⟩ (by omega) (by repeat (first | exact qb | refine Sub.cons rfl ?_))
    rw [ei] at hB10
    rw [sumAt,List.map_set]
    rw [List.set_append_left _ _ (by rw [List.length_map]; omega)] at hB10
    exact hB10
   ·simp only [decide_eq_false_iff_not] at h
    obtain rfl:i=8:=by omega
    repeat (first | refine zD ?_ | refine zj ?_ | refine zm ?_)
    refine qM rfl ⟨rfl,?_,?_⟩
    ·rw [hfin]; exact hB9
    ·exact ja (gr_some hgr8 (some g)) hg9
end
 section
open Go Go.RowKit
attribute [local irreducible] WL WC WX WQ Yld Fn
theorem grow_fn (m:Int) (w:World) (h0:0<=m) (h1:m<=1073741824) :
  Fn Tryz.prog 120 ⟨[.slice none 0 0,vi m]⟩ w fun v w'=>∃ A c,v=.slice A 0 c/\Own vb w' w.heap.size 5 A c []/\w.grownBy w' none/\(∀ g,blk A=some g->w.heap.size<=g):=by
 refine Fn.enter (by kernel_rfl) Tryz.func120 rfl Tryz.ntmps120 rfl ?_
 repeat (first | refine zd ?_ | refine zb ?_ | refine zf ?_ | refine za ?_ | refine zg rfl (zc qY rfl) ?_)
 refine zp rfl (fun h=>?_) (fun h=>?_)
 ·simp only [decide_eq_true_eq] at h
  omega
 ·repeat (first | refine zd ?_ | refine zb ?_ | refine zf ?_ | refine za ?_ | refine zo ?_ | refine zg rfl (Yld.sub rfl rfl (by simp only [In]; omega)) ?_ | refine zg rfl (zc qY rfl) ?_)
  have e:m - (((0:Nat):Int) - ((0:Nat):Int))=m:=by omega
  rw [e]
  refine zp rfl (fun h=>?_) (fun h=>?_)
  ·repeat (first | refine zb ?_ | refine zg rfl (zc qY rfl) ?_)
   refine WL.ocut (f:=vb) (lo:=none) qY rfl rfl (Own.nil vb w w.heap.size 5) rfl rfl rfl rfl (by omega) (by omega) (fun _=>?_)
   repeat (refine zg rfl (zc qY rfl) ?_)
   refine WL.appendZ (f:=vb) (z:=0) qY rfl rfl rfl zero5 rfl rfl h0 (by omega) (by omega) (Nat.le_refl _) (fun A' c' w' hO hg hf=>?_)
   repeat (refine zg rfl (zc qY rfl) ?_)
   refine WL.ocut (lo:=none) qY rfl rfl hO rfl (by simp) rfl rfl (by omega) (by omega) (fun hO2=>?_)
   repeat (first | refine zd ?_ | refine zb ?_ | refine zf ?_ | refine za ?_ | refine zq ?_ | refine zg rfl (zc qY rfl) ?_)
   exact zw rfl rfl ⟨A',c',rfl,hO2,hg,hf⟩
  ·repeat (first | refine zd ?_ | refine zb ?_ | refine zf ?_ | refine za ?_ | refine zo ?_ | refine zq ?_ | refine zg rfl (zc qY rfl) ?_)
   exact zw rfl rfl ⟨none,0,rfl,Own.nil _ _ _ _,jr _ _,fun g hg=>by simp [blk] at hg⟩
theorem clone_fn (A:Option Addr) (c:Nat) (bs:List UInt8) (w:World) (hR:Rd vb w A c bs) (hl:bs.length<=1073741824) :
  Fn Tryz.prog 99 ⟨[.slice A bs.length c]⟩ w fun v w'=>∃ A' c',v=.slice A' bs.length c'/\Own vb w' w.heap.size 5 A' c' bs/\w.grownBy w' none/\(∀ g,blk A'=some g->w.heap.size<=g):=by
 refine Fn.enter (by kernel_rfl) Tryz.func99 rfl Tryz.ntmps99 rfl ?_
 repeat (first | refine zd ?_ | refine zb ?_ | refine zf ?_ | refine za ?_ | refine zg rfl (zc qY rfl) ?_)
 refine zg rfl (Yld.eqnil qY rfl rfl rfl) ?_
 repeat (first | refine zf ?_ | refine za ?_)
 refine zp rfl (fun h=>?_) (fun h=>?_)
 ·have hA:A=none:=by simpa using h
  subst hA
  have hb:bs=[]:=by
   rcases List.eq_nil_or_concat bs with h | ⟨l,b,h⟩
   ·exact h
   ·obtain ⟨ad,h2,_⟩:=hR.cells (by rw [h]; simp)
    cases h2
  subst hb
  repeat (first | refine zd ?_ | refine zb ?_ | refine zf ?_ | refine za ?_ | refine zq ?_ | refine zh ?_ | refine zg rfl (zc qY rfl) ?_)
  exact zw rfl rfl ⟨none,0,rfl,Own.nil _ _ _ _,jr _ _,fun g hg=>by simp [blk] at hg⟩
 ·repeat (first | refine zd ?_ | refine zb ?_ | refine za ?_ | refine zo ?_)
  refine qD (us:=[]) qY rfl rfl rfl (by simp) rfl (by omega) (fun g w1 hB hg hlt=>?_)
  repeat (refine zg rfl (zc qY rfl) ?_)
  have hO:Own vb w1 w.heap.size 5 (some ⟨g,0,none⟩) 0 []:=⟨by simp,.inr ⟨g,0,#[],rfl,hlt,hB,by simp,by simp [maxLen],rfl,rfl⟩⟩
  refine qp qY rfl rfl One.b hO rfl rfl (hR.grown hg) rfl rfl (by simp; omega) (by simp [maxLen]; omega) hg.size (fun A' c' w' hO' hg' hf=>?_)
  repeat (first | refine zf ?_ | refine za ?_ | refine zq ?_ | refine zg rfl (zc qY rfl) ?_)
  have hs1:=hg.size
  refine zw rfl rfl ⟨A',c',rfl,hO',kq hg hg' hlt,fun q hq=>?_⟩
  rcases hf q hq with h | h
  ·simp only [blk,Option.map_some,Option.some.injEq] at h
   omega
  ·omega
end
 section
open Go Go.RowKit
attribute [local irreducible] WL WC WX WQ Yld Fn
def vS (x:Option Addr × Nat × List UInt8):Value:=.slice x.1 x.2.2.length x.2.1
theorem One.S:One vS:=fun _=>rfl
def catS (l:List (Option Addr × Nat × List UInt8)):List UInt8:=l.flatMap (·.2.2)
theorem catS_take (l:List (Option Addr × Nat × List UInt8)) (k:Nat) (h:k<l.length):catS (l.take (k+1))=catS (l.take k)++(l.getD k (none,0,[])).2.2:=by
 unfold catS
 rw [List.take_succ_eq_append_getElem h,List.flatMap_append]
 simp [List.getD,h]
theorem catS_le (l:List (Option Addr × Nat × List UInt8)) (k:Nat):(catS (l.take k)).length<=(catS l).length:=by
 unfold catS
 conv=>rhs; rw [<-List.take_append_drop k l,List.flatMap_append,List.length_append]
 omega
theorem concat_fn (A:Option Addr) (c:Nat) (l:List (Option Addr × Nat × List UInt8)) (w:World) (hR:Rd vS w A c l) (hl:∀ x∈l,Rd vb w x.1 x.2.1 x.2.2) (hs:(catS l).length<=1073741824) :
  Fn Tryz.prog 97 ⟨[.slice A l.length c]⟩ w fun v w'=>∃ A' c',v=.slice A' (catS l).length c'/\Own vb w' w.heap.size 5 A' c' (catS l)/\w.grownBy w' none:=by
 have hml:l.length<=9223372036854775807:=by have h1:=hR.cap; have h2:=hR.max; unfold maxLen at h2; omega
 refine Fn.enter (by kernel_rfl) Tryz.func97 rfl Tryz.ntmps97 rfl ?_
 repeat (first | refine zd ?_ | refine WC.block ?_ | refine zb ?_ | refine zf ?_ | refine za ?_ | refine zg rfl (zc qY rfl) ?_)
 refine qG (S:=Nat) (fun i=>l.length - i) (fun i=>[(11,vi i),(3,vi (catS (l.take i)).length),(10,vi l.length),(9,.slice A l.length c),(0,.slice A l.length c)])
  (fun i w'=>i<=l.length/\w'=w) 0 ⟨by omega,rfl⟩ (by repeat (first | exact qb | refine Sub.cons rfl ?_)) (fun i w' ⟨hi,hw⟩=>?_)
 subst hw
 have hc1:=catS_le l i
 repeat (first | refine zd ?_ | refine zb ?_ | refine zf ?_ | refine za ?_ | refine zg rfl (zc qY rfl) ?_)
 refine zp rfl (fun h=>?_) (fun h=>?_)
 ·simp only [decide_eq_true_eq] at h
  have hlt:i<l.length:=by omega
  have hc2:=catS_le l (i+1)
  have hc3:=catS_take l i hlt
  have hc4:(catS (l.take (i+1))).length=(catS (l.take i)).length+(l.getD i (none,0,[])).2.2.length:=by rw [hc3,List.length_append]
  repeat (first | refine zg rfl (qV qY hR rfl rfl rfl rfl (by omega)) ?_ | refine zg rfl (zN (none,0,[]) qY hR rfl rfl (by omega)) ?_ | refine zd ?_ | refine WC.block ?_ | refine zb ?_ | refine zf ?_ | refine za ?_ | refine zo ?_ | refine zg rfl (Yld.add rfl rfl (by simp only [In]; omega)) ?_ | refine zg rfl (zc qY rfl) ?_)
  refine zp rfl (fun h2=>?_) (fun h2=>?_)
  ·simp only [decide_eq_true_eq] at h2
   omega
  ·repeat (first | refine zb ?_ | refine zf ?_ | refine za ?_ | refine zo ?_ | refine zi ?_ | refine zg rfl (Yld.add rfl rfl (by simp only [In]; omega)) ?_ | refine zg rfl (zc qY rfl) ?_)
   refine qw (i+1) ⟨by omega,rfl⟩ (by omega) ?_
   refine Sub.cons rfl (Sub.cons ?_ (by repeat (first | exact qb | refine Sub.cons rfl ?_)))
   rw [hc4]
   rfl
 ·simp only [decide_eq_false_iff_not] at h
  obtain rfl:i=l.length:=by omega
  rw [List.take_of_length_le (Nat.le_refl _)] at *
  repeat (first | refine zd ?_ | refine zb ?_ | refine za ?_ | refine zD ?_ | refine zj ?_ | refine zm ?_ | refine zg rfl (zc qY rfl) ?_)
  refine WL.call rfl rfl (grow_fn (catS l).length w' (by omega) (by omega)) ?_
  rintro _ w1 ⟨A1,c1,rfl,hO1,hg1,_⟩
  have hR1:=hR.grown hg1
  repeat (first | refine zd ?_ | refine WC.block ?_ | refine zb ?_ | refine zf ?_ | refine za ?_ | refine zg rfl (zc qY rfl) ?_)
  refine qG (S:=Nat × Option Addr × Nat) (fun s=>l.length - s.1) (fun s=>[(27,vi s.1),(6,.slice s.2.1 (catS (l.take s.1)).length s.2.2),(26,vi l.length),(25,.slice A l.length c)])
   (fun s w2=>s.1<=l.length/\Own vb w2 w'.heap.size 5 s.2.1 s.2.2 (catS (l.take s.1))/\w'.grownBy w2 none) (0,A1,c1) ⟨by simp,hO1,hg1⟩ (by repeat (first | exact qb | refine Sub.cons rfl ?_)) (fun ⟨i,A2,c2⟩ w2 ⟨hi,hO2,hg2⟩=>?_)
  have hR2:=hR.grown hg2
  have hc1:=catS_le l i
  simp only at hi hO2
  repeat (first | refine zd ?_ | refine zb ?_ | refine zf ?_ | refine za ?_ | refine zg rfl (zc qY rfl) ?_)
  refine zp rfl (fun h=>?_) (fun h=>?_)
  ·simp only [decide_eq_true_eq] at h
   have hlt:i<l.length:=by omega
   have hc2:=catS_le l (i+1)
   have hc3:=catS_take l i hlt
   have hc4:(catS (l.take (i+1))).length=(catS (l.take i)).length+(l.getD i (none,0,[])).2.2.length:=by rw [hc3,List.length_append]
   repeat (first | refine zg rfl (qV qY hR2 rfl rfl rfl rfl (by omega)) ?_ | refine zg rfl (zN (none,0,[]) qY hR2 rfl rfl (by omega)) ?_ | refine zd ?_ | refine WC.block ?_ | refine zb ?_ | refine zf ?_ | refine za ?_ | refine zo ?_ | refine zg rfl (zc qY rfl) ?_)
   have hx:l.getD i (none,0,[])∈l:=by simp [List.getD,hlt]
   have hRx:=(hl _ hx).grown hg2
   have hz2:=hg2.size
   refine qp qY rfl rfl One.b hO2 rfl rfl hRx rfl rfl (by omega) (by unfold maxLen; omega) hz2 (fun A3 c3 w3 hO3 hg3 hf3=>?_)
   repeat (first | refine zb ?_ | refine zf ?_ | refine za ?_ | refine zi ?_ | refine zg rfl (Yld.add rfl rfl (by simp only [In]; omega)) ?_ | refine zg rfl (zc qY rfl) ?_)
   refine qw (i+1,A3,c3) ⟨by simp; omega,?_,?_⟩ (by simp; omega) ?_
   ·simp only [hc3]; exact hO3
   ·cases hq:blk A2 with
    | none=>rw [hq] at hg3; exact ja hg2 hg3
    | some q=>rw [hq] at hg3; exact kq hg2 hg3 (hO2.lt hq).1
   ·refine Sub.cons rfl (Sub.cons ?_ (by repeat (first | exact qb | refine Sub.cons rfl ?_)))
    rw [hc3]
    rfl
  ·simp only [decide_eq_false_iff_not] at h
   obtain rfl:i=l.length:=by omega
   rw [List.take_of_length_le (Nat.le_refl _)] at hO2 |-
   repeat (first | refine zd ?_ | refine zb ?_ | refine zf ?_ | refine za ?_ | refine zD ?_ | refine zq ?_ | refine zj ?_ | refine zm ?_ | refine zg rfl (zc qY rfl) ?_)
   exact zw rfl rfl ⟨A2,c2,rfl,hO2,hg2⟩
end
 section
open Go Go.RowKit
attribute [local irreducible] WL WC WX WQ Yld Fn
theorem Rd.ofBl {α:Type} {f:α->Value} {w:World} {g:Nat} {e:TypeId} {xs:List α} {m:Nat} (h:Bl w g e (xs.map f)) (hm:xs.length<=m) (h63:m<=maxLen):Rd f w (some ⟨g,0,none⟩) m xs :=
 ⟨hm,h63,fun _=>⟨_,rfl,fun j x hj=>by rw [Addr.add_mid,Nat.zero_add,h.cell]; simp [hj]⟩⟩
def ky:Nat->List Int->List UInt8->List Int × List UInt8
 | 0,hs,all=>(hs,all)
 | m+1,hs,all=>if 64<=all.length then ky m (mixS hs (all.take 64)) (all.drop 64) else (hs,all)
theorem absorb_more:∀ (m:Nat) (hs:List Int) (all:List UInt8),all.length<=m->ky (m+1) hs all=ky m hs all
 | 0,hs,all,h=>by
  have:¬ 64<=all.length:=by omega
  simp [ky,this]
 | m+1,hs,all,h=>by
  rw [ky]
  conv=>rhs; rw [ky]
  split
  ·exact absorb_more m _ _ (by simp; omega)
  ·rfl
def wrS (hs:List Int) (r b:List UInt8):List Int × List UInt8:=ky (r++b).length hs (r++b)
structure St (w:World) (g:Nat) (hs:List Int) (r:List UInt8) (n:Int):Prop where
 len:hs.length=8
 at_:∃ A c,Bl w g 164 (stc hs A c r n)/\Rd vb w A c r/\blk A≠some g
theorem stc_8 {hs:List Int} (hh:hs.length=8) (A:Option Addr) (c:Nat) (r:List UInt8) (n:Int):(stc hs A c r n)[8]? = some (.slice A r.length c):=by
 unfold stc; rw [List.getElem?_append_right (by simp [hh])]; simp [hh]
theorem stc_9 {hs:List Int} (hh:hs.length=8) (A:Option Addr) (c:Nat) (r:List UInt8) (n:Int):(stc hs A c r n)[9]? = some (.int .u64 n):=by
 unfold stc; rw [List.getElem?_append_right (by simp [hh])]; simp [hh]
theorem stc_set8 {hs:List Int} (hh:hs.length=8) (A A':Option Addr) (c c':Nat) (r r':List UInt8) (n:Int):(stc hs A c r n).set 8 (.slice A' r'.length c')=stc hs A' c' r' n:=by
 unfold stc; rw [List.set_append_right _ _ (by simp [hh])]; simp [hh]
theorem stc_set9 {hs:List Int} (hh:hs.length=8) (A:Option Addr) (c:Nat) (r:List UInt8) (n n':Int):(stc hs A c r n).set 9 (.int .u64 n')=stc hs A c r n':=by
 unfold stc; rw [List.set_append_right _ _ (by simp [hh])]; simp [hh]
theorem stc_len {hs:List Int} (hh:hs.length=8) (A:Option Addr) (c:Nat) (r:List UInt8) (n:Int):(stc hs A c r n).length=10:=by simp [stc,hh]
theorem write_fn (g:Nat) (hs:List Int) (r:List UInt8) (n:Int) (A2:Option Addr) (c2:Nat) (b:List UInt8) (w:World) (hS:St w g hs r n) (hR2:Rd vb w A2 c2 b) (hA2:b≠[]->blk A2≠some g) (hn:0<=n) (hn2:n<=1073741824) (hr:r.length<=64) (hb:b.length<=1000000) :
  Fn Tryz.prog 77 ⟨[.pointer (some ⟨g,0,none⟩),.slice A2 b.length c2]⟩ w fun v w'=>v=.tuple #[]/\St w' g (wrS hs r b).1 (wrS hs r b).2 (n+b.length)/\w.grownBy w' (some g):=by
 obtain ⟨hh,A,c,hB,hR,hA⟩:=hS
 refine Fn.enter (by kernel_rfl) Tryz.func77 rfl Tryz.ntmps77 rfl ?_
 repeat (first | refine zg rfl (zk qY hB rfl rfl (stc_9 hh A c r n)) ?_ | refine zd ?_ | refine zb ?_ | refine zg rfl (Yld.add rfl rfl (by simp only [In]; omega)) ?_ | refine zg rfl (zz qY rfl rfl rfl (by simp only [In]; omega)) ?_ | refine zg rfl (zc qY rfl) ?_)
 refine zR one116 rfl rfl rfl hB (by rw [stc_len hh]; omega) (fun w1 hB1 hg1=>?_)
 rw [stc_set9 hh] at hB1
 have hR1:=hR.keep hg1 (fun q hq e=>by injection hq with hq; exact hA (by rw [e,hq]))
 have hR21:=hR2.keep' hg1 (fun hb q hq e=>by injection hq with hq; exact hA2 hb (by rw [e,hq]))
 repeat (first | refine zg rfl (zk qY hB1 rfl rfl (stc_8 hh A c r _)) ?_ | refine zd ?_ | refine zb ?_ | refine zf ?_ | refine za ?_ | refine zg rfl (zc qY rfl) ?_)
 refine qD (us:=[vS (A,c,r),vS (A2,c2,b)]) qY rfl rfl rfl (by intro u hu; simp at hu; rcases hu with rfl | rfl <;> rfl) rfl (by omega) (fun gl w2 hL2 hg2 hl2=>?_)
 refine WL.call rfl rfl (concat_fn (some ⟨gl,0,none⟩) 2 [(A,c,r),(A2,c2,b)] w2 (Rd.ofBl hL2 (by simp) (by simp [maxLen])) (by intro x hx; simp at hx; rcases hx with rfl | rfl; exact hR1.grown hg2; exact hR21.grown hg2) (by simp [catS]; omega)) ?_
 rintro _ w3 ⟨A3,c3,rfl,hO3,hg3⟩
 have hcat:catS [(A,c,r),(A2,c2,b)]=r++b:=by simp [catS]
 rw [hcat] at hO3 |-
 have hB3:=(hB1.keep hg2 (by simp)).keep hg3 (by simp)
 have hz1:=hg1.size
 have hz2:=hg2.size
 have hgl:g<w2.heap.size:=by have:=hB1.lt; omega
 have hA3:blk A3≠some g:=fun e=>by have:=(hO3.lt e).1; omega
 have hg13:w.grownBy w3 (some g):=ja (ja hg1 (gr_some hg2 _)) (gr_some hg3 _)
 have hR3:=hO3.rd
 clear hO3 hL2 hg1 hg2 hg3 hR1 hR21 hB1
 repeat (first | refine zd ?_ | refine WC.block ?_ | refine zf ?_ | refine za ?_ | refine zg rfl (zc qY rfl) ?_)
 refine qG (S:=Nat × List Int × Option Addr × Nat × List UInt8) (fun s=>s.2.2.2.2.length) (fun s=>[(4,.slice s.2.2.1 s.2.2.2.2.length s.2.2.2.1),(0,.pointer (some ⟨g,0,none⟩))])
  (fun s w4=>s.2.1.length=8/\Bl w4 g 164 (stc s.2.1 A c r (n+b.length))/\Rd vb w4 s.2.2.1 s.2.2.2.1 s.2.2.2.2/\blk s.2.2.1≠some g/\s.2.2.2.2.length<=s.1/\s.2.2.2.2.length<=2000000/\ky s.1 s.2.1 s.2.2.2.2=wrS hs r b/\w3.grownBy w4 (some g))
  ((r++b).length,hs,A3,c3,r++b) ⟨hh,hB3,hR3,hA3,Nat.le_refl _,by simp; omega,rfl,jr _ _⟩ (by repeat (first | exact qb | refine Sub.cons rfl ?_)) (fun ⟨m,h4,A4,c4,al⟩ w4 ⟨hh4,hB4,hR4,hA4,hm4,hl4,ha4,hg4⟩=>?_)
 simp only at hh4 hB4 hR4 hA4 hm4 hl4 ha4
 repeat (first | refine zd ?_ | refine zb ?_ | refine zf ?_ | refine za ?_ | refine zg rfl (zc qY rfl) ?_)
 refine zp rfl (fun h=>?_) (fun h=>?_)
 ·simp only [decide_eq_true_eq] at h
  have h64:64<=al.length:=by omega
  repeat (first | refine zd ?_ | refine WC.block ?_ | refine zb ?_ | refine za ?_ | refine zo ?_ | refine zg rfl (zc qY rfl) ?_)
  refine WL.cut qY hR4 rfl rfl rfl rfl rfl rfl (by omega) (by omega) (by omega) (fun A5 c5 hR5 hA5=>?_)
  refine WL.call rfl rfl (mix_fn g h4 _ A5 c5 _ w4 hh4 hB4 hR5 (by simp; omega)) ?_
  rintro _ w5 ⟨rfl,hB5,hg5⟩
  have hR45:=hR4.keep hg5 (fun q hq e=>by injection hq with hq; exact hA4 (by rw [e,hq]))
  repeat (first | refine zb ?_ | refine zf ?_ | refine za ?_ | refine zg rfl (zc qY rfl) ?_)
  refine WL.cut qY hR45 rfl rfl rfl rfl rfl rfl (by omega) (by omega) (by omega) (fun A6 c6 hR6 hA6=>?_)
  repeat (first | refine zf ?_ | refine zi ?_ | refine zg rfl (zc qY rfl) ?_)
  have h0:Int.toNat 64 - Int.toNat 0=64:=rfl
  have hm0:1<=m:=by omega
  obtain ⟨q,rfl⟩:∃ q,m=q+1:=⟨m - 1,by omega⟩
  have hlen6:((al.drop (Int.toNat 64)).take ((al.length:Int).toNat - Int.toNat 64))=al.drop 64:=by
   rw [List.take_of_length_le]
   ·rfl
   ·rw [List.length_drop]; omega
  rw [hlen6] at hR6 |-
  refine qw (q,mixS h4 ((al.drop (Int.toNat 0)).take (Int.toNat 64 - Int.toNat 0)),A6,c6,al.drop 64) ⟨?_,hB5,hR6,fun e=>hA4 (hA6 _ e),?_,?_,?_,ja hg4 hg5⟩ ?_ (by repeat (first | exact qb | refine Sub.cons rfl ?_))
  ·rw [mixS_len]; exact hh4
  ·simp only [List.length_drop]; omega
  ·simp only [List.length_drop]; omega
  ·rw [<-ha4,ky,if_pos h64]
   rfl
  ·simp only [List.length_drop]; omega
 ·simp only [decide_eq_false_iff_not] at h
  have hfin:wrS hs r b=(h4,al):=by
   rw [<-ha4]
   cases m with
   | zero=>rfl
   | succ q=>rw [ky,if_neg (by omega)]
  repeat (first | refine zb ?_ | refine za ?_ | refine zD ?_ | refine zj ?_ | refine zm ?_ | refine zg rfl (zc qY rfl) ?_)
  refine zR one107 rfl rfl rfl hB4 (by rw [stc_len hh4]; omega) (fun w5 hB5 hg5=>?_)
  rw [stc_set8 hh4] at hB5
  repeat (refine zf ?_)
  refine qM rfl ⟨rfl,?_,ja (ja hg13 hg4) hg5⟩
  rw [hfin]
  exact ⟨hh4,A4,c4,hB5,hR4.keep hg5 (fun q hq e=>by injection hq with hq; exact hA4 (by rw [e,hq])),hA4⟩
end
 section
open Go Go.RowKit
attribute [local irreducible] WL WC WX WQ Yld Fn
def u8v (z:Int):UInt8:=UInt8.ofNat (IntKind.u8.wrap z).toNat
theorem vb_u8v (z:Int):Value.int .u8 (IntKind.u8.wrap z)=vb (u8v z):=by
 unfold vb u8v
 have h:IntKind.u8.wrap z=z % 256:=IntKind.wrap_u8 z
 rw [h]
 congr 1
 rw [UInt8.toNat_ofNat']
 omega
theorem Yld.toB {P:Program} {T:Tab} {N:Nat} {L:jj} {w:World} {dd:Option Tmp} {ty:TypeId} {pos:String} {af:Array Edge} {s d:TypeId} {k k2:IntKind} {x:Operand} {z:Int} (hT:T.Ok P) (hs:nk T.int s=some k) (hd:nk T.int d=some .u8) (hx:opv L x=some (.int k2 z)) :
  Yld P N w ⟨dd,.convert s d x,ty,pos,af,none⟩ L (vb (u8v z)):=by
 rw [<-vb_u8v]
 exact zc hT (by simp [pv,hx,o1,pvConv,hs,hd])
def padS (l:List UInt8):List UInt8:=l++List.replicate ((120 - l.length % 64) % 64) 0
theorem padS_step (l:List UInt8) (h:l.length % 64≠56):padS (l++[0])=padS l:=by
 unfold padS
 have:(120 - l.length % 64) % 64=(120 - (l++[0]).length % 64) % 64+1:=by simp; omega
 rw [this,List.replicate_succ]
 simp
def lenB (n:Int) (i:Nat):UInt8:=u8v (shrV .u64 n (8*(7 - (i:Int))).toNat)
def lenBs (n:Int):Nat->List UInt8
 | 0=>[]
 | i+1=>lenBs n i++[lenB n i]
theorem lenBs_len (n:Int):∀ i,(lenBs n i).length=i
 | 0=>rfl
 | i+1=>by rw [lenBs,List.length_append,lenBs_len n i]; rfl
def endS (r:List UInt8) (n:Int):List UInt8:=padS (r++[0x80])++lenBs (8*n) 8
def outAt (h:List Int):Nat->List UInt8
 | 0=>List.replicate 32 0
 | i+1=>(outAt h i).set i (u8v (shrV .u32 (h.getD (i / 4) 0) (24 - 8*((i:Int) % 4)).toNat))
theorem outAt_len (h:List Int):∀ i,(outAt h i).length=32
 | 0=>rfl
 | i+1=>by rw [outAt,List.length_set,outAt_len h i]
def sumS (hs:List Int) (r:List UInt8) (n:Int):List UInt8:=outAt (ky (endS r n).length hs (endS r n)).1 32
theorem sumS_len (hs:List Int) (r:List UInt8) (n:Int):(sumS hs r n).length=32:=outAt_len _ 32
theorem bl_one {α:Type} {f:α->Value} {w:World} {g:Nat} {e:TypeId} {x:α} (h:Bl w g e [f x]):Rd f w (some ⟨g,0,none⟩) 1 [x]:=Rd.ofBl (xs:=[x]) h (by simp) (by simp [maxLen])
set_option maxHeartbeats 1000000 in
theorem sum_fn (g:Nat) (hs:List Int) (r:List UInt8) (n:Int) (w:World) (hS:St w g hs r n) (hn:0<=n) (hn2:n<=1073741824) (hr:r.length<=64) :
  Fn Tryz.prog 78 ⟨[.pointer (some ⟨g,0,none⟩)]⟩ w fun v w'=>v=.agg ⟨(sumS hs r n).map vb⟩/\w.grownBy w' none:=by
 obtain ⟨hh,A,c,hB,hR,hA⟩:=hS
 have hgw:=hB.lt
 refine Fn.enter (by kernel_rfl) Tryz.func78 rfl Tryz.ntmps78 rfl ?_
 repeat (first | refine zd ?_ | refine zb ?_)
 refine WL.alloc rfl zero45 (fun go w1 ho1 hg1 hlo=>?_)
 have hB1:=hB.keep hg1 (by simp)
 have hR1:=hR.grown hg1
 repeat (first | refine zg rfl (zQ (vs:=stc hs A c r n) qY hB1 rfl rfl (by rw [List.drop_zero,List.take_of_length_le]; rw [stc_len hh]; exact Nat.le_refl _) (stc_len hh _ _ _ _)) ?_ | refine zd ?_ | refine zb ?_ | refine zf ?_ | refine za ?_ | refine zg rfl (zc qY rfl) ?_)
 refine WL.alloc rfl zero164 (fun gt w2 ht2 hg2 hlt=>?_)
 refine zP qY rfl rfl rfl (by intro u hu; simp [stc] at hu; rcases hu with ⟨q,_,rfl⟩ | rfl | rfl <;> rfl) ht2 rfl (stc_len hh _ _ _ _) (fun w3 ht3 hg3=>?_)
 have hz1:=hg1.size
 have hgolt:=ho1.lt
 have hz2:=hg2.size
 have hz3:=hg3.size
 have hgr3:w.grownBy w3 none:=kq (ja hg1 hg2) hg3 (by omega)
 have hB3:=(hB1.keep hg2 (by simp)).keep hg3 (fun e=>by injection e with e; omega)
 have hgt3:=ht3.lt
 have ho3:=(ho1.keep hg2 (by simp)).keep hg3 (fun e=>by injection e with e; have:=ho1.lt; omega)
 have hR3:=hR.grown hgr3
 clear hB1 hR1 hg1 hg2 hg3 ht2 ho1
 repeat (first | refine zg rfl (zk qY hB3 rfl rfl (stc_9 hh A c r _)) ?_ | refine zg rfl (zk qY hB3 rfl rfl (stc_8 hh A c r _)) ?_ | refine zd ?_ | refine zb ?_ | refine zf ?_ | refine za ?_ | refine zg rfl (zE rfl rfl (by simp only [In]; omega)) ?_ | refine zg rfl (zc qY rfl) ?_)
 refine WL.call rfl rfl (clone_fn A c r w3 hR3 (by omega)) ?_
 rintro _ w4 ⟨A4,c4,rfl,hO4,hg4,hf4⟩
 refine qD (us:=[vb 0x80]) qY rfl rfl rfl (by intro u hu; simp at hu; rw [hu]; rfl) rfl (by omega) (fun gl w5 hL5 hg5 hl5=>?_)
 refine qp qY rfl rfl One.b (hO4.grown hg5) rfl rfl (bl_one (x:=0x80) hL5) rfl rfl (by simp; omega) (by simp [maxLen]; omega) (by have:=hg4.size; have:=hg5.size; omega) (fun A6 c6 w6 hO6 hg6 hf6=>?_)
 have hgr6:w3.grownBy w6 none:=by
  cases hq:blk A4 with
  | none=>rw [hq] at hg6; exact ja (ja hg4 hg5) hg6
  | some q=>rw [hq] at hg6; exact kq (ja hg4 hg5) hg6 (hO4.lt hq).1
 clear hO4 hg4 hf4 hL5 hg5 hg6 hf6
 have hp0:padS (r++[0x80])=padS (r++[0x80]):=rfl
 repeat (first | refine zd ?_ | refine WC.block ?_ | refine zf ?_ | refine za ?_ | refine zg rfl (zc qY rfl) ?_)
 refine qG (S:=Option Addr × Nat × List UInt8) (fun s=>(120 - s.2.2.length % 64) % 64) (fun s=>[(5,.slice s.1 s.2.2.length s.2.1),(4,.int .u64 (8*n)),(3,.pointer (some ⟨gt,0,none⟩)),(2,.pointer (some ⟨go,0,none⟩))])
  (fun s w7=>Own vb w7 w3.heap.size 5 s.1 s.2.1 s.2.2/\padS s.2.2=padS (r++[0x80])/\s.2.2.length<=128+64/\w3.grownBy w7 none)
  (A6,c6,r++[0x80]) ⟨hO6,rfl,by simp; omega,hgr6⟩ (by repeat (first | exact qb | refine Sub.cons rfl ?_)) (fun ⟨A7,c7,e7⟩ w7 ⟨hO7,hp7,hl7,hg7⟩=>?_)
 simp only at hO7 hp7 hl7
 repeat (first | refine zd ?_ | refine zb ?_ | refine zf ?_ | refine za ?_ | refine zg rfl (zI rfl rfl (by omega) (by omega)) ?_ | refine zg rfl (zc qY rfl) ?_)
 refine zp rfl (fun h=>?_) (fun h=>?_)
 ·have h56:e7.length % 64≠56:=by
   simp only [Bool.not_eq_true',decide_eq_false_iff_not] at h
   omega
  have hle:(padS e7).length<=192:=by
   rw [hp7]; unfold padS; simp; omega
  have hl8:e7.length+1<=192:=by
   unfold padS at hle
   rw [List.length_append,List.length_replicate] at hle
   omega
  repeat (first | refine WC.block ?_ | refine zb ?_ | refine za ?_ | refine zo ?_ | refine zg rfl (zc qY rfl) ?_)
  refine qD (us:=[vb 0]) qY rfl rfl rfl (by intro u hu; simp at hu; rw [hu]; rfl) rfl (by omega) (fun gl w8 hL8 hg8 hl8=>?_)
  refine qp qY rfl rfl One.b (hO7.grown hg8) rfl rfl (bl_one (x:=0) hL8) rfl rfl (by simp; omega) (by simp [maxLen]; omega) (by have:=hg7.size; have:=hg8.size; omega) (fun A9 c9 w9 hO9 hg9 hf9=>?_)
  repeat (first | refine zf ?_ | refine zi ?_ | refine zg rfl (zc qY rfl) ?_)
  refine qw (A9,c9,e7++[0]) ⟨hO9,by rw [padS_step _ h56]; exact hp7,by simp; omega,?_⟩ (by simp; omega) (by repeat (first | exact qb | refine Sub.cons rfl ?_))
  cases hq:blk A7 with
  | none=>rw [hq] at hg9; exact ja (ja hg7 hg8) hg9
  | some q=>rw [hq] at hg9; exact kq (ja hg7 hg8) hg9 (hO7.lt hq).1
 ·have h56:e7.length % 64=56:=by
   simp only [Bool.not_eq_false',decide_eq_true_eq] at h
   omega
  have he7:e7=padS (r++[0x80]):=by
   rw [<-hp7]; unfold padS; rw [h56]; simp
  have hpl:e7.length<=184:=by rw [he7]; unfold padS; simp; omega
  repeat (first | refine zd ?_ | refine WC.block ?_ | refine zb ?_ | refine zf ?_ | refine za ?_ | refine zD ?_ | refine zj ?_ | refine zm ?_ | refine zg rfl (zc qY rfl) ?_)
  refine qG (S:=Nat × Option Addr × Nat) (fun s=>8 - s.1) (fun s=>[(32,vi s.1),(5,.slice s.2.1 (e7++lenBs (8*n) s.1).length s.2.2),(4,.int .u64 (8*n)),(3,.pointer (some ⟨gt,0,none⟩)),(2,.pointer (some ⟨go,0,none⟩))])
   (fun s w8=>s.1<=8/\Own vb w8 w3.heap.size 5 s.2.1 s.2.2 (e7++lenBs (8*n) s.1)/\w3.grownBy w8 none)
   (0,A7,c7) ⟨by simp,by simpa [lenBs] using hO7,hg7⟩ (by simp only [lenBs,List.append_nil]; repeat (first | exact qb | refine Sub.cons rfl ?_)) (fun ⟨i,A8,c8⟩ w8 ⟨hi,hO8,hg8⟩=>?_)
  simp only at hi hO8
  have hlb:=lenBs_len (8*n) i
  repeat (first | refine zd ?_ | refine zb ?_ | refine zf ?_ | refine za ?_ | refine zg rfl (zc qY rfl) ?_)
  refine zp rfl (fun h=>?_) (fun h=>?_)
  ·simp only [decide_eq_true_eq] at h
   repeat (first | refine zg rfl (Yld.toB qY rfl rfl rfl) ?_ | refine zd ?_ | refine WC.block ?_ | refine zb ?_ | refine zf ?_ | refine za ?_ | refine zo ?_ | refine zg rfl (Yld.sub rfl rfl (by simp only [In]; omega)) ?_ | refine zg rfl (zE rfl rfl (by simp only [In]; omega)) ?_ | refine zg rfl (zA rfl rfl (by omega)) ?_ | refine zg rfl (zc qY rfl) ?_)
   refine qD (us:=[vb (lenB (8*n) i)]) qY rfl rfl rfl (by intro u hu; simp at hu; rw [hu]; rfl) rfl (by omega) (fun gl w9 hL9 hg9 hl9=>?_)
   refine qp qY rfl rfl One.b (hO8.grown hg9) rfl rfl (bl_one (x:=lenB (8*n) i) hL9) rfl rfl (by simp; omega) (by simp [maxLen]; omega) (by have:=hg8.size; have:=hg9.size; omega) (fun A10 c10 w10 hO10 hg10 hf10=>?_)
   repeat (first | refine zb ?_ | refine zf ?_ | refine za ?_ | refine zi ?_ | refine zg rfl (Yld.add rfl rfl (by simp only [In]; omega)) ?_ | refine zg rfl (zc qY rfl) ?_)
   have hap:e7++lenBs (8*n) i++[lenB (8*n) i]=e7++lenBs (8*n) (i+1):=by rw [List.append_assoc]; rfl
   rw [hap] at hO10 |-
   exact qw (i+1,A10,c10) ⟨by simp; omega,hO10,gr_own (ja hg8 hg9) (hO8.grown hg9) hg10 (Nat.le_refl _)⟩ (by simp; omega) (by repeat (first | exact qb | refine Sub.cons rfl ?_))
  ·simp only [decide_eq_false_iff_not] at h
   obtain rfl:i=8:=by omega
   have hend:e7++lenBs (8*n) 8=endS r n:=by rw [he7]; rfl
   rw [hend] at hO8 |-
   have hel:(endS r n).length<=192:=by rw [<-hend,List.length_append,hlb]; omega
   have hem:(endS r n).length % 64=0:=by rw [<-hend,List.length_append,hlb]; omega
   have hR8:=hO8.rd
   have hA8:blk A8≠some gt:=fun e=>by have:=(hO8.lt e).1; omega
   have hA8o:blk A8≠some go:=fun e=>by have:=(hO8.lt e).1; have:=ho3.lt; omega
   have ht8:=ht3.keep hg8 (by simp)
   have ho8:=ho3.keep hg8 (by simp)
   have hgr8:=ja hgr3 hg8
   have hz8:=hg8.size
   generalize endS r n=en at *
   clear hO7 hp7 hO8 hO6 hgr6 hp0 hg8 hg7
   repeat (first | refine zd ?_ | refine WC.block ?_ | refine zb ?_ | refine zf ?_ | refine za ?_ | refine zD ?_ | refine zj ?_ | refine zm ?_ | refine zg rfl (zc qY rfl) ?_)
   refine qG (S:=Nat × List Int) (fun s=>en.length - 64*s.1) (fun s=>[(7,vi (64*s.1:Nat)),(5,.slice A8 en.length c8),(3,.pointer (some ⟨gt,0,none⟩)),(2,.pointer (some ⟨go,0,none⟩))])
    (fun s w9=>64*s.1<=en.length/\s.2.length=8/\Bl w9 gt 164 (stc s.2 A c r n)/\ky (en.length - s.1) s.2 (en.drop (64*s.1))=ky en.length hs en/\w8.grownBy w9 (some gt))
    (0,hs) ⟨by simp,hh,ht8,by simp,jr _ _⟩ (by repeat (first | exact qb | refine Sub.cons rfl ?_)) (fun ⟨i,h9⟩ w9 ⟨hi9,hh9,ht9,ha9,hg9⟩=>?_)
   simp only at hi9 hh9 ht9 ha9
   have hR9:=hR8.keep hg9 (fun q hq e=>by injection hq with hq; exact hA8 (by rw [e,hq]))
   repeat (first | refine zd ?_ | refine zb ?_ | refine zf ?_ | refine za ?_ | refine zg rfl (zc qY rfl) ?_)
   refine zp rfl (fun h=>?_) (fun h=>?_)
   ·simp only [decide_eq_true_eq] at h
    repeat (first | refine zd ?_ | refine WC.block ?_ | refine zb ?_ | refine za ?_ | refine zo ?_ | refine zg rfl (Yld.add rfl rfl (by simp only [In]; omega)) ?_ | refine zg rfl (zc qY rfl) ?_)
    refine WL.cut qY hR9 rfl rfl rfl rfl rfl rfl (by omega) (by omega) (by omega) (fun A10 c10 hR10 hA10=>?_)
    refine WL.call rfl rfl (mix_fn gt h9 _ A10 c10 _ w9 hh9 ht9 hR10 (by simp; omega)) ?_
    rintro _ w10 ⟨rfl,hB10,hg10⟩
    repeat (first | refine zb ?_ | refine zf ?_ | refine za ?_ | refine zi ?_ | refine zg rfl (Yld.add rfl rfl (by simp only [In]; omega)) ?_ | refine zg rfl (zc qY rfl) ?_)
    have ec1:(((64*i:Nat):Int)+64).toNat - ((64*i:Nat):Int).toNat=64:=by omega
    have ec2:((64*i:Nat):Int).toNat=64*i:=by omega
    simp only [ec1] at hB10
    simp only [ec2] at hB10
    have hd:64<=(en.drop (64*i)).length:=by rw [List.length_drop]; omega
    obtain ⟨q,hq⟩:∃ q,en.length - i=q+1:=⟨en.length - i - 1,by omega⟩
    refine qw (i+1,mixS h9 ((en.drop (64*i)).take 64)) ⟨by simp only; omega,by rw [mixS_len]; exact hh9,hB10,?_,ja hg9 hg10⟩ (by simp only; omega) ?_
    ·rw [<-ha9,hq,ky,if_pos hd,List.drop_drop]
     simp only
     rw [show en.length - (i+1)=q by omega,show 64*i+64=64*(i+1) by omega]
    ·refine Sub.cons ?_ (by repeat (first | exact qb | refine Sub.cons rfl ?_))
     show some (vi (((64*i:Nat):Int)+64))=some (vi ((64*(i+1):Nat):Int))
     rw [show ((64*i:Nat):Int)+64=((64*(i+1):Nat):Int) by omega]
   ·simp only [decide_eq_false_iff_not] at h
    have hnil:en.drop (64*i)=[]:=List.drop_eq_nil_of_le (by omega)
    have habs:∀ k,ky k h9 []=(h9,[]):=fun k=>by
     cases k with
     | zero=>rfl
     | succ k=>rw [ky,if_neg (by simp)]
    have hfin:(ky en.length hs en).1=h9:=by rw [<-ha9,hnil,habs]
    have hres:sumS hs r n=outAt h9 32:=by
     rw [sumS,<-hfin,<-hend,he7]
     rfl
    have ho9:=ho8.keep hg9 (fun e=>by injection e with e; have:=ho3.lt; omega)
    have hgr9:w.grownBy w9 none:=kq hgr8 hg9 (by omega)
    have hz9:=hg9.size
    clear hg9 hR9 hR8 ht8 ho8 hgr8
    repeat (first | refine zd ?_ | refine zb ?_ | refine za ?_ | refine zD ?_ | refine zj ?_ | refine zm ?_)
    refine WL.alloc rfl zero45 (fun gu w10 hu10 hg10 hlu=>?_)
    have ho10:=ho9.keep hg10 (by simp)
    have ht10:=ht9.keep hg10 (by simp)
    have hgr10:=ja hgr9 hg10
    have htlt:=ht10.lt
    have holt:=ho10.lt
    have holt9:=ho9.lt
    have htlt9:=ht9.lt
    repeat (first | refine zd ?_ | refine WC.block ?_ | refine zb ?_ | refine zf ?_ | refine za ?_ | refine zg rfl (zc qY rfl) ?_)
    refine qG (S:=Nat) (fun i=>32 - i) (fun i=>[(57,vi i),(8,.pointer (some ⟨gu,0,none⟩)),(3,.pointer (some ⟨gt,0,none⟩)),(2,.pointer (some ⟨go,0,none⟩))])
     (fun i w11=>i<=32/\Bl w11 gu 45 ((outAt h9 i).map vb)/\w10.grownBy w11 (some gu)) 0 ⟨by omega,by rw [outAt,List.map_replicate]; exact hu10,jr _ _⟩ (by repeat (first | exact qb | refine Sub.cons rfl ?_)) (fun i w11 ⟨hi,hu11,hg11⟩=>?_)
    have hol:=outAt_len h9 i
    have ht11:=ht10.keep hg11 (fun e=>by injection e with e; omega)
    have ho11:=ho10.keep hg11 (fun e=>by injection e with e; omega)
    repeat (first | refine zd ?_ | refine zb ?_ | refine zf ?_ | refine za ?_ | refine zg rfl (zc qY rfl) ?_)
    refine zp rfl (fun h=>?_) (fun h=>?_)
    ·simp only [decide_eq_true_eq] at h
     have hv:(stc h9 A c r n)[0+0+((i:Int) / 4).toNat*1]? = some (vu (h9.getD (i / 4) 0)):=by
      have e:0+0+((i:Int) / 4).toNat*1=i / 4:=by omega
      rw [e,stc,List.getElem?_append_left (by rw [List.length_map]; omega)]
      simp [List.getD,show i / 4<h9.length by omega]
     repeat (first | refine zg rfl (Yld.aaddrN qY rfl rfl rfl (by omega)) ?_ | refine zg rfl (qi qY rfl rfl rfl (by omega) (by omega)) ?_ | refine zg rfl (zk qY ht11 rfl rfl hv) ?_ | refine zg rfl (Yld.toB qY rfl rfl rfl) ?_ | refine zd ?_ | refine WC.block ?_ | refine zb ?_ | refine zf ?_ | refine za ?_ | refine zo ?_ | refine zg rfl (Yld.sub rfl rfl (by simp only [In]; omega)) ?_ | refine zg rfl (zE rfl rfl (by simp only [In]; omega)) ?_ | refine zg rfl (zH rfl rfl (by omega) (by omega) (by simp only [In]; omega)) ?_ | refine zg rfl (zI rfl rfl (by omega) (by omega)) ?_ | refine zg rfl (zA rfl rfl (by omega)) ?_ | refine zg rfl (zc qY rfl) ?_)
     refine zR one5 rfl rfl rfl hu11 (by rw [List.length_map]; omega) (fun w12 hu12 hg12=>?_)
     repeat (first | refine zb ?_ | refine zf ?_ | refine za ?_ | refine zi ?_ | refine zg rfl (Yld.add rfl rfl (by simp only [In]; omega)) ?_ | refine zg rfl (zc qY rfl) ?_)
     refine qw (i+1) ⟨by omega,?_,ja hg11 hg12⟩ (by omega) (by repeat (first | exact qb | refine Sub.cons rfl ?_))
     rw [show 0+i*1=i by omega] at hu12
     rw [outAt,List.map_set]
     exact hu12
    ·simp only [decide_eq_false_iff_not] at h
     obtain rfl:i=32:=by omega
     repeat (first | refine zg rfl (zQ (vs:=(outAt h9 32).map vb) qY hu11 rfl rfl (by rw [List.drop_zero,List.take_of_length_le]; simp [hol]) (by simp [hol])) ?_ | refine zd ?_ | refine zb ?_ | refine za ?_ | refine zD ?_ | refine zj ?_ | refine zm ?_)
     refine zP qY rfl rfl rfl (oneM One.b _) ho11 rfl (by simp [hol]) (fun w12 ho12 hg12=>?_)
     repeat (first | refine zf ?_ | refine za ?_ | refine zq ?_)
     refine qv qY rfl rfl rfl ho12 (by simp [hol]) ⟨by rw [hres],?_⟩
     exact kq (kq hgr10 hg11 (by have:=hgr9.size; omega)) hg12 hlo
end
 section
open Go Go.RowKit
attribute [local irreducible] WL WC WX WQ WK Yld Eff Fn
def digs:List UInt8:=[48,49,50,51,52,53,54,55,56,57,97,98,99,100,101,102]
def hexB (b:UInt8):List UInt8:=[digs.getD (shrV .u8 (b.toNat:Int) 4).toNat 0,digs.getD (bits .and .u8 (b.toNat:Int) 15).toNat 0]
def hexS (l:List UInt8):List UInt8:=l.flatMap hexB
theorem shr_4 (b:UInt8):0<=shrV .u8 (b.toNat:Int) 4/\shrV .u8 (b.toNat:Int) 4<16:=by
 have:=b.toNat_lt
 have e:shrV .u8 (b.toNat:Int) 4=(b.toNat:Int) / 16:=by
  unfold shrV
  rw [Int.fdiv_eq_ediv_of_nonneg _ (by decide)]
  rfl
 rw [e]
 omega
theorem and_15 (b:UInt8):0<=bits .and .u8 (b.toNat:Int) 15/\bits .and .u8 (b.toNat:Int) 15<16:=by
 have:=b.toNat_lt
 have e:bits .and .u8 (b.toNat:Int) 15=(b.toNat:Int) % 16:=by
  show IntKind.u8.wrap ((BitVec.ofInt 8 (b.toNat:Int) &&& BitVec.ofInt 8 15).toNat:Int)=_
  rw [BitVec.toNat_and]
  have e:(BitVec.ofInt 8 15).toNat=2^4 - 1:=by decide
  rw [e,Nat.and_two_pow_sub_one_eq_mod,BitVec.toNat_ofInt,IntKind.wrap_u8]
  omega
 rw [e]
 omega
theorem hexS_len (l:List UInt8):(hexS l).length=2*l.length:=by
 unfold hexS
 induction l with
 | nil=>rfl
 | cons b l ih=>rw [List.flatMap_cons,List.length_append,ih]; simp [hexB]; omega
theorem hexS_take (l:List UInt8) (k:Nat) (h:k<l.length):hexS (l.take (k+1))=hexS (l.take k)++hexB (l.getD k 0):=by
 unfold hexS
 rw [List.take_succ_eq_append_getElem h,List.flatMap_append]
 simp [List.getD,h]
theorem text_fn (l:List UInt8) (w:World) (hl:l.length=32):Fn Tryz.prog 74 ⟨[.agg ⟨l.map vb⟩]⟩ w fun v w'=>v=.string ⟨⟨hexS l⟩⟩/\w.grownBy w' none:=by
 have hml:(l.map vb).length=32:=by rw [List.length_map]; exact hl
 refine Fn.enter (by kernel_rfl) Tryz.func74 rfl Tryz.ntmps74 rfl ?_
 repeat (first | refine zd ?_ | refine zb ?_)
 refine qm rfl rfl rfl (fun g w1 hB hg hlt=>?_)
 repeat (first | refine zd ?_ | refine zb ?_ | refine zf ?_ | refine za ?_ | refine zg rfl (zc qY rfl) ?_)
 refine zg rfl (zQ (vs:=l.map vb) qY hB rfl rfl (by rw [List.drop_zero]; exact List.take_of_length_le (Nat.le_of_eq hml)) hml) ?_
 repeat (first | refine WC.block ?_ | refine zf ?_ | refine za ?_ | refine zg rfl (zc qY rfl) ?_)
 refine qG (S:=Nat × Option Addr × Nat) (fun s=>32 - s.1) (fun s=>[(7,vi s.1),(3,.slice s.2.1 (hexS (l.take s.1)).length s.2.2),(6,.agg ⟨l.map vb⟩)])
  (fun s w2=>s.1<=32/\Own vb w2 w.heap.size 5 s.2.1 s.2.2 (hexS (l.take s.1))/\w.grownBy w2 none) (0,none,0) ⟨by simp,Own.nil _ _ _ _,hg⟩ (by repeat (first | exact qb | refine Sub.cons rfl ?_)) (fun ⟨i,A2,c2⟩ w2 ⟨hi,hO2,hg2⟩=>?_)
 simp only at hi hO2
 repeat (first | refine zd ?_ | refine zb ?_ | refine zf ?_ | refine za ?_ | refine zg rfl (zc qY rfl) ?_)
 refine zp rfl (fun h=>?_) (fun h=>?_)
 ·simp only [decide_eq_true_eq] at h
  have hlt:i<l.length:=by omega
  have hv:(l.map vb)[i]? = some (vb (l.getD i 0)):=by simp [List.getD,hlt]
  repeat (first | refine zg rfl (Yld.aidxN qY rfl rfl rfl rfl (by omega) hv) ?_ | refine zd ?_ | refine WC.block ?_ | refine zb ?_ | refine zf ?_ | refine za ?_ | refine zo ?_ | refine zg rfl (zc qY rfl) ?_)
  have h4:=shr_4 (l.getD i 0)
  have h15:=and_15 (l.getD i 0)
  refine WC.chain (fun k => !(Nat.beq k 7 || Nat.beq k 8)) (fun _=>True) mixed (by kernel_rfl) (fun _ _=>trivial) ?_
  repeat (first | refine qy rfl rfl (fun _ _=>qF qY rfl rfl rfl (by first | exact h4.1 | exact h15.1) (by first | exact h4.2 | exact h15.2)) ?_ | refine qy rfl rfl (fun _ _=>zA rfl rfl (by omega)) ?_ | refine qy rfl rfl (fun _ _=>zc qY rfl) ?_)
  refine WK.put rfl rfl (Eff.lit (us:=(hexB (l.getD i 0)).map vb) qY rfl rfl (oneM One.b _) rfl (by omega)) (fun _ _ _=>trivial) ?_
  rintro _ w3 ⟨rfl,hL3,hg3⟩
  have hR3:=Rd.ofBl hL3 (m:=2) (by simp [hexB]) (by simp [maxLen])
  have hxl:(hexS (l.take i)).length<=64:=by rw [hexS_len,List.length_take]; omega
  have hO3:=hO2.grown hg3
  refine WK.put rfl rfl (Eff.append qY rfl One.b hO3 rfl rfl hR3 rfl rfl (by simp [hexB]; omega) (by simp [maxLen,hexB]; omega) (by have:=hg2.size; have:=hg3.size; omega)) (fun _ _ _=>trivial) ?_
  rintro _ w4 ⟨A4,c4,rfl,hO4,hg4,hf4⟩
  repeat (refine qy rfl rfl (fun _ _=>zc qY rfl) ?_)
  refine WK.nil ?_
  repeat (first | refine zb ?_ | refine zf ?_ | refine za ?_ | refine zi ?_ | refine zg rfl (Yld.add rfl rfl (by simp only [In]; omega)) ?_ | refine zg rfl (zc qY rfl) ?_)
  rw [<-hexS_take l i hlt] at hO4 |-
  exact qw (i+1,A4,c4) ⟨by simp only; omega,hO4,gr_own (ja hg2 hg3) hO3 hg4 (Nat.le_refl _)⟩ (by simp only; omega) (by repeat (first | exact qb | refine Sub.cons rfl ?_))
 ·simp only [decide_eq_false_iff_not] at h
  obtain rfl:i=32:=by omega
  rw [List.take_of_length_le (by omega)] at hO2
  repeat (first | refine zd ?_ | refine zb ?_ | refine za ?_ | refine zD ?_ | refine zj ?_ | refine zm ?_ | refine zg rfl (zc qY rfl) ?_)
  refine zg rfl (Yld.b2s qY hO2.rd rfl rfl rfl rfl (by rw [List.take_of_length_le]; omega)) ?_
  repeat (first | refine zf ?_ | refine za ?_ | refine zq ?_ | refine zg rfl (zc qY rfl) ?_)
  exact zw rfl rfl ⟨rfl,hg2⟩
def shaS (b:List UInt8):List UInt8:=sumS (wrS h0s [] b).1 (wrS h0s [] b).2 b.length
theorem wrS_len (hs:List Int) (r b:List UInt8):(wrS hs r b).2.length<64:=by
 have key:∀ (m:Nat) (hs:List Int) (al:List UInt8),al.length<=m->(ky m hs al).2.length<64:=by
  intro m
  induction m with
  | zero=>intro hs al h; simp [ky]; omega
  | succ m ih =>
   intro hs al h
   rw [ky]
   split
   ·exact ih _ _ (by rw [List.length_drop]; omega)
   ·simp only; omega
 exact key _ hs (r++b) (Nat.le_refl _)
theorem of_fn (A:Option Addr) (c:Nat) (b:List UInt8) (w:World) (hR:Rd vb w A c b) (hb:b.length<=1000000):Fn Tryz.prog 48 ⟨[.slice A b.length c]⟩ w fun v w'=>v=.agg ⟨(shaS b).map vb⟩/\w.grownBy w' none:=by
 refine Fn.enter (by kernel_rfl) Tryz.func48 rfl Tryz.ntmps48 rfl ?_
 repeat (first | refine zd ?_ | refine zb ?_)
 refine WL.alloc rfl zero45 (fun go w1 ho1 hg1 hlo=>?_)
 repeat (first | refine zd ?_ | refine zb ?_ | refine zf ?_ | refine za ?_)
 refine WL.call rfl rfl (new_fn w1) ?_
 rintro _ w2 ⟨g,rfl,hB2,hg2,hlg⟩
 have hR2:=(hR.grown hg1).grown hg2
 have hz1:=hg1.size
 have hol:=ho1.lt
 have hA:b≠[]->blk A≠some g:=fun hb0 e=>by have:=hR.lt hb0 e; omega
 have hS2:St w2 g h0s [] 0:=⟨rfl,none,0,hB2,Rd.nil _ _ (by simp [maxLen]),by simp [blk]⟩
 repeat (first | refine zd ?_ | refine zb ?_ | refine zf ?_ | refine za ?_ | refine zg rfl (zc qY rfl) ?_)
 refine WL.call rfl rfl (write_fn g h0s [] 0 A c b w2 hS2 hR2 hA (by omega) (by omega) (by simp) hb) ?_
 rintro _ w3 ⟨rfl,hS3,hg3⟩
 repeat (first | refine zd ?_ | refine zb ?_ | refine zf ?_ | refine za ?_ | refine zg rfl (zc qY rfl) ?_)
 rw [Int.zero_add] at hS3
 refine WL.call rfl rfl (sum_fn g _ _ _ w3 hS3 (by omega) (by omega) (by have:=wrS_len h0s [] b; omega)) ?_
 rintro _ w4 ⟨rfl,hg4⟩
 have hgr3:w.grownBy w3 none:=kq (ja hg1 hg2) hg3 (by omega)
 have ho4:=((ho1.keep hg2 (by simp)).keep hg3 (fun e=>by injection e with e; omega)).keep hg4 (by simp)
 have hsl:=sumS_len (wrS h0s [] b).1 (wrS h0s [] b).2 b.length
 refine zP qY rfl rfl rfl (oneM One.b _) ho4 rfl (by rw [List.length_map]; exact hsl) (fun w5 ho5 hg5=>?_)
 repeat (first | refine zf ?_ | refine za ?_ | refine zq ?_)
 exact qv qY rfl rfl rfl ho5 (by rw [List.length_map]; exact hsl) ⟨rfl,kq (ja hgr3 hg4) hg5 hlo⟩
def be4 (n:Nat):List UInt8:=[u8v (shrV .i64 (n:Int) 24),u8v (shrV .i64 (n:Int) 16),u8v (shrV .i64 (n:Int) 8),u8v (n:Int)]
def stepM (s:List Int × List UInt8 × Int) (x:List UInt8):List Int × List UInt8 × Int :=
 let a:=wrS s.1 s.2.1 (be4 x.length)
 let b:=wrS a.1 a.2 x
 (b.1,b.2,s.2.2+4+x.length)
def manyS (l:List (List UInt8)):List UInt8 :=
 let s:=l.foldl stepM (h0s,[],0)
 sumS s.1 s.2.1 s.2.2
theorem foldM_n (l:List (List UInt8)) (hl:∀ x∈l,x.length<=10000):∀ s:List Int × List UInt8 × Int,0<=s.2.2->0<=(l.foldl stepM s).2.2/\(l.foldl stepM s).2.2<=s.2.2+10004*l.length:=by
 induction l with
 | nil=>intro s h; simp; omega
 | cons x l ih =>
  intro s h
  have hx:=hl x (by simp)
  have:=ih (fun y hy=>hl y (by simp [hy])) (stepM s x) (by simp [stepM]; omega)
  simp only [List.foldl_cons,List.length_cons]
  have e:(stepM s x).2.2=s.2.2+4+x.length:=rfl
  rw [e] at this
  omega
theorem many_fn (A:Option Addr) (c:Nat) (l:List (List UInt8)) (w:World) (hR:Rd vs w A c l) (hl:l.length<=100) (hx:∀ x∈l,x.length<=10000):Fn Tryz.prog 75 ⟨[.slice A l.length c]⟩ w fun v w'=>v=.agg ⟨(manyS l).map vb⟩/\w.grownBy w' none:=by
 refine Fn.enter (by kernel_rfl) Tryz.func75 rfl Tryz.ntmps75 rfl ?_
 repeat (first | refine zd ?_ | refine zb ?_)
 refine WL.alloc rfl zero45 (fun go w1 ho1 hg1 hlo=>?_)
 repeat (first | refine zd ?_ | refine zb ?_ | refine zf ?_ | refine za ?_)
 refine WL.call rfl rfl (new_fn w1) ?_
 rintro _ w2 ⟨g,rfl,hB2,hg2,hlg⟩
 have hol:=ho1.lt
 have hz1:=hg1.size
 have ho2:=ho1.keep hg2 (by simp)
 have hS2:St w2 g h0s [] 0:=⟨rfl,none,0,hB2,Rd.nil _ _ (by simp [maxLen]),by simp [blk]⟩
 have hgr2:=ja hg1 hg2
 have hgl2:=hB2.lt
 repeat (first | refine zd ?_ | refine WC.block ?_ | refine zb ?_ | refine zf ?_ | refine za ?_ | refine zg rfl (zc qY rfl) ?_)
 refine qG (S:=Nat) (fun i=>l.length - i) (fun i=>[(10,vi i),(9,vi l.length),(8,.slice A l.length c),(3,.pointer (some ⟨g,0,none⟩)),(2,.pointer (some ⟨go,0,none⟩))])
  (fun i w3=>i<=l.length/\St w3 g ((l.take i).foldl stepM (h0s,[],0)).1 ((l.take i).foldl stepM (h0s,[],0)).2.1 ((l.take i).foldl stepM (h0s,[],0)).2.2/\((l.take i).foldl stepM (h0s,[],0)).2.1.length<64/\w2.grownBy w3 (some g)) 0 ⟨by omega,hS2,by simp,jr _ _⟩ (by repeat (first | exact qb | refine Sub.cons rfl ?_)) (fun i w3 ⟨hi,hS3,hr3,hg3⟩=>?_)
 have hgr3:w.grownBy w3 none:=kq hgr2 hg3 (by omega)
 have hR3:=hR.grown hgr3
 have hz3:=hg3.size
 have hn3:=foldM_n (l.take i) (fun x hm=>hx x (List.mem_of_mem_take hm)) (h0s,[],0) (by simp)
 have htl:(l.take i).length<=100:=by rw [List.length_take]; omega
 simp only at hn3
 repeat (first | refine zd ?_ | refine zb ?_ | refine zf ?_ | refine za ?_ | refine zg rfl (zc qY rfl) ?_)
 refine zp rfl (fun h=>?_) (fun h=>?_)
 ·simp only [decide_eq_true_eq] at h
  have hlt:i<l.length:=by omega
  have hxl:(l.getD i []).length<=10000:=hx _ (by simp [List.getD,hlt])
  have hnext:(l.take (i+1)).foldl stepM (h0s,[],0)=stepM ((l.take i).foldl stepM (h0s,[],0)) (l.getD i []):=by
   rw [List.take_succ_eq_append_getElem hlt,List.foldl_append]
   simp [List.getD,hlt]
  repeat (first | refine zg rfl (qV qY hR3 rfl rfl rfl rfl (by omega)) ?_ | refine zg rfl (zN [] qY hR3 rfl rfl (by omega)) ?_ | refine zg rfl (Yld.toB qY rfl rfl rfl) ?_ | refine zd ?_ | refine WC.block ?_ | refine zb ?_ | refine zf ?_ | refine za ?_ | refine zo ?_ | refine zg rfl (zA rfl rfl (by omega)) ?_ | refine zg rfl (zc qY rfl) ?_)
  generalize (l.take i).foldl stepM (h0s,[],0)=s3 at *
  refine qD (us:=(be4 (l.getD i []).length).map vb) qY rfl rfl rfl (oneM One.b _) rfl (by omega) (fun gl w4 hL4 hg4 hl4=>?_)
  have hRl:Rd vb w4 (some ⟨gl,0,none⟩) 4 (be4 (l.getD i []).length):=Rd.ofBl hL4 (by simp [be4]) (by simp [maxLen])
  have hS4:St w4 g s3.1 s3.2.1 s3.2.2:=by
   obtain ⟨q1,A',c',q2,q3,q4⟩:=hS3
   exact ⟨q1,A',c',q2.keep hg4 (by simp),q3.grown hg4,q4⟩
  refine WL.call rfl rfl (write_fn g _ _ _ (some ⟨gl,0,none⟩) 4 _ w4 hS4 hRl (fun _ e=>by simp [blk] at e; omega) (by omega) (by omega) (by omega) (by simp [be4])) ?_
  rintro _ w5 ⟨rfl,hS5,hg5⟩
  have hr5:=wrS_len s3.1 s3.2.1 (be4 (l.getD i []).length)
  repeat (first | refine zb ?_ | refine zf ?_ | refine za ?_ | refine zg rfl (zc qY rfl) ?_)
  refine WL.s2b qY rfl rfl rfl rfl rfl (by unfold maxLen; omega) (fun A6 c6 w6 hR6 hg6 hf6=>?_)
  have hS6:St w6 g (wrS s3.1 s3.2.1 (be4 (l.getD i []).length)).1 (wrS s3.1 s3.2.1 (be4 (l.getD i []).length)).2 (s3.2.2+(be4 (l.getD i []).length).length):=by
   obtain ⟨q1,A',c',q2,q3,q4⟩:=hS5
   exact ⟨q1,A',c',q2.keep hg6 (by simp),q3.grown hg6,q4⟩
  have hbl:(be4 (l.getD i []).length).length=4:=rfl
  have hz4:=hg4.size
  have hz5:=hg5.size
  refine WL.call rfl rfl (write_fn g _ _ _ A6 c6 _ w6 hS6 hR6 (fun _ e=>by have:=hf6 _ e; omega) (by omega) (by omega) (by omega) (by omega)) ?_
  rintro _ w7 ⟨rfl,hS7,hg7⟩
  repeat (first | refine zb ?_ | refine zf ?_ | refine za ?_ | refine zi ?_ | refine zg rfl (Yld.add rfl rfl (by simp only [In]; omega)) ?_ | refine zg rfl (zc qY rfl) ?_)
  refine qw (i+1) ⟨by omega,?_,?_,?_⟩ (by omega) (by repeat (first | exact qb | refine Sub.cons rfl ?_))
  ·rw [hnext]
   rw [hbl] at hS7
   exact hS7
  ·rw [hnext]; exact wrS_len _ _ _
  ·exact ja (ja (ja (ja hg3 (gr_some hg4 _)) hg5) (gr_some hg6 _)) hg7
 ·simp only [decide_eq_false_iff_not] at h
  obtain rfl:i=l.length:=by omega
  rw [List.take_of_length_le (Nat.le_refl _)] at *
  repeat (first | refine zd ?_ | refine zb ?_ | refine za ?_ | refine zD ?_ | refine zj ?_ | refine zm ?_ | refine zg rfl (zc qY rfl) ?_)
  refine WL.call rfl rfl (sum_fn g _ _ _ w3 hS3 (by omega) (by omega) (by omega)) ?_
  rintro _ w4 ⟨rfl,hg4⟩
  have ho4:=(ho2.keep hg3 (fun e=>by injection e with e; omega)).keep hg4 (by simp)
  have hsl:(manyS l).length=32:=sumS_len _ _ _
  refine zP (vs:=(manyS l).map vb) qY rfl rfl rfl (oneM One.b _) ho4 rfl (by rw [List.length_map]; exact hsl) (fun w5 ho5 hg5=>?_)
  repeat (first | refine zf ?_ | refine za ?_ | refine zq ?_)
  exact qv qY rfl rfl rfl ho5 (by rw [List.length_map]; exact hsl) ⟨rfl,kq (ja hgr3 hg4) hg5 hlo⟩
end
 section
open Go Go.RowKit
attribute [local irreducible] WL WC WX WQ WK Yld Eff Fn
theorem shaS_len (b:List UInt8):(shaS b).length=32:=sumS_len _ _ _
theorem manyS_len (l:List (List UInt8)):(manyS l).length=32:=sumS_len _ _ _
def D (hs:List Int) (all:List UInt8):List Int × List UInt8:=ky all.length hs all
theorem absorb_fuel (hs:List Int) (all:List UInt8):∀ m,all.length<=m->ky m hs all=D hs all:=by
 intro m
 induction m with
 | zero=>intro h; unfold D; rw [Nat.le_zero.mp h]
 | succ m ih =>
  intro h
  rcases Nat.lt_or_ge m all.length with h1 | h1
  ·unfold D; rw [show all.length=m+1 by omega]
  ·rw [absorb_more m hs all h1]; exact ih h1
theorem D_step (hs:List Int) (all:List UInt8):D hs all=if 64<=all.length then D (mixS hs (all.take 64)) (all.drop 64) else (hs,all):=by
 have e:=absorb_fuel hs all (all.length+1) (by omega)
 rw [<-e,ky]
 split
 ·exact absorb_fuel _ _ _ (by rw [List.length_drop]; omega)
 ·rfl
theorem D_app (y:List UInt8):∀ (n:Nat) (hs:List Int) (x:List UInt8),x.length<=n->D hs (x++y)=D (D hs x).1 ((D hs x).2++y)
 | 0,hs,x,h=>by
  have:x=[]:=List.length_eq_zero_iff.mp (by omega)
  subst this
  rfl
 | n+1,hs,x,h=>by
  rcases Nat.lt_or_ge x.length 64 with h1 | h1
  ·rw [D_step hs x,if_neg (by omega)]
  ·rw [D_step hs (x++y),if_pos (by rw [List.length_append]; omega),D_step hs x,if_pos h1,List.take_append_of_le_length h1,List.drop_append_of_le_length h1]
   exact D_app y n _ _ (by rw [List.length_drop]; omega)
theorem wrS_app (hs:List Int) (r a b:List UInt8):wrS hs r (a++b)=wrS (wrS hs r a).1 (wrS hs r a).2 b:=by
 show D hs (r++(a++b))=D (D hs (r++a)).1 ((D hs (r++a)).2++b)
 rw [<-List.append_assoc]
 exact D_app b _ hs (r++a) (Nat.le_refl _)
theorem wrS_nil (hs:List Int) (r:List UInt8) (h:r.length<64):wrS hs r []=(hs,r):=by
 show D hs (r++[])=_
 rw [List.append_nil,D_step,if_neg (by omega)]
def catM (l:List (List UInt8)):List UInt8:=l.flatMap fun x=>be4 x.length++x
theorem catM_app (a b:List (List UInt8)):catM (a++b)=catM a++catM b:=by simp [catM]
theorem fold_catM:∀ (l:List (List UInt8)) (hs:List Int) (r:List UInt8) (n:Int),r.length<64->l.foldl stepM (hs,r,n)=((wrS hs r (catM l)).1,(wrS hs r (catM l)).2,n+(catM l).length)
 | [],hs,r,n,h=>by simp [catM,wrS_nil hs r h]
 | x :: l,hs,r,n,h=>by
  rw [List.foldl_cons]
  show l.foldl stepM ((wrS (wrS hs r (be4 x.length)).1 (wrS hs r (be4 x.length)).2 x).1,(wrS (wrS hs r (be4 x.length)).1 (wrS hs r (be4 x.length)).2 x).2,n+4+x.length)=_
  rw [fold_catM l _ _ _ (wrS_len _ _ _),<-wrS_app,<-wrS_app]
  have e:catM (x :: l)=be4 x.length++x++catM l:=rfl
  have hb:(be4 x.length).length=4:=rfl
  rw [e,List.length_append,List.length_append,hb]
  congr 2
  omega
theorem manyS_eq (l:List (List UInt8)):manyS l=shaS (catM l):=by
 unfold manyS shaS
 rw [fold_catM l h0s [] 0 (by simp)]
 simp
theorem catM_take (l:List (List UInt8)) (i:Nat) (h:i<l.length):catM (l.take (i+1))=catM (l.take i)++(be4 (l.getD i []).length++l.getD i []):=by
 rw [List.take_succ_eq_append_getElem h,catM_app]
 simp [catM,List.getD,h]
end
 section
open Go Go.RowKit
attribute [local irreducible] WL WC WX WQ WK Yld Eff Ef0 Fn
def digV (c:UInt8):Option Nat:=if 48<=c.toNat/\c.toNat<=57 then some (c.toNat - 48) else if 97<=c.toNat/\c.toNat<=102 then some (c.toNat - 87) else none
theorem digV_lt {c:UInt8} {n:Nat} (h:digV c=some n):n<16:=by
 unfold digV at h
 split at h
 ·injection h with h; omega
 ·split at h
  ·injection h with h; omega
  ·cases h
def digR (c:UInt8):Value:=.tuple #[.int .u8 (((digV c).getD 0:Nat):Int),.bool (digV c).isSome]
theorem digit_fn (c:UInt8) (w:World):Fn Tryz.prog 119 ⟨[vb c]⟩ w fun v w'=>v=digR c/\w'=w:=by
 have hc:=c.toNat_lt
 refine Fn.enter (by kernel_rfl) Tryz.func119 rfl Tryz.ntmps119 rfl ?_
 repeat (first | refine zd ?_ | refine WC.block ?_ | refine zb ?_ | refine zf ?_ | refine za ?_ | refine zo ?_ | refine zD ?_ | refine zq ?_ | refine zj ?_ | refine zh ?_ | refine zi ?_ | refine zn ?_ | refine zm ?_ | refine zy rfl ?_ | refine zT ?_ | refine zU ?_ | refine zv ?_ | refine zJ ?_ | refine zF ?_ | refine zg rfl (Yld.add rfl rfl (by simp only [In]; omega)) ?_ | refine zg rfl (Yld.sub rfl rfl (by simp only [In]; omega)) ?_ | refine zg rfl (zE rfl rfl (by simp only [In]; omega)) ?_ | refine zg rfl (zu qY rfl rfl rfl rfl) ?_ | refine zg rfl (zz qY rfl rfl rfl (by simp only [In]; omega)) ?_ | refine zg rfl (zH rfl rfl (by omega) (by omega) (by simp only [In]; omega)) ?_ | refine zg rfl (zI rfl rfl (by omega) (by omega)) ?_ | refine zg rfl (zG rfl rfl (by omega)) ?_ | refine zg rfl (zA rfl rfl (by omega)) ?_ | refine zg rfl (zc qY rfl) ?_ | refine zg rfl (zM jh rfl rfl rfl) ?_ | refine zg rfl (zB rfl rfl) ?_ | refine zg rfl (zC rfl rfl) ?_ | refine zg rfl (zx rfl rfl rfl) ?_ | refine zV rfl rfl rfl rfl ?_ | refine ze rfl rfl rfl rfl (Yld.add rfl rfl (by simp only [In]; omega)) ?_ | refine ze rfl rfl rfl rfl (Yld.sub rfl rfl (by simp only [In]; omega)) ?_ | refine ze rfl rfl rfl rfl (zE rfl rfl (by simp only [In]; omega)) ?_ | refine ze rfl rfl rfl rfl (zu qY rfl rfl rfl rfl) ?_ | refine ze rfl rfl rfl rfl (zz qY rfl rfl rfl (by simp only [In]; omega)) ?_ | refine ze rfl rfl rfl rfl (zH rfl rfl (by omega) (by omega) (by simp only [In]; omega)) ?_ | refine ze rfl rfl rfl rfl (zI rfl rfl (by omega) (by omega)) ?_ | refine ze rfl rfl rfl rfl (zG rfl rfl (by omega)) ?_ | refine ze rfl rfl rfl rfl (zA rfl rfl (by omega)) ?_ | refine ze rfl rfl rfl rfl (zc qY rfl) ?_ | refine ze rfl rfl rfl rfl (zM jh rfl rfl rfl) ?_ | refine ze rfl rfl rfl rfl (zB rfl rfl) ?_ | refine ze rfl rfl rfl rfl (zC rfl rfl) ?_ | refine ze rfl rfl rfl rfl (zx rfl rfl rfl) ?_)
 generalize hb:decide ((48:Int)<=(c.toNat:Int))=b
 cases b
 ·simp only [decide_eq_false_iff_not] at hb
  repeat (first | refine zd ?_ | refine WC.block ?_ | refine zb ?_ | refine zf ?_ | refine za ?_ | refine zo ?_ | refine zD ?_ | refine zq ?_ | refine zj ?_ | refine zh ?_ | refine zi ?_ | refine zn ?_ | refine zm ?_ | refine zy rfl ?_ | refine zT ?_ | refine zU ?_ | refine zv ?_ | refine zJ ?_ | refine zF ?_ | refine zg rfl (Yld.add rfl rfl (by simp only [In]; omega)) ?_ | refine zg rfl (Yld.sub rfl rfl (by simp only [In]; omega)) ?_ | refine zg rfl (zE rfl rfl (by simp only [In]; omega)) ?_ | refine zg rfl (zu qY rfl rfl rfl rfl) ?_ | refine zg rfl (zz qY rfl rfl rfl (by simp only [In]; omega)) ?_ | refine zg rfl (zH rfl rfl (by omega) (by omega) (by simp only [In]; omega)) ?_ | refine zg rfl (zI rfl rfl (by omega) (by omega)) ?_ | refine zg rfl (zG rfl rfl (by omega)) ?_ | refine zg rfl (zA rfl rfl (by omega)) ?_ | refine zg rfl (zc qY rfl) ?_ | refine zg rfl (zM jh rfl rfl rfl) ?_ | refine zg rfl (zB rfl rfl) ?_ | refine zg rfl (zC rfl rfl) ?_ | refine zg rfl (zx rfl rfl rfl) ?_ | refine zV rfl rfl rfl rfl ?_ | refine ze rfl rfl rfl rfl (Yld.add rfl rfl (by simp only [In]; omega)) ?_ | refine ze rfl rfl rfl rfl (Yld.sub rfl rfl (by simp only [In]; omega)) ?_ | refine ze rfl rfl rfl rfl (zE rfl rfl (by simp only [In]; omega)) ?_ | refine ze rfl rfl rfl rfl (zu qY rfl rfl rfl rfl) ?_ | refine ze rfl rfl rfl rfl (zz qY rfl rfl rfl (by simp only [In]; omega)) ?_ | refine ze rfl rfl rfl rfl (zH rfl rfl (by omega) (by omega) (by simp only [In]; omega)) ?_ | refine ze rfl rfl rfl rfl (zI rfl rfl (by omega) (by omega)) ?_ | refine ze rfl rfl rfl rfl (zG rfl rfl (by omega)) ?_ | refine ze rfl rfl rfl rfl (zA rfl rfl (by omega)) ?_ | refine ze rfl rfl rfl rfl (zc qY rfl) ?_ | refine ze rfl rfl rfl rfl (zM jh rfl rfl rfl) ?_ | refine ze rfl rfl rfl rfl (zB rfl rfl) ?_ | refine ze rfl rfl rfl rfl (zC rfl rfl) ?_ | refine ze rfl rfl rfl rfl (zx rfl rfl rfl) ?_)
  refine zp rfl (fun h=>by cases h) (fun _=>?_)
  repeat (first | refine zd ?_ | refine WC.block ?_ | refine zb ?_ | refine zf ?_ | refine za ?_ | refine zo ?_ | refine zD ?_ | refine zq ?_ | refine zj ?_ | refine zh ?_ | refine zi ?_ | refine zn ?_ | refine zm ?_ | refine zy rfl ?_ | refine zT ?_ | refine zU ?_ | refine zv ?_ | refine zJ ?_ | refine zF ?_ | refine zg rfl (Yld.add rfl rfl (by simp only [In]; omega)) ?_ | refine zg rfl (Yld.sub rfl rfl (by simp only [In]; omega)) ?_ | refine zg rfl (zE rfl rfl (by simp only [In]; omega)) ?_ | refine zg rfl (zu qY rfl rfl rfl rfl) ?_ | refine zg rfl (zz qY rfl rfl rfl (by simp only [In]; omega)) ?_ | refine zg rfl (zH rfl rfl (by omega) (by omega) (by simp only [In]; omega)) ?_ | refine zg rfl (zI rfl rfl (by omega) (by omega)) ?_ | refine zg rfl (zG rfl rfl (by omega)) ?_ | refine zg rfl (zA rfl rfl (by omega)) ?_ | refine zg rfl (zc qY rfl) ?_ | refine zg rfl (zM jh rfl rfl rfl) ?_ | refine zg rfl (zB rfl rfl) ?_ | refine zg rfl (zC rfl rfl) ?_ | refine zg rfl (zx rfl rfl rfl) ?_ | refine zV rfl rfl rfl rfl ?_ | refine ze rfl rfl rfl rfl (Yld.add rfl rfl (by simp only [In]; omega)) ?_ | refine ze rfl rfl rfl rfl (Yld.sub rfl rfl (by simp only [In]; omega)) ?_ | refine ze rfl rfl rfl rfl (zE rfl rfl (by simp only [In]; omega)) ?_ | refine ze rfl rfl rfl rfl (zu qY rfl rfl rfl rfl) ?_ | refine ze rfl rfl rfl rfl (zz qY rfl rfl rfl (by simp only [In]; omega)) ?_ | refine ze rfl rfl rfl rfl (zH rfl rfl (by omega) (by omega) (by simp only [In]; omega)) ?_ | refine ze rfl rfl rfl rfl (zI rfl rfl (by omega) (by omega)) ?_ | refine ze rfl rfl rfl rfl (zG rfl rfl (by omega)) ?_ | refine ze rfl rfl rfl rfl (zA rfl rfl (by omega)) ?_ | refine ze rfl rfl rfl rfl (zc qY rfl) ?_ | refine ze rfl rfl rfl rfl (zM jh rfl rfl rfl) ?_ | refine ze rfl rfl rfl rfl (zB rfl rfl) ?_ | refine ze rfl rfl rfl rfl (zC rfl rfl) ?_ | refine ze rfl rfl rfl rfl (zx rfl rfl rfl) ?_)
  generalize hb2:decide ((97:Int)<=(c.toNat:Int))=b2
  cases b2
  ·repeat (first | refine zd ?_ | refine WC.block ?_ | refine zb ?_ | refine zf ?_ | refine za ?_ | refine zo ?_ | refine zD ?_ | refine zq ?_ | refine zj ?_ | refine zh ?_ | refine zi ?_ | refine zn ?_ | refine zm ?_ | refine zy rfl ?_ | refine zT ?_ | refine zU ?_ | refine zv ?_ | refine zJ ?_ | refine zF ?_ | refine zg rfl (Yld.add rfl rfl (by simp only [In]; omega)) ?_ | refine zg rfl (Yld.sub rfl rfl (by simp only [In]; omega)) ?_ | refine zg rfl (zE rfl rfl (by simp only [In]; omega)) ?_ | refine zg rfl (zu qY rfl rfl rfl rfl) ?_ | refine zg rfl (zz qY rfl rfl rfl (by simp only [In]; omega)) ?_ | refine zg rfl (zH rfl rfl (by omega) (by omega) (by simp only [In]; omega)) ?_ | refine zg rfl (zI rfl rfl (by omega) (by omega)) ?_ | refine zg rfl (zG rfl rfl (by omega)) ?_ | refine zg rfl (zA rfl rfl (by omega)) ?_ | refine zg rfl (zc qY rfl) ?_ | refine zg rfl (zM jh rfl rfl rfl) ?_ | refine zg rfl (zB rfl rfl) ?_ | refine zg rfl (zC rfl rfl) ?_ | refine zg rfl (zx rfl rfl rfl) ?_ | refine zV rfl rfl rfl rfl ?_ | refine ze rfl rfl rfl rfl (Yld.add rfl rfl (by simp only [In]; omega)) ?_ | refine ze rfl rfl rfl rfl (Yld.sub rfl rfl (by simp only [In]; omega)) ?_ | refine ze rfl rfl rfl rfl (zE rfl rfl (by simp only [In]; omega)) ?_ | refine ze rfl rfl rfl rfl (zu qY rfl rfl rfl rfl) ?_ | refine ze rfl rfl rfl rfl (zz qY rfl rfl rfl (by simp only [In]; omega)) ?_ | refine ze rfl rfl rfl rfl (zH rfl rfl (by omega) (by omega) (by simp only [In]; omega)) ?_ | refine ze rfl rfl rfl rfl (zI rfl rfl (by omega) (by omega)) ?_ | refine ze rfl rfl rfl rfl (zG rfl rfl (by omega)) ?_ | refine ze rfl rfl rfl rfl (zA rfl rfl (by omega)) ?_ | refine ze rfl rfl rfl rfl (zc qY rfl) ?_ | refine ze rfl rfl rfl rfl (zM jh rfl rfl rfl) ?_ | refine ze rfl rfl rfl rfl (zB rfl rfl) ?_ | refine ze rfl rfl rfl rfl (zC rfl rfl) ?_ | refine ze rfl rfl rfl rfl (zx rfl rfl rfl) ?_)
   refine zp rfl (fun h=>by cases h) (fun _=>?_)
   repeat (first | refine zd ?_ | refine WC.block ?_ | refine zb ?_ | refine zf ?_ | refine za ?_ | refine zo ?_ | refine zD ?_ | refine zq ?_ | refine zj ?_ | refine zh ?_ | refine zi ?_ | refine zn ?_ | refine zm ?_ | refine zy rfl ?_ | refine zT ?_ | refine zU ?_ | refine zv ?_ | refine zJ ?_ | refine zF ?_ | refine zg rfl (Yld.add rfl rfl (by simp only [In]; omega)) ?_ | refine zg rfl (Yld.sub rfl rfl (by simp only [In]; omega)) ?_ | refine zg rfl (zE rfl rfl (by simp only [In]; omega)) ?_ | refine zg rfl (zu qY rfl rfl rfl rfl) ?_ | refine zg rfl (zz qY rfl rfl rfl (by simp only [In]; omega)) ?_ | refine zg rfl (zH rfl rfl (by omega) (by omega) (by simp only [In]; omega)) ?_ | refine zg rfl (zI rfl rfl (by omega) (by omega)) ?_ | refine zg rfl (zG rfl rfl (by omega)) ?_ | refine zg rfl (zA rfl rfl (by omega)) ?_ | refine zg rfl (zc qY rfl) ?_ | refine zg rfl (zM jh rfl rfl rfl) ?_ | refine zg rfl (zB rfl rfl) ?_ | refine zg rfl (zC rfl rfl) ?_ | refine zg rfl (zx rfl rfl rfl) ?_ | refine zV rfl rfl rfl rfl ?_ | refine ze rfl rfl rfl rfl (Yld.add rfl rfl (by simp only [In]; omega)) ?_ | refine ze rfl rfl rfl rfl (Yld.sub rfl rfl (by simp only [In]; omega)) ?_ | refine ze rfl rfl rfl rfl (zE rfl rfl (by simp only [In]; omega)) ?_ | refine ze rfl rfl rfl rfl (zu qY rfl rfl rfl rfl) ?_ | refine ze rfl rfl rfl rfl (zz qY rfl rfl rfl (by simp only [In]; omega)) ?_ | refine ze rfl rfl rfl rfl (zH rfl rfl (by omega) (by omega) (by simp only [In]; omega)) ?_ | refine ze rfl rfl rfl rfl (zI rfl rfl (by omega) (by omega)) ?_ | refine ze rfl rfl rfl rfl (zG rfl rfl (by omega)) ?_ | refine ze rfl rfl rfl rfl (zA rfl rfl (by omega)) ?_ | refine ze rfl rfl rfl rfl (zc qY rfl) ?_ | refine ze rfl rfl rfl rfl (zM jh rfl rfl rfl) ?_ | refine ze rfl rfl rfl rfl (zB rfl rfl) ?_ | refine ze rfl rfl rfl rfl (zC rfl rfl) ?_ | refine ze rfl rfl rfl rfl (zx rfl rfl rfl) ?_)
   have:digV c=none:=by unfold digV; rw [if_neg (by omega),if_neg (by omega)]
   exact qg rfl rfl rfl ⟨by rw [digR,this]; rfl,rfl⟩
  ·simp only [decide_eq_true_eq] at hb2
   omega
 ·simp only [decide_eq_true_eq] at hb
  repeat (first | refine zd ?_ | refine WC.block ?_ | refine zb ?_ | refine zf ?_ | refine za ?_ | refine zo ?_ | refine zD ?_ | refine zq ?_ | refine zj ?_ | refine zh ?_ | refine zi ?_ | refine zn ?_ | refine zm ?_ | refine zy rfl ?_ | refine zT ?_ | refine zU ?_ | refine zv ?_ | refine zJ ?_ | refine zF ?_ | refine zg rfl (Yld.add rfl rfl (by simp only [In]; omega)) ?_ | refine zg rfl (Yld.sub rfl rfl (by simp only [In]; omega)) ?_ | refine zg rfl (zE rfl rfl (by simp only [In]; omega)) ?_ | refine zg rfl (zu qY rfl rfl rfl rfl) ?_ | refine zg rfl (zz qY rfl rfl rfl (by simp only [In]; omega)) ?_ | refine zg rfl (zH rfl rfl (by omega) (by omega) (by simp only [In]; omega)) ?_ | refine zg rfl (zI rfl rfl (by omega) (by omega)) ?_ | refine zg rfl (zG rfl rfl (by omega)) ?_ | refine zg rfl (zA rfl rfl (by omega)) ?_ | refine zg rfl (zc qY rfl) ?_ | refine zg rfl (zM jh rfl rfl rfl) ?_ | refine zg rfl (zB rfl rfl) ?_ | refine zg rfl (zC rfl rfl) ?_ | refine zg rfl (zx rfl rfl rfl) ?_ | refine zV rfl rfl rfl rfl ?_ | refine ze rfl rfl rfl rfl (Yld.add rfl rfl (by simp only [In]; omega)) ?_ | refine ze rfl rfl rfl rfl (Yld.sub rfl rfl (by simp only [In]; omega)) ?_ | refine ze rfl rfl rfl rfl (zE rfl rfl (by simp only [In]; omega)) ?_ | refine ze rfl rfl rfl rfl (zu qY rfl rfl rfl rfl) ?_ | refine ze rfl rfl rfl rfl (zz qY rfl rfl rfl (by simp only [In]; omega)) ?_ | refine ze rfl rfl rfl rfl (zH rfl rfl (by omega) (by omega) (by simp only [In]; omega)) ?_ | refine ze rfl rfl rfl rfl (zI rfl rfl (by omega) (by omega)) ?_ | refine ze rfl rfl rfl rfl (zG rfl rfl (by omega)) ?_ | refine ze rfl rfl rfl rfl (zA rfl rfl (by omega)) ?_ | refine ze rfl rfl rfl rfl (zc qY rfl) ?_ | refine ze rfl rfl rfl rfl (zM jh rfl rfl rfl) ?_ | refine ze rfl rfl rfl rfl (zB rfl rfl) ?_ | refine ze rfl rfl rfl rfl (zC rfl rfl) ?_ | refine ze rfl rfl rfl rfl (zx rfl rfl rfl) ?_)
  refine zp rfl (fun h=>?_) (fun h=>?_)
  ·simp only [cond_true,decide_eq_true_eq] at h
   repeat (first | refine zd ?_ | refine WC.block ?_ | refine zb ?_ | refine zf ?_ | refine za ?_ | refine zo ?_ | refine zD ?_ | refine zq ?_ | refine zj ?_ | refine zh ?_ | refine zi ?_ | refine zn ?_ | refine zm ?_ | refine zy rfl ?_ | refine zT ?_ | refine zU ?_ | refine zv ?_ | refine zJ ?_ | refine zF ?_ | refine zg rfl (Yld.add rfl rfl (by simp only [In]; omega)) ?_ | refine zg rfl (Yld.sub rfl rfl (by simp only [In]; omega)) ?_ | refine zg rfl (zE rfl rfl (by simp only [In]; omega)) ?_ | refine zg rfl (zu qY rfl rfl rfl rfl) ?_ | refine zg rfl (zz qY rfl rfl rfl (by simp only [In]; omega)) ?_ | refine zg rfl (zH rfl rfl (by omega) (by omega) (by simp only [In]; omega)) ?_ | refine zg rfl (zI rfl rfl (by omega) (by omega)) ?_ | refine zg rfl (zG rfl rfl (by omega)) ?_ | refine zg rfl (zA rfl rfl (by omega)) ?_ | refine zg rfl (zc qY rfl) ?_ | refine zg rfl (zM jh rfl rfl rfl) ?_ | refine zg rfl (zB rfl rfl) ?_ | refine zg rfl (zC rfl rfl) ?_ | refine zg rfl (zx rfl rfl rfl) ?_ | refine zV rfl rfl rfl rfl ?_ | refine ze rfl rfl rfl rfl (Yld.add rfl rfl (by simp only [In]; omega)) ?_ | refine ze rfl rfl rfl rfl (Yld.sub rfl rfl (by simp only [In]; omega)) ?_ | refine ze rfl rfl rfl rfl (zE rfl rfl (by simp only [In]; omega)) ?_ | refine ze rfl rfl rfl rfl (zu qY rfl rfl rfl rfl) ?_ | refine ze rfl rfl rfl rfl (zz qY rfl rfl rfl (by simp only [In]; omega)) ?_ | refine ze rfl rfl rfl rfl (zH rfl rfl (by omega) (by omega) (by simp only [In]; omega)) ?_ | refine ze rfl rfl rfl rfl (zI rfl rfl (by omega) (by omega)) ?_ | refine ze rfl rfl rfl rfl (zG rfl rfl (by omega)) ?_ | refine ze rfl rfl rfl rfl (zA rfl rfl (by omega)) ?_ | refine ze rfl rfl rfl rfl (zc qY rfl) ?_ | refine ze rfl rfl rfl rfl (zM jh rfl rfl rfl) ?_ | refine ze rfl rfl rfl rfl (zB rfl rfl) ?_ | refine ze rfl rfl rfl rfl (zC rfl rfl) ?_ | refine ze rfl rfl rfl rfl (zx rfl rfl rfl) ?_)
   have:digV c=some (c.toNat - 48):=by unfold digV; rw [if_pos (by omega)]
   refine qg rfl rfl rfl ⟨?_,rfl⟩
   rw [digR,this,Option.getD_some,show ((c.toNat - 48:Nat):Int)=(c.toNat:Int) - 48 by omega]
   rfl
  ·simp only [cond_true,decide_eq_false_iff_not] at h
   repeat (first | refine zd ?_ | refine WC.block ?_ | refine zb ?_ | refine zf ?_ | refine za ?_ | refine zo ?_ | refine zD ?_ | refine zq ?_ | refine zj ?_ | refine zh ?_ | refine zi ?_ | refine zn ?_ | refine zm ?_ | refine zy rfl ?_ | refine zT ?_ | refine zU ?_ | refine zv ?_ | refine zJ ?_ | refine zF ?_ | refine zg rfl (Yld.add rfl rfl (by simp only [In]; omega)) ?_ | refine zg rfl (Yld.sub rfl rfl (by simp only [In]; omega)) ?_ | refine zg rfl (zE rfl rfl (by simp only [In]; omega)) ?_ | refine zg rfl (zu qY rfl rfl rfl rfl) ?_ | refine zg rfl (zz qY rfl rfl rfl (by simp only [In]; omega)) ?_ | refine zg rfl (zH rfl rfl (by omega) (by omega) (by simp only [In]; omega)) ?_ | refine zg rfl (zI rfl rfl (by omega) (by omega)) ?_ | refine zg rfl (zG rfl rfl (by omega)) ?_ | refine zg rfl (zA rfl rfl (by omega)) ?_ | refine zg rfl (zc qY rfl) ?_ | refine zg rfl (zM jh rfl rfl rfl) ?_ | refine zg rfl (zB rfl rfl) ?_ | refine zg rfl (zC rfl rfl) ?_ | refine zg rfl (zx rfl rfl rfl) ?_ | refine zV rfl rfl rfl rfl ?_ | refine ze rfl rfl rfl rfl (Yld.add rfl rfl (by simp only [In]; omega)) ?_ | refine ze rfl rfl rfl rfl (Yld.sub rfl rfl (by simp only [In]; omega)) ?_ | refine ze rfl rfl rfl rfl (zE rfl rfl (by simp only [In]; omega)) ?_ | refine ze rfl rfl rfl rfl (zu qY rfl rfl rfl rfl) ?_ | refine ze rfl rfl rfl rfl (zz qY rfl rfl rfl (by simp only [In]; omega)) ?_ | refine ze rfl rfl rfl rfl (zH rfl rfl (by omega) (by omega) (by simp only [In]; omega)) ?_ | refine ze rfl rfl rfl rfl (zI rfl rfl (by omega) (by omega)) ?_ | refine ze rfl rfl rfl rfl (zG rfl rfl (by omega)) ?_ | refine ze rfl rfl rfl rfl (zA rfl rfl (by omega)) ?_ | refine ze rfl rfl rfl rfl (zc qY rfl) ?_ | refine ze rfl rfl rfl rfl (zM jh rfl rfl rfl) ?_ | refine ze rfl rfl rfl rfl (zB rfl rfl) ?_ | refine ze rfl rfl rfl rfl (zC rfl rfl) ?_ | refine ze rfl rfl rfl rfl (zx rfl rfl rfl) ?_)
   generalize hb2:decide ((97:Int)<=(c.toNat:Int))=b2
   cases b2
   ·simp only [decide_eq_false_iff_not] at hb2
    repeat (first | refine zd ?_ | refine WC.block ?_ | refine zb ?_ | refine zf ?_ | refine za ?_ | refine zo ?_ | refine zD ?_ | refine zq ?_ | refine zj ?_ | refine zh ?_ | refine zi ?_ | refine zn ?_ | refine zm ?_ | refine zy rfl ?_ | refine zT ?_ | refine zU ?_ | refine zv ?_ | refine zJ ?_ | refine zF ?_ | refine zg rfl (Yld.add rfl rfl (by simp only [In]; omega)) ?_ | refine zg rfl (Yld.sub rfl rfl (by simp only [In]; omega)) ?_ | refine zg rfl (zE rfl rfl (by simp only [In]; omega)) ?_ | refine zg rfl (zu qY rfl rfl rfl rfl) ?_ | refine zg rfl (zz qY rfl rfl rfl (by simp only [In]; omega)) ?_ | refine zg rfl (zH rfl rfl (by omega) (by omega) (by simp only [In]; omega)) ?_ | refine zg rfl (zI rfl rfl (by omega) (by omega)) ?_ | refine zg rfl (zG rfl rfl (by omega)) ?_ | refine zg rfl (zA rfl rfl (by omega)) ?_ | refine zg rfl (zc qY rfl) ?_ | refine zg rfl (zM jh rfl rfl rfl) ?_ | refine zg rfl (zB rfl rfl) ?_ | refine zg rfl (zC rfl rfl) ?_ | refine zg rfl (zx rfl rfl rfl) ?_ | refine zV rfl rfl rfl rfl ?_ | refine ze rfl rfl rfl rfl (Yld.add rfl rfl (by simp only [In]; omega)) ?_ | refine ze rfl rfl rfl rfl (Yld.sub rfl rfl (by simp only [In]; omega)) ?_ | refine ze rfl rfl rfl rfl (zE rfl rfl (by simp only [In]; omega)) ?_ | refine ze rfl rfl rfl rfl (zu qY rfl rfl rfl rfl) ?_ | refine ze rfl rfl rfl rfl (zz qY rfl rfl rfl (by simp only [In]; omega)) ?_ | refine ze rfl rfl rfl rfl (zH rfl rfl (by omega) (by omega) (by simp only [In]; omega)) ?_ | refine ze rfl rfl rfl rfl (zI rfl rfl (by omega) (by omega)) ?_ | refine ze rfl rfl rfl rfl (zG rfl rfl (by omega)) ?_ | refine ze rfl rfl rfl rfl (zA rfl rfl (by omega)) ?_ | refine ze rfl rfl rfl rfl (zc qY rfl) ?_ | refine ze rfl rfl rfl rfl (zM jh rfl rfl rfl) ?_ | refine ze rfl rfl rfl rfl (zB rfl rfl) ?_ | refine ze rfl rfl rfl rfl (zC rfl rfl) ?_ | refine ze rfl rfl rfl rfl (zx rfl rfl rfl) ?_)
    refine zp rfl (fun h=>by cases h) (fun _=>?_)
    repeat (first | refine zd ?_ | refine WC.block ?_ | refine zb ?_ | refine zf ?_ | refine za ?_ | refine zo ?_ | refine zD ?_ | refine zq ?_ | refine zj ?_ | refine zh ?_ | refine zi ?_ | refine zn ?_ | refine zm ?_ | refine zy rfl ?_ | refine zT ?_ | refine zU ?_ | refine zv ?_ | refine zJ ?_ | refine zF ?_ | refine zg rfl (Yld.add rfl rfl (by simp only [In]; omega)) ?_ | refine zg rfl (Yld.sub rfl rfl (by simp only [In]; omega)) ?_ | refine zg rfl (zE rfl rfl (by simp only [In]; omega)) ?_ | refine zg rfl (zu qY rfl rfl rfl rfl) ?_ | refine zg rfl (zz qY rfl rfl rfl (by simp only [In]; omega)) ?_ | refine zg rfl (zH rfl rfl (by omega) (by omega) (by simp only [In]; omega)) ?_ | refine zg rfl (zI rfl rfl (by omega) (by omega)) ?_ | refine zg rfl (zG rfl rfl (by omega)) ?_ | refine zg rfl (zA rfl rfl (by omega)) ?_ | refine zg rfl (zc qY rfl) ?_ | refine zg rfl (zM jh rfl rfl rfl) ?_ | refine zg rfl (zB rfl rfl) ?_ | refine zg rfl (zC rfl rfl) ?_ | refine zg rfl (zx rfl rfl rfl) ?_ | refine zV rfl rfl rfl rfl ?_ | refine ze rfl rfl rfl rfl (Yld.add rfl rfl (by simp only [In]; omega)) ?_ | refine ze rfl rfl rfl rfl (Yld.sub rfl rfl (by simp only [In]; omega)) ?_ | refine ze rfl rfl rfl rfl (zE rfl rfl (by simp only [In]; omega)) ?_ | refine ze rfl rfl rfl rfl (zu qY rfl rfl rfl rfl) ?_ | refine ze rfl rfl rfl rfl (zz qY rfl rfl rfl (by simp only [In]; omega)) ?_ | refine ze rfl rfl rfl rfl (zH rfl rfl (by omega) (by omega) (by simp only [In]; omega)) ?_ | refine ze rfl rfl rfl rfl (zI rfl rfl (by omega) (by omega)) ?_ | refine ze rfl rfl rfl rfl (zG rfl rfl (by omega)) ?_ | refine ze rfl rfl rfl rfl (zA rfl rfl (by omega)) ?_ | refine ze rfl rfl rfl rfl (zc qY rfl) ?_ | refine ze rfl rfl rfl rfl (zM jh rfl rfl rfl) ?_ | refine ze rfl rfl rfl rfl (zB rfl rfl) ?_ | refine ze rfl rfl rfl rfl (zC rfl rfl) ?_ | refine ze rfl rfl rfl rfl (zx rfl rfl rfl) ?_)
    have:digV c=none:=by unfold digV; rw [if_neg (by omega),if_neg (by omega)]
    exact qg rfl rfl rfl ⟨by rw [digR,this]; rfl,rfl⟩
   ·simp only [decide_eq_true_eq] at hb2
    repeat (first | refine zd ?_ | refine WC.block ?_ | refine zb ?_ | refine zf ?_ | refine za ?_ | refine zo ?_ | refine zD ?_ | refine zq ?_ | refine zj ?_ | refine zh ?_ | refine zi ?_ | refine zn ?_ | refine zm ?_ | refine zy rfl ?_ | refine zT ?_ | refine zU ?_ | refine zv ?_ | refine zJ ?_ | refine zF ?_ | refine zg rfl (Yld.add rfl rfl (by simp only [In]; omega)) ?_ | refine zg rfl (Yld.sub rfl rfl (by simp only [In]; omega)) ?_ | refine zg rfl (zE rfl rfl (by simp only [In]; omega)) ?_ | refine zg rfl (zu qY rfl rfl rfl rfl) ?_ | refine zg rfl (zz qY rfl rfl rfl (by simp only [In]; omega)) ?_ | refine zg rfl (zH rfl rfl (by omega) (by omega) (by simp only [In]; omega)) ?_ | refine zg rfl (zI rfl rfl (by omega) (by omega)) ?_ | refine zg rfl (zG rfl rfl (by omega)) ?_ | refine zg rfl (zA rfl rfl (by omega)) ?_ | refine zg rfl (zc qY rfl) ?_ | refine zg rfl (zM jh rfl rfl rfl) ?_ | refine zg rfl (zB rfl rfl) ?_ | refine zg rfl (zC rfl rfl) ?_ | refine zg rfl (zx rfl rfl rfl) ?_ | refine zV rfl rfl rfl rfl ?_ | refine ze rfl rfl rfl rfl (Yld.add rfl rfl (by simp only [In]; omega)) ?_ | refine ze rfl rfl rfl rfl (Yld.sub rfl rfl (by simp only [In]; omega)) ?_ | refine ze rfl rfl rfl rfl (zE rfl rfl (by simp only [In]; omega)) ?_ | refine ze rfl rfl rfl rfl (zu qY rfl rfl rfl rfl) ?_ | refine ze rfl rfl rfl rfl (zz qY rfl rfl rfl (by simp only [In]; omega)) ?_ | refine ze rfl rfl rfl rfl (zH rfl rfl (by omega) (by omega) (by simp only [In]; omega)) ?_ | refine ze rfl rfl rfl rfl (zI rfl rfl (by omega) (by omega)) ?_ | refine ze rfl rfl rfl rfl (zG rfl rfl (by omega)) ?_ | refine ze rfl rfl rfl rfl (zA rfl rfl (by omega)) ?_ | refine ze rfl rfl rfl rfl (zc qY rfl) ?_ | refine ze rfl rfl rfl rfl (zM jh rfl rfl rfl) ?_ | refine ze rfl rfl rfl rfl (zB rfl rfl) ?_ | refine ze rfl rfl rfl rfl (zC rfl rfl) ?_ | refine ze rfl rfl rfl rfl (zx rfl rfl rfl) ?_)
    refine zp rfl (fun h=>?_) (fun h=>?_)
    ·simp only [cond_true,decide_eq_true_eq] at h
     repeat (first | refine zd ?_ | refine WC.block ?_ | refine zb ?_ | refine zf ?_ | refine za ?_ | refine zo ?_ | refine zD ?_ | refine zq ?_ | refine zj ?_ | refine zh ?_ | refine zi ?_ | refine zn ?_ | refine zm ?_ | refine zy rfl ?_ | refine zT ?_ | refine zU ?_ | refine zv ?_ | refine zJ ?_ | refine zF ?_ | refine zg rfl (Yld.add rfl rfl (by simp only [In]; omega)) ?_ | refine zg rfl (Yld.sub rfl rfl (by simp only [In]; omega)) ?_ | refine zg rfl (zE rfl rfl (by simp only [In]; omega)) ?_ | refine zg rfl (zu qY rfl rfl rfl rfl) ?_ | refine zg rfl (zz qY rfl rfl rfl (by simp only [In]; omega)) ?_ | refine zg rfl (zH rfl rfl (by omega) (by omega) (by simp only [In]; omega)) ?_ | refine zg rfl (zI rfl rfl (by omega) (by omega)) ?_ | refine zg rfl (zG rfl rfl (by omega)) ?_ | refine zg rfl (zA rfl rfl (by omega)) ?_ | refine zg rfl (zc qY rfl) ?_ | refine zg rfl (zM jh rfl rfl rfl) ?_ | refine zg rfl (zB rfl rfl) ?_ | refine zg rfl (zC rfl rfl) ?_ | refine zg rfl (zx rfl rfl rfl) ?_ | refine zV rfl rfl rfl rfl ?_ | refine ze rfl rfl rfl rfl (Yld.add rfl rfl (by simp only [In]; omega)) ?_ | refine ze rfl rfl rfl rfl (Yld.sub rfl rfl (by simp only [In]; omega)) ?_ | refine ze rfl rfl rfl rfl (zE rfl rfl (by simp only [In]; omega)) ?_ | refine ze rfl rfl rfl rfl (zu qY rfl rfl rfl rfl) ?_ | refine ze rfl rfl rfl rfl (zz qY rfl rfl rfl (by simp only [In]; omega)) ?_ | refine ze rfl rfl rfl rfl (zH rfl rfl (by omega) (by omega) (by simp only [In]; omega)) ?_ | refine ze rfl rfl rfl rfl (zI rfl rfl (by omega) (by omega)) ?_ | refine ze rfl rfl rfl rfl (zG rfl rfl (by omega)) ?_ | refine ze rfl rfl rfl rfl (zA rfl rfl (by omega)) ?_ | refine ze rfl rfl rfl rfl (zc qY rfl) ?_ | refine ze rfl rfl rfl rfl (zM jh rfl rfl rfl) ?_ | refine ze rfl rfl rfl rfl (zB rfl rfl) ?_ | refine ze rfl rfl rfl rfl (zC rfl rfl) ?_ | refine ze rfl rfl rfl rfl (zx rfl rfl rfl) ?_)
     have:digV c=some (c.toNat - 87):=by unfold digV; rw [if_neg (by omega),if_pos (by omega)]
     refine qg rfl rfl rfl ⟨?_,rfl⟩
     rw [digR,this,Option.getD_some,show ((c.toNat - 87:Nat):Int)=(c.toNat:Int) - 97+10 by omega]
     rfl
    ·simp only [cond_true,decide_eq_false_iff_not] at h
     repeat (first | refine zd ?_ | refine WC.block ?_ | refine zb ?_ | refine zf ?_ | refine za ?_ | refine zo ?_ | refine zD ?_ | refine zq ?_ | refine zj ?_ | refine zh ?_ | refine zi ?_ | refine zn ?_ | refine zm ?_ | refine zy rfl ?_ | refine zT ?_ | refine zU ?_ | refine zv ?_ | refine zJ ?_ | refine zF ?_ | refine zg rfl (Yld.add rfl rfl (by simp only [In]; omega)) ?_ | refine zg rfl (Yld.sub rfl rfl (by simp only [In]; omega)) ?_ | refine zg rfl (zE rfl rfl (by simp only [In]; omega)) ?_ | refine zg rfl (zu qY rfl rfl rfl rfl) ?_ | refine zg rfl (zz qY rfl rfl rfl (by simp only [In]; omega)) ?_ | refine zg rfl (zH rfl rfl (by omega) (by omega) (by simp only [In]; omega)) ?_ | refine zg rfl (zI rfl rfl (by omega) (by omega)) ?_ | refine zg rfl (zG rfl rfl (by omega)) ?_ | refine zg rfl (zA rfl rfl (by omega)) ?_ | refine zg rfl (zc qY rfl) ?_ | refine zg rfl (zM jh rfl rfl rfl) ?_ | refine zg rfl (zB rfl rfl) ?_ | refine zg rfl (zC rfl rfl) ?_ | refine zg rfl (zx rfl rfl rfl) ?_ | refine zV rfl rfl rfl rfl ?_ | refine ze rfl rfl rfl rfl (Yld.add rfl rfl (by simp only [In]; omega)) ?_ | refine ze rfl rfl rfl rfl (Yld.sub rfl rfl (by simp only [In]; omega)) ?_ | refine ze rfl rfl rfl rfl (zE rfl rfl (by simp only [In]; omega)) ?_ | refine ze rfl rfl rfl rfl (zu qY rfl rfl rfl rfl) ?_ | refine ze rfl rfl rfl rfl (zz qY rfl rfl rfl (by simp only [In]; omega)) ?_ | refine ze rfl rfl rfl rfl (zH rfl rfl (by omega) (by omega) (by simp only [In]; omega)) ?_ | refine ze rfl rfl rfl rfl (zI rfl rfl (by omega) (by omega)) ?_ | refine ze rfl rfl rfl rfl (zG rfl rfl (by omega)) ?_ | refine ze rfl rfl rfl rfl (zA rfl rfl (by omega)) ?_ | refine ze rfl rfl rfl rfl (zc qY rfl) ?_ | refine ze rfl rfl rfl rfl (zM jh rfl rfl rfl) ?_ | refine ze rfl rfl rfl rfl (zB rfl rfl) ?_ | refine ze rfl rfl rfl rfl (zC rfl rfl) ?_ | refine ze rfl rfl rfl rfl (zx rfl rfl rfl) ?_)
     have:digV c=none:=by unfold digV; rw [if_neg (by omega),if_neg (by omega)]
     exact qg rfl rfl rfl ⟨by rw [digR,this]; rfl,rfl⟩
def parN (s:List UInt8):Nat->Option (List UInt8)
 | 0=>some []
 | n+1=>match parN s n,digV (s.getD (2*n) 0),digV (s.getD (2*n+1) 0) with
  | some l,some a,some b=>some (l++[u8v (bits .or .u8 (shlV .u8 (a:Int) 4) (b:Int))])
  | _,_,_=>none
def parS (s:List UInt8):Option (List UInt8):=if s.length=64 then parN s 32 else none
theorem parN_len (s:List UInt8):∀ n l,parN s n=some l->l.length=n
 | 0,l,h=>by injection h with h; subst h; rfl
 | n+1,l,h=>by
  unfold parN at h
  split at h
  ·rename_i k a b hk _ _
   injection h with h
   subst h
   simp [parN_len s n _ hk]
  ·cases h
theorem parN_none (s:List UInt8) (n:Nat) (h:parN s n=none):∀ k,parN s (n+k)=none
 | 0=>h
 | k+1=>by rw [<-Nat.add_assoc,parN,parN_none s n h k]
theorem cell_grown {w w':World} {p:Addr} {v:Value} {row:Option Nat} (hg:w.grownBy w' row) (hv:w.cell? p=some v) (hr:row≠some p.block):w'.cell? p=some v:=hg.cell hv (fun e=>hr e.symm)
theorem fill_set (l:List UInt8) (i n:Nat) (x:UInt8) (hl:l.length=i) (hi:i<n):(l.map vb++List.replicate (n - i) (Value.int .u8 0)).set i (vb x)=(l++[x]).map vb++List.replicate (n - (i+1)) (Value.int .u8 0):=by
 subst hl
 rw [List.set_append_right _ _ (by simp),List.length_map,Nat.sub_self,show n - l.length=(n - (l.length+1))+1 by omega,List.replicate_succ,List.set_cons_zero]
 simp
def parR (E:Value) (s:List UInt8):Value:=match parS s with
 | some l=>.tuple #[.agg ⟨l.map vb⟩,.nilIface]
 | none=>.tuple #[.agg ⟨(List.replicate 32 (0:UInt8)).map vb⟩,E]
theorem or_in {a b:Nat} (ha:a<16) (hb:b<16):(u8v (bits .or .u8 (shlV .u8 (a:Int) 4) (b:Int))).toNat=bits .or .u8 (shlV .u8 (a:Int) 4) (b:Int):=by
 have:∀ a b:Fin 16,((u8v (bits .or .u8 (shlV .u8 (a.val:Int) 4) (b.val:Int))).toNat:Int)=bits .or .u8 (shlV .u8 (a.val:Int) 4) (b.val:Int):=by decide
 exact this ⟨a,ha⟩ ⟨b,hb⟩
theorem parse_fn (s:List UInt8) (E:Value) (w:World) (hE:w.cell? ⟨4,0,none⟩=some E) :
  Fn Tryz.prog 96 ⟨[vs s]⟩ w fun v w'=>v=parR E s/\w.grownBy w' none:=by
 refine Fn.enter (by kernel_rfl) Tryz.func96 rfl Tryz.ntmps96 rfl ?_
 repeat (first | refine zd ?_ | refine WC.block ?_ | refine zb ?_ | refine zf ?_ | refine za ?_ | refine zo ?_ | refine zD ?_ | refine zq ?_ | refine zj ?_ | refine zh ?_ | refine zi ?_ | refine zn ?_ | refine zm ?_ | refine zy rfl ?_ | refine zT ?_ | refine zU ?_ | refine zv ?_ | refine zJ ?_ | refine zF ?_ | refine zg rfl (Yld.add rfl rfl (by simp only [In]; omega)) ?_ | refine zg rfl (Yld.sub rfl rfl (by simp only [In]; omega)) ?_ | refine zg rfl (zE rfl rfl (by simp only [In]; omega)) ?_ | refine zg rfl (zu qY rfl rfl rfl rfl) ?_ | refine zg rfl (zz qY rfl rfl rfl (by simp only [In]; omega)) ?_ | refine zg rfl (zH rfl rfl (by omega) (by omega) (by simp only [In]; omega)) ?_ | refine zg rfl (zI rfl rfl (by omega) (by omega)) ?_ | refine zg rfl (zG rfl rfl (by omega)) ?_ | refine zg rfl (zA rfl rfl (by omega)) ?_ | refine zg rfl (zc qY rfl) ?_ | refine zg rfl (zM jh rfl rfl rfl) ?_ | refine zg rfl (zB rfl rfl) ?_ | refine zg rfl (zC rfl rfl) ?_ | refine zg rfl (zx rfl rfl rfl) ?_ | refine zV rfl rfl rfl rfl ?_ | refine ze rfl rfl rfl rfl (Yld.add rfl rfl (by simp only [In]; omega)) ?_ | refine ze rfl rfl rfl rfl (Yld.sub rfl rfl (by simp only [In]; omega)) ?_ | refine ze rfl rfl rfl rfl (zE rfl rfl (by simp only [In]; omega)) ?_ | refine ze rfl rfl rfl rfl (zu qY rfl rfl rfl rfl) ?_ | refine ze rfl rfl rfl rfl (zz qY rfl rfl rfl (by simp only [In]; omega)) ?_ | refine ze rfl rfl rfl rfl (zH rfl rfl (by omega) (by omega) (by simp only [In]; omega)) ?_ | refine ze rfl rfl rfl rfl (zI rfl rfl (by omega) (by omega)) ?_ | refine ze rfl rfl rfl rfl (zG rfl rfl (by omega)) ?_ | refine ze rfl rfl rfl rfl (zA rfl rfl (by omega)) ?_ | refine ze rfl rfl rfl rfl (zc qY rfl) ?_ | refine ze rfl rfl rfl rfl (zM jh rfl rfl rfl) ?_ | refine ze rfl rfl rfl rfl (zB rfl rfl) ?_ | refine ze rfl rfl rfl rfl (zC rfl rfl) ?_ | refine ze rfl rfl rfl rfl (zx rfl rfl rfl) ?_)
 refine WL.alloc rfl zero45 (fun g1 w1 hB1 hg1 hl1=>?_)
 repeat (first | refine zd ?_ | refine WC.block ?_ | refine zb ?_ | refine zf ?_ | refine za ?_ | refine zo ?_ | refine zD ?_ | refine zq ?_ | refine zj ?_ | refine zh ?_ | refine zi ?_ | refine zn ?_ | refine zm ?_ | refine zy rfl ?_ | refine zT ?_ | refine zU ?_ | refine zv ?_ | refine zJ ?_ | refine zF ?_ | refine zg rfl (Yld.add rfl rfl (by simp only [In]; omega)) ?_ | refine zg rfl (Yld.sub rfl rfl (by simp only [In]; omega)) ?_ | refine zg rfl (zE rfl rfl (by simp only [In]; omega)) ?_ | refine zg rfl (zu qY rfl rfl rfl rfl) ?_ | refine zg rfl (zz qY rfl rfl rfl (by simp only [In]; omega)) ?_ | refine zg rfl (zH rfl rfl (by omega) (by omega) (by simp only [In]; omega)) ?_ | refine zg rfl (zI rfl rfl (by omega) (by omega)) ?_ | refine zg rfl (zG rfl rfl (by omega)) ?_ | refine zg rfl (zA rfl rfl (by omega)) ?_ | refine zg rfl (zc qY rfl) ?_ | refine zg rfl (zM jh rfl rfl rfl) ?_ | refine zg rfl (zB rfl rfl) ?_ | refine zg rfl (zC rfl rfl) ?_ | refine zg rfl (zx rfl rfl rfl) ?_ | refine zV rfl rfl rfl rfl ?_ | refine ze rfl rfl rfl rfl (Yld.add rfl rfl (by simp only [In]; omega)) ?_ | refine ze rfl rfl rfl rfl (Yld.sub rfl rfl (by simp only [In]; omega)) ?_ | refine ze rfl rfl rfl rfl (zE rfl rfl (by simp only [In]; omega)) ?_ | refine ze rfl rfl rfl rfl (zu qY rfl rfl rfl rfl) ?_ | refine ze rfl rfl rfl rfl (zz qY rfl rfl rfl (by simp only [In]; omega)) ?_ | refine ze rfl rfl rfl rfl (zH rfl rfl (by omega) (by omega) (by simp only [In]; omega)) ?_ | refine ze rfl rfl rfl rfl (zI rfl rfl (by omega) (by omega)) ?_ | refine ze rfl rfl rfl rfl (zG rfl rfl (by omega)) ?_ | refine ze rfl rfl rfl rfl (zA rfl rfl (by omega)) ?_ | refine ze rfl rfl rfl rfl (zc qY rfl) ?_ | refine ze rfl rfl rfl rfl (zM jh rfl rfl rfl) ?_ | refine ze rfl rfl rfl rfl (zB rfl rfl) ?_ | refine ze rfl rfl rfl rfl (zC rfl rfl) ?_ | refine ze rfl rfl rfl rfl (zx rfl rfl rfl) ?_)
 refine WL.alloc rfl zero45 (fun g2 w2 hB2 hg2 hl2=>?_)
 repeat (first | refine zd ?_ | refine WC.block ?_ | refine zb ?_ | refine zf ?_ | refine za ?_ | refine zo ?_ | refine zD ?_ | refine zq ?_ | refine zj ?_ | refine zh ?_ | refine zi ?_ | refine zn ?_ | refine zm ?_ | refine zy rfl ?_ | refine zT ?_ | refine zU ?_ | refine zv ?_ | refine zJ ?_ | refine zF ?_ | refine zg rfl (Yld.add rfl rfl (by simp only [In]; omega)) ?_ | refine zg rfl (Yld.sub rfl rfl (by simp only [In]; omega)) ?_ | refine zg rfl (zE rfl rfl (by simp only [In]; omega)) ?_ | refine zg rfl (zu qY rfl rfl rfl rfl) ?_ | refine zg rfl (zz qY rfl rfl rfl (by simp only [In]; omega)) ?_ | refine zg rfl (zH rfl rfl (by omega) (by omega) (by simp only [In]; omega)) ?_ | refine zg rfl (zI rfl rfl (by omega) (by omega)) ?_ | refine zg rfl (zG rfl rfl (by omega)) ?_ | refine zg rfl (zA rfl rfl (by omega)) ?_ | refine zg rfl (zc qY rfl) ?_ | refine zg rfl (zM jh rfl rfl rfl) ?_ | refine zg rfl (zB rfl rfl) ?_ | refine zg rfl (zC rfl rfl) ?_ | refine zg rfl (zx rfl rfl rfl) ?_ | refine zV rfl rfl rfl rfl ?_ | refine ze rfl rfl rfl rfl (Yld.add rfl rfl (by simp only [In]; omega)) ?_ | refine ze rfl rfl rfl rfl (Yld.sub rfl rfl (by simp only [In]; omega)) ?_ | refine ze rfl rfl rfl rfl (zE rfl rfl (by simp only [In]; omega)) ?_ | refine ze rfl rfl rfl rfl (zu qY rfl rfl rfl rfl) ?_ | refine ze rfl rfl rfl rfl (zz qY rfl rfl rfl (by simp only [In]; omega)) ?_ | refine ze rfl rfl rfl rfl (zH rfl rfl (by omega) (by omega) (by simp only [In]; omega)) ?_ | refine ze rfl rfl rfl rfl (zI rfl rfl (by omega) (by omega)) ?_ | refine ze rfl rfl rfl rfl (zG rfl rfl (by omega)) ?_ | refine ze rfl rfl rfl rfl (zA rfl rfl (by omega)) ?_ | refine ze rfl rfl rfl rfl (zc qY rfl) ?_ | refine ze rfl rfl rfl rfl (zM jh rfl rfl rfl) ?_ | refine ze rfl rfl rfl rfl (zB rfl rfl) ?_ | refine ze rfl rfl rfl rfl (zC rfl rfl) ?_ | refine ze rfl rfl rfl rfl (zx rfl rfl rfl) ?_)
 have hB12:=hB1.keep hg2 (by simp)
 have hE2:w2.cell? ⟨4,0,none⟩=some E:=cell_grown (ja hg1 hg2) hE (by simp)
 have hlt0:=World.block_lt_of_cell? w _ hE
 simp only at hlt0
 have hg12:=ja hg1 hg2
 have hsz1:=hg1.size
 have hgl1:=hB1.lt
 refine zp rfl (fun h=>?_) (fun h=>?_)
 ·simp at h
  have hpar:parS s=none:=by unfold parS; rw [if_neg (by omega)]
  repeat (first | refine zd ?_ | refine WC.block ?_ | refine zb ?_ | refine zf ?_ | refine za ?_ | refine zo ?_ | refine zD ?_ | refine zq ?_ | refine zj ?_ | refine zh ?_ | refine zi ?_ | refine zn ?_ | refine zm ?_ | refine zy rfl ?_ | refine zT ?_ | refine zU ?_ | refine zv ?_ | refine zJ ?_ | refine zF ?_ | refine zg rfl (Yld.add rfl rfl (by simp only [In]; omega)) ?_ | refine zg rfl (Yld.sub rfl rfl (by simp only [In]; omega)) ?_ | refine zg rfl (zE rfl rfl (by simp only [In]; omega)) ?_ | refine zg rfl (zu qY rfl rfl rfl rfl) ?_ | refine zg rfl (zz qY rfl rfl rfl (by simp only [In]; omega)) ?_ | refine zg rfl (zH rfl rfl (by omega) (by omega) (by simp only [In]; omega)) ?_ | refine zg rfl (zI rfl rfl (by omega) (by omega)) ?_ | refine zg rfl (zG rfl rfl (by omega)) ?_ | refine zg rfl (zA rfl rfl (by omega)) ?_ | refine zg rfl (zc qY rfl) ?_ | refine zg rfl (zM jh rfl rfl rfl) ?_ | refine zg rfl (zB rfl rfl) ?_ | refine zg rfl (zC rfl rfl) ?_ | refine zg rfl (zx rfl rfl rfl) ?_ | refine zV rfl rfl rfl rfl ?_ | refine ze rfl rfl rfl rfl (Yld.add rfl rfl (by simp only [In]; omega)) ?_ | refine ze rfl rfl rfl rfl (Yld.sub rfl rfl (by simp only [In]; omega)) ?_ | refine ze rfl rfl rfl rfl (zE rfl rfl (by simp only [In]; omega)) ?_ | refine ze rfl rfl rfl rfl (zu qY rfl rfl rfl rfl) ?_ | refine ze rfl rfl rfl rfl (zz qY rfl rfl rfl (by simp only [In]; omega)) ?_ | refine ze rfl rfl rfl rfl (zH rfl rfl (by omega) (by omega) (by simp only [In]; omega)) ?_ | refine ze rfl rfl rfl rfl (zI rfl rfl (by omega) (by omega)) ?_ | refine ze rfl rfl rfl rfl (zG rfl rfl (by omega)) ?_ | refine ze rfl rfl rfl rfl (zA rfl rfl (by omega)) ?_ | refine ze rfl rfl rfl rfl (zc qY rfl) ?_ | refine ze rfl rfl rfl rfl (zM jh rfl rfl rfl) ?_ | refine ze rfl rfl rfl rfl (zB rfl rfl) ?_ | refine ze rfl rfl rfl rfl (zC rfl rfl) ?_ | refine ze rfl rfl rfl rfl (zx rfl rfl rfl) ?_)
  refine WC.chain (fun k => !(Nat.beq k 2)) (fun w'=>w'.cell? ⟨4,0,none⟩=some E) mixed (by kernel_rfl) (fun w' h=>(h.cell _).trans hE2) ?_
  refine qy rfl rfl (fun w' _=>Yld.zarr qY rfl zero45) ?_
  refine qy rfl rfl (fun w' h=>Yld.cell qY h rfl rfl) ?_
  refine WK.eff rfl (qI qY rfl rfl rfl (by intro u hu; rw [List.mem_replicate] at hu; rw [hu.2]; rfl) hB12 rfl rfl) (fun w' h=>cell_grown h.2 hE2 (by simp; omega)) ?_
  rintro w3 ⟨hB3,hg3⟩
  repeat (first | refine qy rfl rfl (fun _ _=>Yld.add rfl rfl (by simp only [In]; omega)) ?_ | refine qy rfl rfl (fun _ _=>Yld.sub rfl rfl (by simp only [In]; omega)) ?_ | refine qy rfl rfl (fun _ _=>zE rfl rfl (by simp only [In]; omega)) ?_ | refine qy rfl rfl (fun _ _=>zu qY rfl rfl rfl rfl) ?_ | refine qy rfl rfl (fun _ _=>zz qY rfl rfl rfl (by simp only [In]; omega)) ?_ | refine qy rfl rfl (fun _ _=>zH rfl rfl (by omega) (by omega) (by simp only [In]; omega)) ?_ | refine qy rfl rfl (fun _ _=>zI rfl rfl (by omega) (by omega)) ?_ | refine qy rfl rfl (fun _ _=>zG rfl rfl (by omega)) ?_ | refine qy rfl rfl (fun _ _=>zA rfl rfl (by omega)) ?_ | refine qy rfl rfl (fun _ _=>zc qY rfl) ?_)
  refine WK.nil ?_
  repeat (first | refine zd ?_ | refine WC.block ?_ | refine zb ?_ | refine zf ?_ | refine za ?_ | refine zo ?_ | refine zD ?_ | refine zq ?_ | refine zj ?_ | refine zh ?_ | refine zi ?_ | refine zn ?_ | refine zm ?_ | refine zy rfl ?_ | refine zT ?_ | refine zU ?_ | refine zv ?_ | refine zJ ?_ | refine zF ?_ | refine zg rfl (Yld.add rfl rfl (by simp only [In]; omega)) ?_ | refine zg rfl (Yld.sub rfl rfl (by simp only [In]; omega)) ?_ | refine zg rfl (zE rfl rfl (by simp only [In]; omega)) ?_ | refine zg rfl (zu qY rfl rfl rfl rfl) ?_ | refine zg rfl (zz qY rfl rfl rfl (by simp only [In]; omega)) ?_ | refine zg rfl (zH rfl rfl (by omega) (by omega) (by simp only [In]; omega)) ?_ | refine zg rfl (zI rfl rfl (by omega) (by omega)) ?_ | refine zg rfl (zG rfl rfl (by omega)) ?_ | refine zg rfl (zA rfl rfl (by omega)) ?_ | refine zg rfl (zc qY rfl) ?_)
  exact qE qY rfl rfl rfl hB3 rfl rfl ⟨by rw [parR,hpar]; rfl,kq hg12 hg3 hl1⟩
 simp at h
 have hs64:s.length=64:=by omega
 repeat (first | refine zd ?_ | refine WC.block ?_ | refine zb ?_ | refine zf ?_ | refine za ?_ | refine zo ?_ | refine zD ?_ | refine zq ?_ | refine zj ?_ | refine zh ?_ | refine zi ?_ | refine zn ?_ | refine zm ?_ | refine zy rfl ?_ | refine zT ?_ | refine zU ?_ | refine zv ?_ | refine zJ ?_ | refine zF ?_ | refine zg rfl (Yld.add rfl rfl (by simp only [In]; omega)) ?_ | refine zg rfl (Yld.sub rfl rfl (by simp only [In]; omega)) ?_ | refine zg rfl (zE rfl rfl (by simp only [In]; omega)) ?_ | refine zg rfl (zu qY rfl rfl rfl rfl) ?_ | refine zg rfl (zz qY rfl rfl rfl (by simp only [In]; omega)) ?_ | refine zg rfl (zH rfl rfl (by omega) (by omega) (by simp only [In]; omega)) ?_ | refine zg rfl (zI rfl rfl (by omega) (by omega)) ?_ | refine zg rfl (zG rfl rfl (by omega)) ?_ | refine zg rfl (zA rfl rfl (by omega)) ?_ | refine zg rfl (zc qY rfl) ?_ | refine zg rfl (zM jh rfl rfl rfl) ?_ | refine zg rfl (zB rfl rfl) ?_ | refine zg rfl (zC rfl rfl) ?_ | refine zg rfl (zx rfl rfl rfl) ?_ | refine zV rfl rfl rfl rfl ?_ | refine ze rfl rfl rfl rfl (Yld.add rfl rfl (by simp only [In]; omega)) ?_ | refine ze rfl rfl rfl rfl (Yld.sub rfl rfl (by simp only [In]; omega)) ?_ | refine ze rfl rfl rfl rfl (zE rfl rfl (by simp only [In]; omega)) ?_ | refine ze rfl rfl rfl rfl (zu qY rfl rfl rfl rfl) ?_ | refine ze rfl rfl rfl rfl (zz qY rfl rfl rfl (by simp only [In]; omega)) ?_ | refine ze rfl rfl rfl rfl (zH rfl rfl (by omega) (by omega) (by simp only [In]; omega)) ?_ | refine ze rfl rfl rfl rfl (zI rfl rfl (by omega) (by omega)) ?_ | refine ze rfl rfl rfl rfl (zG rfl rfl (by omega)) ?_ | refine ze rfl rfl rfl rfl (zA rfl rfl (by omega)) ?_ | refine ze rfl rfl rfl rfl (zc qY rfl) ?_ | refine ze rfl rfl rfl rfl (zM jh rfl rfl rfl) ?_ | refine ze rfl rfl rfl rfl (zB rfl rfl) ?_ | refine ze rfl rfl rfl rfl (zC rfl rfl) ?_ | refine ze rfl rfl rfl rfl (zx rfl rfl rfl) ?_)
 refine WC.loop2 (fun i _=>32 - i) (fun i _=>[(15,vi i),(4,.pointer (some ⟨g2,0,none⟩)),(3,.nilIface),(2,.pointer (some ⟨g1,0,none⟩)),(0,vs s)])
  (fun i l w3=>i<=32/\parN s i=some l/\Bl w3 g2 45 (l.map vb++List.replicate (32 - i) (Value.int .u8 0))/\Bl w3 g1 45 (List.replicate 32 (Value.int .u8 0))/\w2.grownBy w3 (some g2)) 0 [] ⟨by omega,rfl,hB2,hB12,jr _ _⟩ (by repeat (first | exact qb | refine Sub.cons rfl ?_)) (fun i l w3 ⟨hi,hp,hB23,hB13,hg23⟩=>?_)
 have hll:=parN_len s i l hp
 have hEX:w3.cell? ⟨4,0,none⟩=some E:=cell_grown hg23 hE2 (by simp; omega)
 have hgX:w.grownBy w3 none:=kq hg12 hg23 (by omega)
 repeat (first | refine zd ?_ | refine WC.block ?_ | refine zb ?_ | refine zf ?_ | refine za ?_ | refine zo ?_ | refine zD ?_ | refine zq ?_ | refine zj ?_ | refine zh ?_ | refine zi ?_ | refine zn ?_ | refine zm ?_ | refine zy rfl ?_ | refine zT ?_ | refine zU ?_ | refine zv ?_ | refine zJ ?_ | refine zF ?_ | refine zg rfl (Yld.add rfl rfl (by simp only [In]; omega)) ?_ | refine zg rfl (Yld.sub rfl rfl (by simp only [In]; omega)) ?_ | refine zg rfl (zE rfl rfl (by simp only [In]; omega)) ?_ | refine zg rfl (zu qY rfl rfl rfl rfl) ?_ | refine zg rfl (zz qY rfl rfl rfl (by simp only [In]; omega)) ?_ | refine zg rfl (zH rfl rfl (by omega) (by omega) (by simp only [In]; omega)) ?_ | refine zg rfl (zI rfl rfl (by omega) (by omega)) ?_ | refine zg rfl (zG rfl rfl (by omega)) ?_ | refine zg rfl (zA rfl rfl (by omega)) ?_ | refine zg rfl (zc qY rfl) ?_ | refine zg rfl (zM jh rfl rfl rfl) ?_ | refine zg rfl (zB rfl rfl) ?_ | refine zg rfl (zC rfl rfl) ?_ | refine zg rfl (zx rfl rfl rfl) ?_ | refine zV rfl rfl rfl rfl ?_ | refine ze rfl rfl rfl rfl (Yld.add rfl rfl (by simp only [In]; omega)) ?_ | refine ze rfl rfl rfl rfl (Yld.sub rfl rfl (by simp only [In]; omega)) ?_ | refine ze rfl rfl rfl rfl (zE rfl rfl (by simp only [In]; omega)) ?_ | refine ze rfl rfl rfl rfl (zu qY rfl rfl rfl rfl) ?_ | refine ze rfl rfl rfl rfl (zz qY rfl rfl rfl (by simp only [In]; omega)) ?_ | refine ze rfl rfl rfl rfl (zH rfl rfl (by omega) (by omega) (by simp only [In]; omega)) ?_ | refine ze rfl rfl rfl rfl (zI rfl rfl (by omega) (by omega)) ?_ | refine ze rfl rfl rfl rfl (zG rfl rfl (by omega)) ?_ | refine ze rfl rfl rfl rfl (zA rfl rfl (by omega)) ?_ | refine ze rfl rfl rfl rfl (zc qY rfl) ?_ | refine ze rfl rfl rfl rfl (zM jh rfl rfl rfl) ?_ | refine ze rfl rfl rfl rfl (zB rfl rfl) ?_ | refine ze rfl rfl rfl rfl (zC rfl rfl) ?_ | refine ze rfl rfl rfl rfl (zx rfl rfl rfl) ?_)
 refine zp rfl (fun h=>?_) (fun h=>?_)
 ·simp only [decide_eq_true_eq] at h
  have e1:(2*(i:Int)).toNat=2*i:=by omega
  have e2:(2*(i:Int)+1).toNat=2*i+1:=by omega
  repeat (first | refine zg rfl (qF qY rfl rfl rfl (by omega) (by omega)) ?_ | refine zd ?_ | refine WC.block ?_ | refine zb ?_ | refine zf ?_ | refine za ?_ | refine zo ?_ | refine zD ?_ | refine zq ?_ | refine zj ?_ | refine zh ?_ | refine zi ?_ | refine zn ?_ | refine zm ?_ | refine zy rfl ?_ | refine zT ?_ | refine zU ?_ | refine zv ?_ | refine zJ ?_ | refine zF ?_ | refine zg rfl (Yld.add rfl rfl (by simp only [In]; omega)) ?_ | refine zg rfl (Yld.sub rfl rfl (by simp only [In]; omega)) ?_ | refine zg rfl (zE rfl rfl (by simp only [In]; omega)) ?_ | refine zg rfl (zu qY rfl rfl rfl rfl) ?_ | refine zg rfl (zz qY rfl rfl rfl (by simp only [In]; omega)) ?_ | refine zg rfl (zH rfl rfl (by omega) (by omega) (by simp only [In]; omega)) ?_ | refine zg rfl (zI rfl rfl (by omega) (by omega)) ?_ | refine zg rfl (zG rfl rfl (by omega)) ?_ | refine zg rfl (zA rfl rfl (by omega)) ?_ | refine zg rfl (zc qY rfl) ?_ | refine zg rfl (zM jh rfl rfl rfl) ?_ | refine zg rfl (zB rfl rfl) ?_ | refine zg rfl (zC rfl rfl) ?_ | refine zg rfl (zx rfl rfl rfl) ?_ | refine zV rfl rfl rfl rfl ?_ | refine ze rfl rfl rfl rfl (Yld.add rfl rfl (by simp only [In]; omega)) ?_ | refine ze rfl rfl rfl rfl (Yld.sub rfl rfl (by simp only [In]; omega)) ?_ | refine ze rfl rfl rfl rfl (zE rfl rfl (by simp only [In]; omega)) ?_ | refine ze rfl rfl rfl rfl (zu qY rfl rfl rfl rfl) ?_ | refine ze rfl rfl rfl rfl (zz qY rfl rfl rfl (by simp only [In]; omega)) ?_ | refine ze rfl rfl rfl rfl (zH rfl rfl (by omega) (by omega) (by simp only [In]; omega)) ?_ | refine ze rfl rfl rfl rfl (zI rfl rfl (by omega) (by omega)) ?_ | refine ze rfl rfl rfl rfl (zG rfl rfl (by omega)) ?_ | refine ze rfl rfl rfl rfl (zA rfl rfl (by omega)) ?_ | refine ze rfl rfl rfl rfl (zc qY rfl) ?_ | refine ze rfl rfl rfl rfl (zM jh rfl rfl rfl) ?_ | refine ze rfl rfl rfl rfl (zB rfl rfl) ?_ | refine ze rfl rfl rfl rfl (zC rfl rfl) ?_ | refine ze rfl rfl rfl rfl (zx rfl rfl rfl) ?_)
  refine WL.call rfl rfl (digit_fn _ w3) ?_
  rintro _ _ ⟨rfl,rfl⟩
  repeat (first | refine zg rfl (qF qY rfl rfl rfl (by omega) (by omega)) ?_ | refine zd ?_ | refine WC.block ?_ | refine zb ?_ | refine zf ?_ | refine za ?_ | refine zo ?_ | refine zD ?_ | refine zq ?_ | refine zj ?_ | refine zh ?_ | refine zi ?_ | refine zn ?_ | refine zm ?_ | refine zy rfl ?_ | refine zT ?_ | refine zU ?_ | refine zv ?_ | refine zJ ?_ | refine zF ?_ | refine zg rfl (Yld.add rfl rfl (by simp only [In]; omega)) ?_ | refine zg rfl (Yld.sub rfl rfl (by simp only [In]; omega)) ?_ | refine zg rfl (zE rfl rfl (by simp only [In]; omega)) ?_ | refine zg rfl (zu qY rfl rfl rfl rfl) ?_ | refine zg rfl (zz qY rfl rfl rfl (by simp only [In]; omega)) ?_ | refine zg rfl (zH rfl rfl (by omega) (by omega) (by simp only [In]; omega)) ?_ | refine zg rfl (zI rfl rfl (by omega) (by omega)) ?_ | refine zg rfl (zG rfl rfl (by omega)) ?_ | refine zg rfl (zA rfl rfl (by omega)) ?_ | refine zg rfl (zc qY rfl) ?_ | refine zg rfl (zM jh rfl rfl rfl) ?_ | refine zg rfl (zB rfl rfl) ?_ | refine zg rfl (zC rfl rfl) ?_ | refine zg rfl (zx rfl rfl rfl) ?_ | refine zV rfl rfl rfl rfl ?_ | refine ze rfl rfl rfl rfl (Yld.add rfl rfl (by simp only [In]; omega)) ?_ | refine ze rfl rfl rfl rfl (Yld.sub rfl rfl (by simp only [In]; omega)) ?_ | refine ze rfl rfl rfl rfl (zE rfl rfl (by simp only [In]; omega)) ?_ | refine ze rfl rfl rfl rfl (zu qY rfl rfl rfl rfl) ?_ | refine ze rfl rfl rfl rfl (zz qY rfl rfl rfl (by simp only [In]; omega)) ?_ | refine ze rfl rfl rfl rfl (zH rfl rfl (by omega) (by omega) (by simp only [In]; omega)) ?_ | refine ze rfl rfl rfl rfl (zI rfl rfl (by omega) (by omega)) ?_ | refine ze rfl rfl rfl rfl (zG rfl rfl (by omega)) ?_ | refine ze rfl rfl rfl rfl (zA rfl rfl (by omega)) ?_ | refine ze rfl rfl rfl rfl (zc qY rfl) ?_ | refine ze rfl rfl rfl rfl (zM jh rfl rfl rfl) ?_ | refine ze rfl rfl rfl rfl (zB rfl rfl) ?_ | refine ze rfl rfl rfl rfl (zC rfl rfl) ?_ | refine ze rfl rfl rfl rfl (zx rfl rfl rfl) ?_)
  refine WL.call rfl rfl (digit_fn _ _) ?_
  rintro _ _ ⟨rfl,rfl⟩
  rw [e1,e2]
  have hstep:parN s (i+1)=match digV (s.getD (2*i) 0),digV (s.getD (2*i+1) 0) with
   | some a,some b=>some (l++[u8v (bits .or .u8 (shlV .u8 (a:Int) 4) (b:Int))])
   | _,_=>none:=by
    rw [parN,hp]
    cases digV (s.getD (2*i) 0) <;> cases digV (s.getD (2*i+1) 0) <;> rfl
  have hla:∀ a,digV (s.getD (2*i) 0)=some a->a<16:=fun a ha=>digV_lt ha
  have hlb:∀ b,digV (s.getD (2*i+1) 0)=some b->b<16:=fun b hb=>digV_lt hb
  have hnone:parN s (i+1)=none->parS s=none:=fun hn=>by
   unfold parS
   rw [if_pos hs64]
   have:=parN_none s (i+1) hn (32 - (i+1))
   rwa [show i+1+(32 - (i+1))=32 by omega] at this
  unfold digR
  generalize digV (s.getD (2*i) 0)=da at *
  generalize digV (s.getD (2*i+1) 0)=db at *
  repeat (first | refine zd ?_ | refine WC.block ?_ | refine zb ?_ | refine zf ?_ | refine za ?_ | refine zo ?_ | refine zD ?_ | refine zq ?_ | refine zj ?_ | refine zh ?_ | refine zi ?_ | refine zn ?_ | refine zm ?_ | refine zy rfl ?_ | refine zT ?_ | refine zU ?_ | refine zv ?_ | refine zJ ?_ | refine zF ?_ | refine zg rfl (Yld.add rfl rfl (by simp only [In]; omega)) ?_ | refine zg rfl (Yld.sub rfl rfl (by simp only [In]; omega)) ?_ | refine zg rfl (zE rfl rfl (by simp only [In]; omega)) ?_ | refine zg rfl (zu qY rfl rfl rfl rfl) ?_ | refine zg rfl (zz qY rfl rfl rfl (by simp only [In]; omega)) ?_ | refine zg rfl (zH rfl rfl (by omega) (by omega) (by simp only [In]; omega)) ?_ | refine zg rfl (zI rfl rfl (by omega) (by omega)) ?_ | refine zg rfl (zG rfl rfl (by omega)) ?_ | refine zg rfl (zA rfl rfl (by omega)) ?_ | refine zg rfl (zc qY rfl) ?_ | refine zg rfl (zM jh rfl rfl rfl) ?_ | refine zg rfl (zB rfl rfl) ?_ | refine zg rfl (zC rfl rfl) ?_ | refine zg rfl (zx rfl rfl rfl) ?_ | refine zV rfl rfl rfl rfl ?_ | refine ze rfl rfl rfl rfl (Yld.add rfl rfl (by simp only [In]; omega)) ?_ | refine ze rfl rfl rfl rfl (Yld.sub rfl rfl (by simp only [In]; omega)) ?_ | refine ze rfl rfl rfl rfl (zE rfl rfl (by simp only [In]; omega)) ?_ | refine ze rfl rfl rfl rfl (zu qY rfl rfl rfl rfl) ?_ | refine ze rfl rfl rfl rfl (zz qY rfl rfl rfl (by simp only [In]; omega)) ?_ | refine ze rfl rfl rfl rfl (zH rfl rfl (by omega) (by omega) (by simp only [In]; omega)) ?_ | refine ze rfl rfl rfl rfl (zI rfl rfl (by omega) (by omega)) ?_ | refine ze rfl rfl rfl rfl (zG rfl rfl (by omega)) ?_ | refine ze rfl rfl rfl rfl (zA rfl rfl (by omega)) ?_ | refine ze rfl rfl rfl rfl (zc qY rfl) ?_ | refine ze rfl rfl rfl rfl (zM jh rfl rfl rfl) ?_ | refine ze rfl rfl rfl rfl (zB rfl rfl) ?_ | refine ze rfl rfl rfl rfl (zC rfl rfl) ?_ | refine ze rfl rfl rfl rfl (zx rfl rfl rfl) ?_)
  cases da with
  | none =>
   have hpar:=hnone hstep
   repeat (first | refine zd ?_ | refine WC.block ?_ | refine zb ?_ | refine zf ?_ | refine za ?_ | refine zo ?_ | refine zD ?_ | refine zq ?_ | refine zj ?_ | refine zh ?_ | refine zi ?_ | refine zn ?_ | refine zm ?_ | refine zy rfl ?_ | refine zT ?_ | refine zU ?_ | refine zv ?_ | refine zJ ?_ | refine zF ?_ | refine zg rfl (Yld.add rfl rfl (by simp only [In]; omega)) ?_ | refine zg rfl (Yld.sub rfl rfl (by simp only [In]; omega)) ?_ | refine zg rfl (zE rfl rfl (by simp only [In]; omega)) ?_ | refine zg rfl (zu qY rfl rfl rfl rfl) ?_ | refine zg rfl (zz qY rfl rfl rfl (by simp only [In]; omega)) ?_ | refine zg rfl (zH rfl rfl (by omega) (by omega) (by simp only [In]; omega)) ?_ | refine zg rfl (zI rfl rfl (by omega) (by omega)) ?_ | refine zg rfl (zG rfl rfl (by omega)) ?_ | refine zg rfl (zA rfl rfl (by omega)) ?_ | refine zg rfl (zc qY rfl) ?_ | refine zg rfl (zM jh rfl rfl rfl) ?_ | refine zg rfl (zB rfl rfl) ?_ | refine zg rfl (zC rfl rfl) ?_ | refine zg rfl (zx rfl rfl rfl) ?_ | refine zV rfl rfl rfl rfl ?_ | refine ze rfl rfl rfl rfl (Yld.add rfl rfl (by simp only [In]; omega)) ?_ | refine ze rfl rfl rfl rfl (Yld.sub rfl rfl (by simp only [In]; omega)) ?_ | refine ze rfl rfl rfl rfl (zE rfl rfl (by simp only [In]; omega)) ?_ | refine ze rfl rfl rfl rfl (zu qY rfl rfl rfl rfl) ?_ | refine ze rfl rfl rfl rfl (zz qY rfl rfl rfl (by simp only [In]; omega)) ?_ | refine ze rfl rfl rfl rfl (zH rfl rfl (by omega) (by omega) (by simp only [In]; omega)) ?_ | refine ze rfl rfl rfl rfl (zI rfl rfl (by omega) (by omega)) ?_ | refine ze rfl rfl rfl rfl (zG rfl rfl (by omega)) ?_ | refine ze rfl rfl rfl rfl (zA rfl rfl (by omega)) ?_ | refine ze rfl rfl rfl rfl (zc qY rfl) ?_ | refine ze rfl rfl rfl rfl (zM jh rfl rfl rfl) ?_ | refine ze rfl rfl rfl rfl (zB rfl rfl) ?_ | refine ze rfl rfl rfl rfl (zC rfl rfl) ?_ | refine ze rfl rfl rfl rfl (zx rfl rfl rfl) ?_)
   refine zp rfl (fun _=>?_) (fun h=>by cases h)
   repeat (first | refine zd ?_ | refine WC.block ?_ | refine zb ?_ | refine zf ?_ | refine za ?_ | refine zo ?_ | refine zD ?_ | refine zq ?_ | refine zj ?_ | refine zh ?_ | refine zi ?_ | refine zn ?_ | refine zm ?_ | refine zy rfl ?_ | refine zT ?_ | refine zU ?_ | refine zv ?_ | refine zJ ?_ | refine zF ?_ | refine zg rfl (Yld.add rfl rfl (by simp only [In]; omega)) ?_ | refine zg rfl (Yld.sub rfl rfl (by simp only [In]; omega)) ?_ | refine zg rfl (zE rfl rfl (by simp only [In]; omega)) ?_ | refine zg rfl (zu qY rfl rfl rfl rfl) ?_ | refine zg rfl (zz qY rfl rfl rfl (by simp only [In]; omega)) ?_ | refine zg rfl (zH rfl rfl (by omega) (by omega) (by simp only [In]; omega)) ?_ | refine zg rfl (zI rfl rfl (by omega) (by omega)) ?_ | refine zg rfl (zG rfl rfl (by omega)) ?_ | refine zg rfl (zA rfl rfl (by omega)) ?_ | refine zg rfl (zc qY rfl) ?_ | refine zg rfl (zM jh rfl rfl rfl) ?_ | refine zg rfl (zB rfl rfl) ?_ | refine zg rfl (zC rfl rfl) ?_ | refine zg rfl (zx rfl rfl rfl) ?_ | refine zV rfl rfl rfl rfl ?_ | refine ze rfl rfl rfl rfl (Yld.add rfl rfl (by simp only [In]; omega)) ?_ | refine ze rfl rfl rfl rfl (Yld.sub rfl rfl (by simp only [In]; omega)) ?_ | refine ze rfl rfl rfl rfl (zE rfl rfl (by simp only [In]; omega)) ?_ | refine ze rfl rfl rfl rfl (zu qY rfl rfl rfl rfl) ?_ | refine ze rfl rfl rfl rfl (zz qY rfl rfl rfl (by simp only [In]; omega)) ?_ | refine ze rfl rfl rfl rfl (zH rfl rfl (by omega) (by omega) (by simp only [In]; omega)) ?_ | refine ze rfl rfl rfl rfl (zI rfl rfl (by omega) (by omega)) ?_ | refine ze rfl rfl rfl rfl (zG rfl rfl (by omega)) ?_ | refine ze rfl rfl rfl rfl (zA rfl rfl (by omega)) ?_ | refine ze rfl rfl rfl rfl (zc qY rfl) ?_ | refine ze rfl rfl rfl rfl (zM jh rfl rfl rfl) ?_ | refine ze rfl rfl rfl rfl (zB rfl rfl) ?_ | refine ze rfl rfl rfl rfl (zC rfl rfl) ?_ | refine ze rfl rfl rfl rfl (zx rfl rfl rfl) ?_)
   refine WC.chain (fun k => !(Nat.beq k 2)) (fun w'=>w'.cell? ⟨4,0,none⟩=some E) mixed (by kernel_rfl) (fun w' h=>(h.cell _).trans hEX) ?_
   refine qy rfl rfl (fun w' _=>Yld.zarr qY rfl zero45) ?_
   refine qy rfl rfl (fun w' h=>Yld.cell qY h rfl rfl) ?_
   refine WK.eff rfl (qI qY rfl rfl rfl (by intro u hu; rw [List.mem_replicate] at hu; rw [hu.2]; rfl) hB13 rfl rfl) (fun w' h=>cell_grown h.2 hEX (by simp; omega)) ?_
   rintro w4 ⟨hB4,hg4⟩
   repeat (first | refine qy rfl rfl (fun _ _=>Yld.add rfl rfl (by simp only [In]; omega)) ?_ | refine qy rfl rfl (fun _ _=>Yld.sub rfl rfl (by simp only [In]; omega)) ?_ | refine qy rfl rfl (fun _ _=>zE rfl rfl (by simp only [In]; omega)) ?_ | refine qy rfl rfl (fun _ _=>zu qY rfl rfl rfl rfl) ?_ | refine qy rfl rfl (fun _ _=>zz qY rfl rfl rfl (by simp only [In]; omega)) ?_ | refine qy rfl rfl (fun _ _=>zH rfl rfl (by omega) (by omega) (by simp only [In]; omega)) ?_ | refine qy rfl rfl (fun _ _=>zI rfl rfl (by omega) (by omega)) ?_ | refine qy rfl rfl (fun _ _=>zG rfl rfl (by omega)) ?_ | refine qy rfl rfl (fun _ _=>zA rfl rfl (by omega)) ?_ | refine qy rfl rfl (fun _ _=>zc qY rfl) ?_)
   refine WK.nil ?_
   repeat (first | refine zd ?_ | refine WC.block ?_ | refine zb ?_ | refine zf ?_ | refine za ?_ | refine zo ?_ | refine zD ?_ | refine zq ?_ | refine zj ?_ | refine zh ?_ | refine zi ?_ | refine zn ?_ | refine zm ?_ | refine zy rfl ?_ | refine zT ?_ | refine zU ?_ | refine zv ?_ | refine zJ ?_ | refine zF ?_ | refine zg rfl (Yld.add rfl rfl (by simp only [In]; omega)) ?_ | refine zg rfl (Yld.sub rfl rfl (by simp only [In]; omega)) ?_ | refine zg rfl (zE rfl rfl (by simp only [In]; omega)) ?_ | refine zg rfl (zu qY rfl rfl rfl rfl) ?_ | refine zg rfl (zz qY rfl rfl rfl (by simp only [In]; omega)) ?_ | refine zg rfl (zH rfl rfl (by omega) (by omega) (by simp only [In]; omega)) ?_ | refine zg rfl (zI rfl rfl (by omega) (by omega)) ?_ | refine zg rfl (zG rfl rfl (by omega)) ?_ | refine zg rfl (zA rfl rfl (by omega)) ?_ | refine zg rfl (zc qY rfl) ?_)
   exact qE qY rfl rfl rfl hB4 rfl rfl ⟨by rw [parR,hpar]; rfl,kq hgX hg4 hl1⟩
  | some a =>
   have ha:=hla a rfl
   repeat (first | refine zd ?_ | refine WC.block ?_ | refine zb ?_ | refine zf ?_ | refine za ?_ | refine zo ?_ | refine zD ?_ | refine zq ?_ | refine zj ?_ | refine zh ?_ | refine zi ?_ | refine zn ?_ | refine zm ?_ | refine zy rfl ?_ | refine zT ?_ | refine zU ?_ | refine zv ?_ | refine zJ ?_ | refine zF ?_ | refine zg rfl (Yld.add rfl rfl (by simp only [In]; omega)) ?_ | refine zg rfl (Yld.sub rfl rfl (by simp only [In]; omega)) ?_ | refine zg rfl (zE rfl rfl (by simp only [In]; omega)) ?_ | refine zg rfl (zu qY rfl rfl rfl rfl) ?_ | refine zg rfl (zz qY rfl rfl rfl (by simp only [In]; omega)) ?_ | refine zg rfl (zH rfl rfl (by omega) (by omega) (by simp only [In]; omega)) ?_ | refine zg rfl (zI rfl rfl (by omega) (by omega)) ?_ | refine zg rfl (zG rfl rfl (by omega)) ?_ | refine zg rfl (zA rfl rfl (by omega)) ?_ | refine zg rfl (zc qY rfl) ?_ | refine zg rfl (zM jh rfl rfl rfl) ?_ | refine zg rfl (zB rfl rfl) ?_ | refine zg rfl (zC rfl rfl) ?_ | refine zg rfl (zx rfl rfl rfl) ?_ | refine zV rfl rfl rfl rfl ?_ | refine ze rfl rfl rfl rfl (Yld.add rfl rfl (by simp only [In]; omega)) ?_ | refine ze rfl rfl rfl rfl (Yld.sub rfl rfl (by simp only [In]; omega)) ?_ | refine ze rfl rfl rfl rfl (zE rfl rfl (by simp only [In]; omega)) ?_ | refine ze rfl rfl rfl rfl (zu qY rfl rfl rfl rfl) ?_ | refine ze rfl rfl rfl rfl (zz qY rfl rfl rfl (by simp only [In]; omega)) ?_ | refine ze rfl rfl rfl rfl (zH rfl rfl (by omega) (by omega) (by simp only [In]; omega)) ?_ | refine ze rfl rfl rfl rfl (zI rfl rfl (by omega) (by omega)) ?_ | refine ze rfl rfl rfl rfl (zG rfl rfl (by omega)) ?_ | refine ze rfl rfl rfl rfl (zA rfl rfl (by omega)) ?_ | refine ze rfl rfl rfl rfl (zc qY rfl) ?_ | refine ze rfl rfl rfl rfl (zM jh rfl rfl rfl) ?_ | refine ze rfl rfl rfl rfl (zB rfl rfl) ?_ | refine ze rfl rfl rfl rfl (zC rfl rfl) ?_ | refine ze rfl rfl rfl rfl (zx rfl rfl rfl) ?_)
   cases db with
   | none =>
    have hpar:=hnone hstep
    repeat (first | refine zd ?_ | refine WC.block ?_ | refine zb ?_ | refine zf ?_ | refine za ?_ | refine zo ?_ | refine zD ?_ | refine zq ?_ | refine zj ?_ | refine zh ?_ | refine zi ?_ | refine zn ?_ | refine zm ?_ | refine zy rfl ?_ | refine zT ?_ | refine zU ?_ | refine zv ?_ | refine zJ ?_ | refine zF ?_ | refine zg rfl (Yld.add rfl rfl (by simp only [In]; omega)) ?_ | refine zg rfl (Yld.sub rfl rfl (by simp only [In]; omega)) ?_ | refine zg rfl (zE rfl rfl (by simp only [In]; omega)) ?_ | refine zg rfl (zu qY rfl rfl rfl rfl) ?_ | refine zg rfl (zz qY rfl rfl rfl (by simp only [In]; omega)) ?_ | refine zg rfl (zH rfl rfl (by omega) (by omega) (by simp only [In]; omega)) ?_ | refine zg rfl (zI rfl rfl (by omega) (by omega)) ?_ | refine zg rfl (zG rfl rfl (by omega)) ?_ | refine zg rfl (zA rfl rfl (by omega)) ?_ | refine zg rfl (zc qY rfl) ?_ | refine zg rfl (zM jh rfl rfl rfl) ?_ | refine zg rfl (zB rfl rfl) ?_ | refine zg rfl (zC rfl rfl) ?_ | refine zg rfl (zx rfl rfl rfl) ?_ | refine zV rfl rfl rfl rfl ?_ | refine ze rfl rfl rfl rfl (Yld.add rfl rfl (by simp only [In]; omega)) ?_ | refine ze rfl rfl rfl rfl (Yld.sub rfl rfl (by simp only [In]; omega)) ?_ | refine ze rfl rfl rfl rfl (zE rfl rfl (by simp only [In]; omega)) ?_ | refine ze rfl rfl rfl rfl (zu qY rfl rfl rfl rfl) ?_ | refine ze rfl rfl rfl rfl (zz qY rfl rfl rfl (by simp only [In]; omega)) ?_ | refine ze rfl rfl rfl rfl (zH rfl rfl (by omega) (by omega) (by simp only [In]; omega)) ?_ | refine ze rfl rfl rfl rfl (zI rfl rfl (by omega) (by omega)) ?_ | refine ze rfl rfl rfl rfl (zG rfl rfl (by omega)) ?_ | refine ze rfl rfl rfl rfl (zA rfl rfl (by omega)) ?_ | refine ze rfl rfl rfl rfl (zc qY rfl) ?_ | refine ze rfl rfl rfl rfl (zM jh rfl rfl rfl) ?_ | refine ze rfl rfl rfl rfl (zB rfl rfl) ?_ | refine ze rfl rfl rfl rfl (zC rfl rfl) ?_ | refine ze rfl rfl rfl rfl (zx rfl rfl rfl) ?_)
    refine zp rfl (fun _=>?_) (fun h=>by cases h)
    repeat (first | refine zd ?_ | refine WC.block ?_ | refine zb ?_ | refine zf ?_ | refine za ?_ | refine zo ?_ | refine zD ?_ | refine zq ?_ | refine zj ?_ | refine zh ?_ | refine zi ?_ | refine zn ?_ | refine zm ?_ | refine zy rfl ?_ | refine zT ?_ | refine zU ?_ | refine zv ?_ | refine zJ ?_ | refine zF ?_ | refine zg rfl (Yld.add rfl rfl (by simp only [In]; omega)) ?_ | refine zg rfl (Yld.sub rfl rfl (by simp only [In]; omega)) ?_ | refine zg rfl (zE rfl rfl (by simp only [In]; omega)) ?_ | refine zg rfl (zu qY rfl rfl rfl rfl) ?_ | refine zg rfl (zz qY rfl rfl rfl (by simp only [In]; omega)) ?_ | refine zg rfl (zH rfl rfl (by omega) (by omega) (by simp only [In]; omega)) ?_ | refine zg rfl (zI rfl rfl (by omega) (by omega)) ?_ | refine zg rfl (zG rfl rfl (by omega)) ?_ | refine zg rfl (zA rfl rfl (by omega)) ?_ | refine zg rfl (zc qY rfl) ?_ | refine zg rfl (zM jh rfl rfl rfl) ?_ | refine zg rfl (zB rfl rfl) ?_ | refine zg rfl (zC rfl rfl) ?_ | refine zg rfl (zx rfl rfl rfl) ?_ | refine zV rfl rfl rfl rfl ?_ | refine ze rfl rfl rfl rfl (Yld.add rfl rfl (by simp only [In]; omega)) ?_ | refine ze rfl rfl rfl rfl (Yld.sub rfl rfl (by simp only [In]; omega)) ?_ | refine ze rfl rfl rfl rfl (zE rfl rfl (by simp only [In]; omega)) ?_ | refine ze rfl rfl rfl rfl (zu qY rfl rfl rfl rfl) ?_ | refine ze rfl rfl rfl rfl (zz qY rfl rfl rfl (by simp only [In]; omega)) ?_ | refine ze rfl rfl rfl rfl (zH rfl rfl (by omega) (by omega) (by simp only [In]; omega)) ?_ | refine ze rfl rfl rfl rfl (zI rfl rfl (by omega) (by omega)) ?_ | refine ze rfl rfl rfl rfl (zG rfl rfl (by omega)) ?_ | refine ze rfl rfl rfl rfl (zA rfl rfl (by omega)) ?_ | refine ze rfl rfl rfl rfl (zc qY rfl) ?_ | refine ze rfl rfl rfl rfl (zM jh rfl rfl rfl) ?_ | refine ze rfl rfl rfl rfl (zB rfl rfl) ?_ | refine ze rfl rfl rfl rfl (zC rfl rfl) ?_ | refine ze rfl rfl rfl rfl (zx rfl rfl rfl) ?_)
    refine WC.chain (fun k => !(Nat.beq k 2)) (fun w'=>w'.cell? ⟨4,0,none⟩=some E) mixed (by kernel_rfl) (fun w' h=>(h.cell _).trans hEX) ?_
    refine qy rfl rfl (fun w' _=>Yld.zarr qY rfl zero45) ?_
    refine qy rfl rfl (fun w' h=>Yld.cell qY h rfl rfl) ?_
    refine WK.eff rfl (qI qY rfl rfl rfl (by intro u hu; rw [List.mem_replicate] at hu; rw [hu.2]; rfl) hB13 rfl rfl) (fun w' h=>cell_grown h.2 hEX (by simp; omega)) ?_
    rintro w4 ⟨hB4,hg4⟩
    repeat (first | refine qy rfl rfl (fun _ _=>Yld.add rfl rfl (by simp only [In]; omega)) ?_ | refine qy rfl rfl (fun _ _=>Yld.sub rfl rfl (by simp only [In]; omega)) ?_ | refine qy rfl rfl (fun _ _=>zE rfl rfl (by simp only [In]; omega)) ?_ | refine qy rfl rfl (fun _ _=>zu qY rfl rfl rfl rfl) ?_ | refine qy rfl rfl (fun _ _=>zz qY rfl rfl rfl (by simp only [In]; omega)) ?_ | refine qy rfl rfl (fun _ _=>zH rfl rfl (by omega) (by omega) (by simp only [In]; omega)) ?_ | refine qy rfl rfl (fun _ _=>zI rfl rfl (by omega) (by omega)) ?_ | refine qy rfl rfl (fun _ _=>zG rfl rfl (by omega)) ?_ | refine qy rfl rfl (fun _ _=>zA rfl rfl (by omega)) ?_ | refine qy rfl rfl (fun _ _=>zc qY rfl) ?_)
    refine WK.nil ?_
    repeat (first | refine zd ?_ | refine WC.block ?_ | refine zb ?_ | refine zf ?_ | refine za ?_ | refine zo ?_ | refine zD ?_ | refine zq ?_ | refine zj ?_ | refine zh ?_ | refine zi ?_ | refine zn ?_ | refine zm ?_ | refine zy rfl ?_ | refine zT ?_ | refine zU ?_ | refine zv ?_ | refine zJ ?_ | refine zF ?_ | refine zg rfl (Yld.add rfl rfl (by simp only [In]; omega)) ?_ | refine zg rfl (Yld.sub rfl rfl (by simp only [In]; omega)) ?_ | refine zg rfl (zE rfl rfl (by simp only [In]; omega)) ?_ | refine zg rfl (zu qY rfl rfl rfl rfl) ?_ | refine zg rfl (zz qY rfl rfl rfl (by simp only [In]; omega)) ?_ | refine zg rfl (zH rfl rfl (by omega) (by omega) (by simp only [In]; omega)) ?_ | refine zg rfl (zI rfl rfl (by omega) (by omega)) ?_ | refine zg rfl (zG rfl rfl (by omega)) ?_ | refine zg rfl (zA rfl rfl (by omega)) ?_ | refine zg rfl (zc qY rfl) ?_)
    exact qE qY rfl rfl rfl hB4 rfl rfl ⟨by rw [parR,hpar]; rfl,kq hgX hg4 hl1⟩
   | some b =>
    have hb:=hlb b rfl
    have hor:=or_in ha hb
    repeat (first | refine zd ?_ | refine WC.block ?_ | refine zb ?_ | refine zf ?_ | refine za ?_ | refine zo ?_ | refine zD ?_ | refine zq ?_ | refine zj ?_ | refine zh ?_ | refine zi ?_ | refine zn ?_ | refine zm ?_ | refine zy rfl ?_ | refine zT ?_ | refine zU ?_ | refine zv ?_ | refine zJ ?_ | refine zF ?_ | refine zg rfl (Yld.add rfl rfl (by simp only [In]; omega)) ?_ | refine zg rfl (Yld.sub rfl rfl (by simp only [In]; omega)) ?_ | refine zg rfl (zE rfl rfl (by simp only [In]; omega)) ?_ | refine zg rfl (zu qY rfl rfl rfl rfl) ?_ | refine zg rfl (zz qY rfl rfl rfl (by simp only [In]; omega)) ?_ | refine zg rfl (zH rfl rfl (by omega) (by omega) (by simp only [In]; omega)) ?_ | refine zg rfl (zI rfl rfl (by omega) (by omega)) ?_ | refine zg rfl (zG rfl rfl (by omega)) ?_ | refine zg rfl (zA rfl rfl (by omega)) ?_ | refine zg rfl (zc qY rfl) ?_ | refine zg rfl (zM jh rfl rfl rfl) ?_ | refine zg rfl (zB rfl rfl) ?_ | refine zg rfl (zC rfl rfl) ?_ | refine zg rfl (zx rfl rfl rfl) ?_ | refine zV rfl rfl rfl rfl ?_ | refine ze rfl rfl rfl rfl (Yld.add rfl rfl (by simp only [In]; omega)) ?_ | refine ze rfl rfl rfl rfl (Yld.sub rfl rfl (by simp only [In]; omega)) ?_ | refine ze rfl rfl rfl rfl (zE rfl rfl (by simp only [In]; omega)) ?_ | refine ze rfl rfl rfl rfl (zu qY rfl rfl rfl rfl) ?_ | refine ze rfl rfl rfl rfl (zz qY rfl rfl rfl (by simp only [In]; omega)) ?_ | refine ze rfl rfl rfl rfl (zH rfl rfl (by omega) (by omega) (by simp only [In]; omega)) ?_ | refine ze rfl rfl rfl rfl (zI rfl rfl (by omega) (by omega)) ?_ | refine ze rfl rfl rfl rfl (zG rfl rfl (by omega)) ?_ | refine ze rfl rfl rfl rfl (zA rfl rfl (by omega)) ?_ | refine ze rfl rfl rfl rfl (zc qY rfl) ?_ | refine ze rfl rfl rfl rfl (zM jh rfl rfl rfl) ?_ | refine ze rfl rfl rfl rfl (zB rfl rfl) ?_ | refine ze rfl rfl rfl rfl (zC rfl rfl) ?_ | refine ze rfl rfl rfl rfl (zx rfl rfl rfl) ?_)
    refine zp rfl (fun h=>by cases h) (fun _=>?_)
    repeat (first | refine zg rfl (Yld.aaddrN qY rfl rfl rfl (by omega)) ?_ | refine zd ?_ | refine WC.block ?_ | refine zb ?_ | refine zf ?_ | refine za ?_ | refine zo ?_ | refine zD ?_ | refine zq ?_ | refine zj ?_ | refine zh ?_ | refine zi ?_ | refine zn ?_ | refine zm ?_ | refine zy rfl ?_ | refine zT ?_ | refine zU ?_ | refine zv ?_ | refine zJ ?_ | refine zF ?_ | refine zg rfl (Yld.add rfl rfl (by simp only [In]; omega)) ?_ | refine zg rfl (Yld.sub rfl rfl (by simp only [In]; omega)) ?_ | refine zg rfl (zE rfl rfl (by simp only [In]; omega)) ?_ | refine zg rfl (zu qY rfl rfl rfl rfl) ?_ | refine zg rfl (zz qY rfl rfl rfl (by simp only [In]; omega)) ?_ | refine zg rfl (zH rfl rfl (by omega) (by omega) (by simp only [In]; omega)) ?_ | refine zg rfl (zI rfl rfl (by omega) (by omega)) ?_ | refine zg rfl (zG rfl rfl (by omega)) ?_ | refine zg rfl (zA rfl rfl (by omega)) ?_ | refine zg rfl (zc qY rfl) ?_ | refine zg rfl (zM jh rfl rfl rfl) ?_ | refine zg rfl (zB rfl rfl) ?_ | refine zg rfl (zC rfl rfl) ?_ | refine zg rfl (zx rfl rfl rfl) ?_ | refine zV rfl rfl rfl rfl ?_ | refine ze rfl rfl rfl rfl (Yld.add rfl rfl (by simp only [In]; omega)) ?_ | refine ze rfl rfl rfl rfl (Yld.sub rfl rfl (by simp only [In]; omega)) ?_ | refine ze rfl rfl rfl rfl (zE rfl rfl (by simp only [In]; omega)) ?_ | refine ze rfl rfl rfl rfl (zu qY rfl rfl rfl rfl) ?_ | refine ze rfl rfl rfl rfl (zz qY rfl rfl rfl (by simp only [In]; omega)) ?_ | refine ze rfl rfl rfl rfl (zH rfl rfl (by omega) (by omega) (by simp only [In]; omega)) ?_ | refine ze rfl rfl rfl rfl (zI rfl rfl (by omega) (by omega)) ?_ | refine ze rfl rfl rfl rfl (zG rfl rfl (by omega)) ?_ | refine ze rfl rfl rfl rfl (zA rfl rfl (by omega)) ?_ | refine ze rfl rfl rfl rfl (zc qY rfl) ?_ | refine ze rfl rfl rfl rfl (zM jh rfl rfl rfl) ?_ | refine ze rfl rfl rfl rfl (zB rfl rfl) ?_ | refine ze rfl rfl rfl rfl (zC rfl rfl) ?_ | refine ze rfl rfl rfl rfl (zx rfl rfl rfl) ?_)
    refine zR (u:=vb (u8v (bits .or .u8 (shlV .u8 (a:Int) 4) (b:Int)))) one5 rfl (by rw [vb,hor]; rfl) rfl hB23 (by simp; omega) (fun w4 hB4 hg4=>?_)
    rw [show 0+i*1=i by omega,fill_set l i 32 _ hll (by omega)] at hB4
    repeat (first | refine zd ?_ | refine WC.block ?_ | refine zb ?_ | refine zf ?_ | refine za ?_ | refine zo ?_ | refine zD ?_ | refine zq ?_ | refine zj ?_ | refine zh ?_ | refine zi ?_ | refine zn ?_ | refine zm ?_ | refine zy rfl ?_ | refine zT ?_ | refine zU ?_ | refine zv ?_ | refine zJ ?_ | refine zF ?_ | refine zg rfl (Yld.add rfl rfl (by simp only [In]; omega)) ?_ | refine zg rfl (Yld.sub rfl rfl (by simp only [In]; omega)) ?_ | refine zg rfl (zE rfl rfl (by simp only [In]; omega)) ?_ | refine zg rfl (zu qY rfl rfl rfl rfl) ?_ | refine zg rfl (zz qY rfl rfl rfl (by simp only [In]; omega)) ?_ | refine zg rfl (zH rfl rfl (by omega) (by omega) (by simp only [In]; omega)) ?_ | refine zg rfl (zI rfl rfl (by omega) (by omega)) ?_ | refine zg rfl (zG rfl rfl (by omega)) ?_ | refine zg rfl (zA rfl rfl (by omega)) ?_ | refine zg rfl (zc qY rfl) ?_ | refine zg rfl (zM jh rfl rfl rfl) ?_ | refine zg rfl (zB rfl rfl) ?_ | refine zg rfl (zC rfl rfl) ?_ | refine zg rfl (zx rfl rfl rfl) ?_ | refine zV rfl rfl rfl rfl ?_ | refine ze rfl rfl rfl rfl (Yld.add rfl rfl (by simp only [In]; omega)) ?_ | refine ze rfl rfl rfl rfl (Yld.sub rfl rfl (by simp only [In]; omega)) ?_ | refine ze rfl rfl rfl rfl (zE rfl rfl (by simp only [In]; omega)) ?_ | refine ze rfl rfl rfl rfl (zu qY rfl rfl rfl rfl) ?_ | refine ze rfl rfl rfl rfl (zz qY rfl rfl rfl (by simp only [In]; omega)) ?_ | refine ze rfl rfl rfl rfl (zH rfl rfl (by omega) (by omega) (by simp only [In]; omega)) ?_ | refine ze rfl rfl rfl rfl (zI rfl rfl (by omega) (by omega)) ?_ | refine ze rfl rfl rfl rfl (zG rfl rfl (by omega)) ?_ | refine ze rfl rfl rfl rfl (zA rfl rfl (by omega)) ?_ | refine ze rfl rfl rfl rfl (zc qY rfl) ?_ | refine ze rfl rfl rfl rfl (zM jh rfl rfl rfl) ?_ | refine ze rfl rfl rfl rfl (zB rfl rfl) ?_ | refine ze rfl rfl rfl rfl (zC rfl rfl) ?_ | refine ze rfl rfl rfl rfl (zx rfl rfl rfl) ?_)
    exact WX.round2 (i+1) _ ⟨by omega,hstep,hB4,hB13.keep hg4 (by simp; omega),ja hg23 hg4⟩ (by omega) (by repeat (first | exact qb | refine Sub.cons rfl ?_))
 ·simp only [decide_eq_false_iff_not] at h
  obtain rfl:i=32:=by omega
  have hpar:parS s=some l:=by unfold parS; rw [if_pos hs64,hp]
  simp only [Nat.sub_self,List.replicate_zero,List.append_nil] at hB23
  repeat (first | refine zd ?_ | refine WC.block ?_ | refine zb ?_ | refine zf ?_ | refine za ?_ | refine zo ?_ | refine zD ?_ | refine zq ?_ | refine zj ?_ | refine zh ?_ | refine zi ?_ | refine zn ?_ | refine zm ?_ | refine zy rfl ?_ | refine zT ?_ | refine zU ?_ | refine zv ?_ | refine zJ ?_ | refine zF ?_ | refine zg rfl (Yld.add rfl rfl (by simp only [In]; omega)) ?_ | refine zg rfl (Yld.sub rfl rfl (by simp only [In]; omega)) ?_ | refine zg rfl (zE rfl rfl (by simp only [In]; omega)) ?_ | refine zg rfl (zu qY rfl rfl rfl rfl) ?_ | refine zg rfl (zz qY rfl rfl rfl (by simp only [In]; omega)) ?_ | refine zg rfl (zH rfl rfl (by omega) (by omega) (by simp only [In]; omega)) ?_ | refine zg rfl (zI rfl rfl (by omega) (by omega)) ?_ | refine zg rfl (zG rfl rfl (by omega)) ?_ | refine zg rfl (zA rfl rfl (by omega)) ?_ | refine zg rfl (zc qY rfl) ?_ | refine zg rfl (zM jh rfl rfl rfl) ?_ | refine zg rfl (zB rfl rfl) ?_ | refine zg rfl (zC rfl rfl) ?_ | refine zg rfl (zx rfl rfl rfl) ?_ | refine zV rfl rfl rfl rfl ?_ | refine ze rfl rfl rfl rfl (Yld.add rfl rfl (by simp only [In]; omega)) ?_ | refine ze rfl rfl rfl rfl (Yld.sub rfl rfl (by simp only [In]; omega)) ?_ | refine ze rfl rfl rfl rfl (zE rfl rfl (by simp only [In]; omega)) ?_ | refine ze rfl rfl rfl rfl (zu qY rfl rfl rfl rfl) ?_ | refine ze rfl rfl rfl rfl (zz qY rfl rfl rfl (by simp only [In]; omega)) ?_ | refine ze rfl rfl rfl rfl (zH rfl rfl (by omega) (by omega) (by simp only [In]; omega)) ?_ | refine ze rfl rfl rfl rfl (zI rfl rfl (by omega) (by omega)) ?_ | refine ze rfl rfl rfl rfl (zG rfl rfl (by omega)) ?_ | refine ze rfl rfl rfl rfl (zA rfl rfl (by omega)) ?_ | refine ze rfl rfl rfl rfl (zc qY rfl) ?_ | refine ze rfl rfl rfl rfl (zM jh rfl rfl rfl) ?_ | refine ze rfl rfl rfl rfl (zB rfl rfl) ?_ | refine ze rfl rfl rfl rfl (zC rfl rfl) ?_ | refine ze rfl rfl rfl rfl (zx rfl rfl rfl) ?_)
  refine zg rfl (zQ (vs:=l.map vb) qY hB23 rfl rfl (by rw [List.drop_zero]; exact List.take_of_length_le (by simp [hll])) (by simp [hll])) ?_
  refine zP qY rfl rfl rfl (oneM One.b _) hB13 rfl (by rw [List.length_map]; exact hll) (fun w4 hB4 hg4=>?_)
  repeat (first | refine zd ?_ | refine WC.block ?_ | refine zb ?_ | refine zf ?_ | refine za ?_ | refine zo ?_ | refine zD ?_ | refine zq ?_ | refine zj ?_ | refine zh ?_ | refine zi ?_ | refine zn ?_ | refine zm ?_ | refine zy rfl ?_ | refine zT ?_ | refine zU ?_ | refine zv ?_ | refine zJ ?_ | refine zF ?_ | refine zg rfl (Yld.add rfl rfl (by simp only [In]; omega)) ?_ | refine zg rfl (Yld.sub rfl rfl (by simp only [In]; omega)) ?_ | refine zg rfl (zE rfl rfl (by simp only [In]; omega)) ?_ | refine zg rfl (zu qY rfl rfl rfl rfl) ?_ | refine zg rfl (zz qY rfl rfl rfl (by simp only [In]; omega)) ?_ | refine zg rfl (zH rfl rfl (by omega) (by omega) (by simp only [In]; omega)) ?_ | refine zg rfl (zI rfl rfl (by omega) (by omega)) ?_ | refine zg rfl (zG rfl rfl (by omega)) ?_ | refine zg rfl (zA rfl rfl (by omega)) ?_ | refine zg rfl (zc qY rfl) ?_ | refine zg rfl (zM jh rfl rfl rfl) ?_ | refine zg rfl (zB rfl rfl) ?_ | refine zg rfl (zC rfl rfl) ?_ | refine zg rfl (zx rfl rfl rfl) ?_ | refine zV rfl rfl rfl rfl ?_ | refine ze rfl rfl rfl rfl (Yld.add rfl rfl (by simp only [In]; omega)) ?_ | refine ze rfl rfl rfl rfl (Yld.sub rfl rfl (by simp only [In]; omega)) ?_ | refine ze rfl rfl rfl rfl (zE rfl rfl (by simp only [In]; omega)) ?_ | refine ze rfl rfl rfl rfl (zu qY rfl rfl rfl rfl) ?_ | refine ze rfl rfl rfl rfl (zz qY rfl rfl rfl (by simp only [In]; omega)) ?_ | refine ze rfl rfl rfl rfl (zH rfl rfl (by omega) (by omega) (by simp only [In]; omega)) ?_ | refine ze rfl rfl rfl rfl (zI rfl rfl (by omega) (by omega)) ?_ | refine ze rfl rfl rfl rfl (zG rfl rfl (by omega)) ?_ | refine ze rfl rfl rfl rfl (zA rfl rfl (by omega)) ?_ | refine ze rfl rfl rfl rfl (zc qY rfl) ?_ | refine ze rfl rfl rfl rfl (zM jh rfl rfl rfl) ?_ | refine ze rfl rfl rfl rfl (zB rfl rfl) ?_ | refine ze rfl rfl rfl rfl (zC rfl rfl) ?_ | refine ze rfl rfl rfl rfl (zx rfl rfl rfl) ?_)
  exact qE qY rfl rfl rfl hB4 (by rw [List.length_map]; exact hll) rfl ⟨by rw [parR,hpar],kq hgX hg4 hl1⟩
end
 
section
open Go Go.RowKit
def M_sha_Of (b:List UInt8) (K:List UInt8->Prop):Prop:=b.length<=1000000/\K (shaS b)
theorem W_sha_Of {w:World} {b:List UInt8} {A:Option Addr} {c n:Nat} {K:List UInt8->Prop} (hR:Rd vb w A c b) (hn:n=b.length) (H:M_sha_Of b K):Fn Tryz.prog 48 ⟨[.slice A n c]⟩ w (fun v w'=>w.grownBy w' none/\∃ r:List UInt8,v=.agg ⟨a32 r⟩/\K r):=by
 subst hn
 exact (of_fn A c b w hR H.1).mono fun v w' ⟨hv,hg⟩=>⟨hg,shaS b,by rw [hv,a32_map _ (shaS_len b)],H.2⟩
def M_sha_Many (l:List (List UInt8)) (K:List UInt8->Prop):Prop:=l.length<=100/\(∀ x∈l,x.length<=10000)/\K (manyS l)
theorem W_sha_Many {w:World} {l:List (List UInt8)} {A:Option Addr} {c n:Nat} {K:List UInt8->Prop} (hR:Rd vs w A c l) (hn:n=l.length) (H:M_sha_Many l K):Fn Tryz.prog 75 ⟨[.slice A n c]⟩ w (fun v w'=>w.grownBy w' none/\∃ r:List UInt8,v=.agg ⟨a32 r⟩/\K r):=by
 subst hn
 exact (many_fn A c l w hR H.1 H.2.1).mono fun v w' ⟨hv,hg⟩=>⟨hg,manyS l,by rw [hv,a32_map _ (manyS_len l)],H.2.2⟩
def M_sha_Text (s:List UInt8) (K:List UInt8->Prop):Prop:=∀ t:List UInt8,t.length=32->(∀ i,i<32->t.getD i 0=s.getD i 0)->K (hexS t)
theorem W_sha_Text {w:World} {s:List UInt8} {K:List UInt8->Prop} (H:M_sha_Text s K):Fn Tryz.prog 74 ⟨[.agg ⟨a32 s⟩]⟩ w (fun v w'=>w.grownBy w' none/\∃ r:List UInt8,v=vs r/\K r):=by
 have hl:((List.range 32).map fun i=>s.getD i 0).length=32:=by simp
 have e:a32 s=((List.range 32).map fun i=>s.getD i 0).map vb:=by rw [a32_range,List.map_map]; rfl
 rw [e]
 exact (text_fn _ w hl).mono fun v w' ⟨hv,hg⟩=>⟨hg,_,hv,H _ hl fun i hi=>by simp [List.getD,hi]⟩
def M_sha_Parse (s:List UInt8) (K:List UInt8->Er->Prop):Prop:=(∀ l,parS s=some l->K l .ok)/\(parS s=none->K (List.replicate 32 0) (.e 12))
theorem parS_len {s l:List UInt8} (h:parS s=some l):l.length=32:=by
 unfold parS at h
 split at h
 ·exact parN_len s 32 l h
 ·cases h
theorem W_sha_Parse {S:List Nat} {w:World} {s:List UInt8} {K:List UInt8->Er->Prop} (hG:GOK S w) (h12:12∈S) (H:M_sha_Parse s K):Fn Tryz.prog 96 ⟨[vs s]⟩ w (fun v w'=>w.grownBy w' none/\∃ (r0:List UInt8),∃ (v_r1:Value),∃ (r1:Er),v=.tuple #[.agg ⟨a32 r0⟩,v_r1]/\ErrR S w' v_r1 r1/\K r0 r1):=by
 obtain ⟨E,hE,hE'⟩:=hG.get 12 4 h12 rfl rfl
 refine (parse_fn s E w hE).mono fun v w' ⟨hv,hg⟩=>?_
 unfold parR at hv
 cases h:parS s with
 | some l =>
  rw [h] at hv
  exact ⟨hg,l,.nilIface,.ok,by rw [hv,a32_map _ (parS_len h)],rfl,H.1 l h⟩
 | none =>
  rw [h] at hv
  exact ⟨hg,_,E,.e 12,by rw [hv,a32_map _ (by simp)],hE'.grown hg,H.2 h⟩
end
 
section
open Go Go.RowKit
section
variable {P:Program} {N:Nat} {ops:Array Oper} {fl:Nat->Bool} {D:World->Prop} {n g:Nat} {K:Act->World->Prop} {Q:Post} {L:jj} {w:World} {f:Nat} {listed:Array Bool} {d:Nat} {op:Op} {ty:TypeId} {pos:String} {af:Array Edge} {gd:Option (Nat × Bool)}
structure HeadOk (ops:Array Oper) (n:Nat):Prop where
 sel:Region.noSelect ops=true
 sink:Region.sinkB .any ops n=true
 chain:Region.chainB .any ops n=true
 lt:n<ops.size
def WA (P:Program) (N:Nat) (ops:Array Oper) (fl:Nat->Bool) (D:World->Prop) (n g:Nat) (K:Act->World->Prop) (f:Nat) (listed:Array Bool) (L:jj) (w:World):Prop :=
 HeadOk ops n->HeadInv .any ops n listed->∀ a w1,Eqv w w1->D w1->Has N L a->anyT P .any ops fl D n (fun l' a' w'=>Region.seqB .any ops g n l'=true/\K a' w') f listed a w1
def WI (P:Program) (N:Nat) (ops:Array Oper) (fl:Nat->Bool) (D:World->Prop) (n g:Nat) (K:Act->World->Prop) (f:Nat) (listed:Array Bool) (L:jj) (w:World) (i:Nat):Prop :=
 HeadOk ops n->HeadInv .any ops n (listed.setIfInBounds i true)->∀ a w1,Eqv w w1->D w1->Has N L a->∃ o,ops[i]? = some o/\fl i=false/\sRun P ops D o a w1 fun a' w'=>anyT P .any ops fl D n (fun l' a' w'=>Region.seqB .any ops g n l'=true/\K a' w') f (listed.setIfInBounds i true) a' w'
theorem WA.y {v:Value} (k:Nat) (ho:ops[k]? = some ⟨some d,op,ty,pos,af,none⟩) (hf:(fl k && ((Region.ready .any ops listed).contains k && (Region.free .any ops listed k && Nat.blt k n)))=true) (hd:Nat.blt d N=true) (hy:∀ w',D w'->Yld P N w' ⟨some d,op,ty,pos,af,none⟩ L v)
  (h:WA P N ops fl D n g K f (listed.setIfInBounds k true) ((d,v) :: L) w):WA P N ops fl D n g K (f+1) listed L w:=fun ok inv a w1 e hw ha=>by
 simp only [Bool.and_eq_true] at hf
 obtain ⟨hfl,hr,hfr,hkn⟩:=hf
 have hr':k∈Region.ready .any ops listed:=by simpa using hr
 have hkn':k<n:=by simpa [Nat.blt_eq] using hkn
 exact float_firstT ho hfl (Region.noSelect_spec ok.sel) ok.sink ok.chain ok.lt hkn' (fun _ _ _ hL=>seqB_ready hL.1) f listed a w1 hw inv (Region.free_spec ho hfr) hr'
  (.inl ⟨by simp [Region.wanted],fun w' hw'=>hy w' hw' a w' (Eqv.refl _) ha⟩) (h ok (inv.set hr' hkn') _ _ e hw (ha.put hd v))
def AllL {α:Type} (p:α->Prop):List α->Prop
 | []=>True
 | [x]=>p x
 | x :: y :: l=>p x/\AllL p (y :: l)
theorem AllL.mem {α:Type} {p:α->Prop}:∀ {l:List α},AllL p l->∀ x∈l,p x
 | [],_,x,h=>by simp at h
 | [y],h,x,hx=>by simp at hx; subst hx; exact h
 | y :: z :: l,h,x,hx=>by
  rcases List.mem_cons.1 hx with rfl | hx
  ·exact h.1
  ·exact AllL.mem h.2 x hx
theorem WA.split (is:List Nat) (hr:Region.ready .any ops listed=is) (hc:(!is.isEmpty && is.all fun i=>Nat.blt i n)=true) (h:AllL (WI P N ops fl D n g K f listed L w) is):WA P N ops fl D n g K (f+1) listed L w:=fun ok inv a w1 e hw ha=>by
 simp only [Bool.and_eq_true] at hc
 refine ⟨fun h0=>?_,fun i hi=>?_⟩
 ·rw [hr] at h0; subst h0; simp at hc
 ·have hi':=hi
  rw [hr] at hi'
  have hin:i<n:=by have:=List.all_eq_true.1 hc.2 i hi'; simpa [Nat.blt_eq] using this
  obtain ⟨o,ho,hfl,hs⟩:=h.mem i hi' ok (inv.set hi hin) a w1 e hw ha
  exact ⟨hin,o,ho,.inr ⟨hfl,hs⟩⟩
theorem WI.put {i:Nat} {R:Value->World->Prop} (ho:ops[i]? = some ⟨some d,op,ty,pos,af,none⟩) (hf:fl i=false) (hd:Nat.blt d N=true) (hr:Eff P N w ⟨some d,op,ty,pos,af,none⟩ L R) (hD:∀ v w',R v w'->D w')
  (hk:∀ v w',R v w'->WA P N ops fl D n g K f (listed.setIfInBounds i true) ((d,v) :: L) w'):WI P N ops fl D n g K f listed L w i:=fun ok inv a w1 e hw ha=>by
 refine ⟨_,ho,hf,?_⟩
 unfold sRun
 rw [if_pos (by simp [Region.wanted])]
 obtain ⟨v,w',h,hR⟩:=hr a w1 e ha
 rw [h]
 exact ⟨hD v w' hR,hk v w' hR ok inv _ w' (Eqv.refl _) (hD v w' hR) (ha.put hd v)⟩
theorem WI.eff {i:Nat} {R:World->Prop} (ho:ops[i]? = some ⟨none,op,ty,pos,af,none⟩) (hf:fl i=false) (hr:Ef0 P N w ⟨none,op,ty,pos,af,none⟩ L R) (hD:∀ w',R w'->D w')
  (hk:∀ w',R w'->WA P N ops fl D n g K f (listed.setIfInBounds i true) L w'):WI P N ops fl D n g K f listed L w i:=fun ok inv a w1 e hw ha=>by
 refine ⟨_,ho,hf,?_⟩
 unfold sRun
 rw [if_pos (by simp [Region.wanted])]
 obtain ⟨w',h,hR⟩:=hr a w1 e ha
 rw [h]
 exact ⟨hD w' hR,hk w' hR ok inv _ w' (Eqv.refl _) (hD w' hR) ha⟩
theorem WI.call {i:Nat} {R:Value->World->Prop} {fn:FuncId} {as_:List Operand} {ts:Array TypeId} {vs:List Value} (ho:ops[i]? = some ⟨some d,.call ⟨.value (.func fn),⟨as_⟩,ts⟩,ty,pos,af,gd⟩) (hf:fl i=false) (hg:Wants N ops L gd) (hd:Nat.blt d N=true) (hv:opvs L as_=some vs) (hc:Fn P fn ⟨vs⟩ w R) (hD:∀ v w',R v w'->∀ w2,Eqv w' w2->D w2)
  (hk:∀ v w',R v w'->WA P N ops fl D n g K f (listed.setIfInBounds i true) ((d,v) :: L) w'):WI P N ops fl D n g K f listed L w i:=fun ok inv a w1 e hw ha=>by
 refine ⟨_,ho,hf,?_⟩
 unfold sRun
 rw [if_pos (Wants.wanted (o:=⟨some d,.call ⟨.value (.func fn),⟨as_⟩,ts⟩,ty,pos,af,gd⟩) hg ha),run_enter ha hv hc.1]
 refine (hc.2 w1 e).mono ?_
 rintro en w' ⟨v,w0,rfl,h0,hR⟩
 exact ⟨v,rfl,hD v w0 hR w' h0,hk v w0 hR ok inv _ w' h0 (hD v w0 hR w' h0) (ha.put hd v)⟩
end
end
 
section
open Go Go.RowKit
attribute [local irreducible] WL WC WX WQ WK WJ Yld Eff Ef0 Fn
def jT (text:List UInt8) (K:(List UInt8)->Prop):Prop :=
 (text.length<=maxLen) /\
 M_sha_Of text (fun (t5:List UInt8) =>
 K t5)
def Zc (K:(List Int)->Prop):Prop :=
 K ([(1116352408:Int),(1899447441:Int),(3049323471:Int),(3921009573:Int),(961987163:Int),(1508970993:Int),(2453635748:Int),(2870763221:Int),(3624381080:Int),(310598401:Int),(607225278:Int),(1426881987:Int),(1925078388:Int),(2162078206:Int),(2614888103:Int),(3248222580:Int),(3835390401:Int),(4022224774:Int),(264347078:Int),(604807628:Int),(770255983:Int),(1249150122:Int),(1555081692:Int),(1996064986:Int),(2554220882:Int),(2821834349:Int),(2952996808:Int),(3210313671:Int),(3336571891:Int),(3584528711:Int),(113926993:Int),(338241895:Int),(666307205:Int),(773529912:Int),(1294757372:Int),(1396182291:Int),(1695183700:Int),(1986661051:Int),(2177026350:Int),(2456956037:Int),(2730485921:Int),(2820302411:Int),(3259730800:Int),(3345764771:Int),(3516065817:Int),(3600352804:Int),(4094571909:Int),(275423344:Int),(430227734:Int),(506948616:Int),(659060556:Int),(883997877:Int),(958139571:Int),(1322822218:Int),(1537002063:Int),(1747873779:Int),(1955562222:Int),(2024104815:Int),(2227730452:Int),(2361852424:Int),(2428436474:Int),(2756734187:Int),(3204031479:Int),(3329325298:Int)]:List Int)
def jn (x:Int) (n:Int) (K:Int->Prop):Prop :=
 (0<=n) /\
 (0<=IntKind.wrap .u64 ((32:Int) - n)) /\
 K (bits .or .u32 (shrV .u32 x n.toNat) (shlV .u32 x (IntKind.wrap .u64 ((32:Int) - n)).toNat))
def j3 (s:List UInt8) (K:(List UInt8)->Prop):Prop :=
 Zc (fun (k:List Int) =>
 (In .i64 ((s.length:Int)+(72:Int))) /\
 (0<=(s.length:Int)+(72:Int)/\((s.length:Int)+(72:Int))*1<=140737488355328/\(s.length:Int)+(72:Int)<=140737488355328) /\
 (((([]:List UInt8)).length+s.length)*1<=140737488355328) /\
 (((([]:List UInt8)++s).length+(([128]:List UInt8)).length)*1<=140737488355328) /\
 Lp1 (fun (m:List UInt8) kont1=>(0<=(m.length:Int)/\0<(64:Int)) /\
 ((¬ (((m.length:Int) % (64:Int))=(56:Int))->((m.length+(([0]:List UInt8)).length)*1<=140737488355328) /\
 kont1 (m++([0]:List UInt8))) /\
 (((m.length:Int) % (64:Int))=(56:Int)->Lp2 (fun (m2:List UInt8) (i:Int) kont2=>(((0:Int)<=i->(In .i64 ((8:Int)*i)) /\
 (0<=IntKind.wrap .u64 ((8:Int)*i)) /\
 (0<=IntKind.wrap .u8 (shrV .u64 (IntKind.wrap .u64 ((IntKind.wrap .u64 (s.length:Int))*(8:Int))) (IntKind.wrap .u64 ((8:Int)*i)).toNat)/\IntKind.wrap .u8 (shrV .u64 (IntKind.wrap .u64 ((IntKind.wrap .u64 (s.length:Int))*(8:Int))) (IntKind.wrap .u64 ((8:Int)*i)).toNat)<=255) /\
 ((m2.length+(([UInt8.ofNat (IntKind.wrap .u8 (shrV .u64 (IntKind.wrap .u64 ((IntKind.wrap .u64 (s.length:Int))*(8:Int))) (IntKind.wrap .u64 ((8:Int)*i)).toNat)).toNat]:List UInt8)).length)*1<=140737488355328) /\
 (In .i64 (i - (1:Int))) /\
 kont2 (m2++([UInt8.ofNat (IntKind.wrap .u8 (shrV .u64 (IntKind.wrap .u64 ((IntKind.wrap .u64 (s.length:Int))*(8:Int))) (IntKind.wrap .u64 ((8:Int)*i)).toNat)).toNat]:List UInt8)) (i - (1:Int))) /\
 (¬ ((0:Int)<=i)->Lp2 (fun (at_:Int) (h:List Int) kont3=>8=h.length->((at_<(m2.length:Int)->(0<=(64:Int)/\(64:Int)*4<=140737488355328/\(64:Int)<=140737488355328) /\
 Lp2 (fun (i2:Int) (w_:List Int) kont4=>64=w_.length->((i2<(16:Int)->(In .i64 ((4:Int)*i2)) /\
 (In .i64 (at_+((4:Int)*i2))) /\
 (0<=at_+((4:Int)*i2)/\at_+((4:Int)*i2)<(m2.length:Nat)) /\
 (In .i64 ((4:Int)*i2)) /\
 (In .i64 (at_+((4:Int)*i2))) /\
 (In .i64 ((at_+((4:Int)*i2))+(1:Int))) /\
 (0<=(at_+((4:Int)*i2))+(1:Int)/\(at_+((4:Int)*i2))+(1:Int)<(m2.length:Nat)) /\
 (In .i64 ((4:Int)*i2)) /\
 (In .i64 (at_+((4:Int)*i2))) /\
 (In .i64 ((at_+((4:Int)*i2))+(2:Int))) /\
 (0<=(at_+((4:Int)*i2))+(2:Int)/\(at_+((4:Int)*i2))+(2:Int)<(m2.length:Nat)) /\
 (In .i64 ((4:Int)*i2)) /\
 (In .i64 (at_+((4:Int)*i2))) /\
 (In .i64 ((at_+((4:Int)*i2))+(3:Int))) /\
 (0<=(at_+((4:Int)*i2))+(3:Int)/\(at_+((4:Int)*i2))+(3:Int)<(m2.length:Nat)) /\
 (0<=i2/\i2<(64:Nat)) /\
 (In .i64 (i2+(1:Int))) /\
 kont4 (i2+(1:Int)) (w_.set i2.toNat (bits .or .u32 (bits .or .u32 (bits .or .u32 (shlV .u32 ((m2.getD ((at_+((4:Int)*i2)).toNat) 0).toNat:Int) 24) (shlV .u32 ((m2.getD (((at_+((4:Int)*i2))+(1:Int)).toNat) 0).toNat:Int) 16)) (shlV .u32 ((m2.getD (((at_+((4:Int)*i2))+(2:Int)).toNat) 0).toNat:Int) 8)) ((m2.getD (((at_+((4:Int)*i2))+(3:Int)).toNat) 0).toNat:Int)))) /\
 (¬ (i2<(16:Int))->Lp2 (fun (i3:Int) (w_2:List Int) kont5=>64=w_2.length->((i3<(64:Int)->(In .i64 (i3 - (15:Int))) /\
 (0<=i3 - (15:Int)/\i3 - (15:Int)<(64:Nat)) /\
 jn (w_2.getD ((i3 - (15:Int)).toNat) 0) (7:Int) (fun (t124:Int) =>
 (In .i64 (i3 - (15:Int))) /\
 (0<=i3 - (15:Int)/\i3 - (15:Int)<(64:Nat)) /\
 jn (w_2.getD ((i3 - (15:Int)).toNat) 0) (18:Int) (fun (t130:Int) =>
 (In .i64 (i3 - (15:Int))) /\
 (0<=i3 - (15:Int)/\i3 - (15:Int)<(64:Nat)) /\
 (In .i64 (i3 - (2:Int))) /\
 (0<=i3 - (2:Int)/\i3 - (2:Int)<(64:Nat)) /\
 jn (w_2.getD ((i3 - (2:Int)).toNat) 0) (17:Int) (fun (t144:Int) =>
 (In .i64 (i3 - (2:Int))) /\
 (0<=i3 - (2:Int)/\i3 - (2:Int)<(64:Nat)) /\
 jn (w_2.getD ((i3 - (2:Int)).toNat) 0) (19:Int) (fun (t150:Int) =>
 (In .i64 (i3 - (2:Int))) /\
 (0<=i3 - (2:Int)/\i3 - (2:Int)<(64:Nat)) /\
 (In .i64 (i3 - (16:Int))) /\
 (0<=i3 - (16:Int)/\i3 - (16:Int)<(64:Nat)) /\
 (In .i64 (i3 - (7:Int))) /\
 (0<=i3 - (7:Int)/\i3 - (7:Int)<(64:Nat)) /\
 (0<=i3/\i3<(64:Nat)) /\
 (In .i64 (i3+(1:Int))) /\
 kont5 (i3+(1:Int)) (w_2.set i3.toNat (IntKind.wrap .u32 ((IntKind.wrap .u32 ((IntKind.wrap .u32 ((w_2.getD ((i3 - (16:Int)).toNat) 0)+(bits .xor .u32 (bits .xor .u32 t124 t130) (shrV .u32 (w_2.getD ((i3 - (15:Int)).toNat) 0) 3))))+(w_2.getD ((i3 - (7:Int)).toNat) 0)))+(bits .xor .u32 (bits .xor .u32 t144 t150) (shrV .u32 (w_2.getD ((i3 - (2:Int)).toNat) 0) 10)))))))))) /\
 (¬ (i3<(64:Int))->(0<=(8:Int)/\(8:Int)*4<=140737488355328/\(8:Int)<=140737488355328) /\
 (((([]:List Int)).length+h.length)*4<=140737488355328) /\
 Lp2 (fun (v_:List Int) (i4:Int) kont6=>((i4<(64:Int)->(0<=(4:Int)/\(4:Int)<(v_.length:Nat)) /\
 jn (v_.getD 4 0) (6:Int) (fun (t187:Int) =>
 (0<=(4:Int)/\(4:Int)<(v_.length:Nat)) /\
 jn (v_.getD 4 0) (11:Int) (fun (t191:Int) =>
 (0<=(4:Int)/\(4:Int)<(v_.length:Nat)) /\
 jn (v_.getD 4 0) (25:Int) (fun (t196:Int) =>
 (0<=(4:Int)/\(4:Int)<(v_.length:Nat)) /\
 (0<=(5:Int)/\(5:Int)<(v_.length:Nat)) /\
 (0<=(4:Int)/\(4:Int)<(v_.length:Nat)) /\
 (0<=(6:Int)/\(6:Int)<(v_.length:Nat)) /\
 (0<=(7:Int)/\(7:Int)<(v_.length:Nat)) /\
 (0<=i4/\i4<(k.length:Nat)) /\
 (0<=i4/\i4<(64:Nat)) /\
 (0<=(0:Int)/\(0:Int)<(v_.length:Nat)) /\
 jn (v_.getD 0 0) (2:Int) (fun (t234:Int) =>
 (0<=(0:Int)/\(0:Int)<(v_.length:Nat)) /\
 jn (v_.getD 0 0) (13:Int) (fun (t238:Int) =>
 (0<=(0:Int)/\(0:Int)<(v_.length:Nat)) /\
 jn (v_.getD 0 0) (22:Int) (fun (t243:Int) =>
 (0<=(0:Int)/\(0:Int)<(v_.length:Nat)) /\
 (0<=(1:Int)/\(1:Int)<(v_.length:Nat)) /\
 (0<=(0:Int)/\(0:Int)<(v_.length:Nat)) /\
 (0<=(2:Int)/\(2:Int)<(v_.length:Nat)) /\
 (0<=(1:Int)/\(1:Int)<(v_.length:Nat)) /\
 (0<=(2:Int)/\(2:Int)<(v_.length:Nat)) /\
 (0<=(0:Int)/\(0:Int)<(v_.length:Nat)) /\
 (0<=(1:Int)/\(1:Int)<(v_.length:Nat)) /\
 (0<=(2:Int)/\(2:Int)<(v_.length:Nat)) /\
 (0<=(3:Int)/\(3:Int)<(v_.length:Nat)) /\
 (0<=(4:Int)/\(4:Int)<(v_.length:Nat)) /\
 (0<=(5:Int)/\(5:Int)<(v_.length:Nat)) /\
 (0<=(6:Int)/\(6:Int)<(v_.length:Nat)) /\
 (In .i64 (i4+(1:Int))) /\
 kont6 ([IntKind.wrap .u32 ((IntKind.wrap .u32 ((IntKind.wrap .u32 ((IntKind.wrap .u32 ((IntKind.wrap .u32 ((IntKind.wrap .u32 ((v_.getD 7 0)+(bits .xor .u32 (bits .xor .u32 t187 t191) t196)))+(bits .xor .u32 (bits .and .u32 (v_.getD 4 0) (v_.getD 5 0)) (bits .and .u32 (bits .xor .u32 (if IntKind.signed .u32 then -1 else IntKind.max .u32) (v_.getD 4 0)) (v_.getD 6 0)))))+(k.getD i4.toNat 0)))+(w_2.getD i4.toNat 0)))+(bits .xor .u32 (bits .xor .u32 t234 t238) t243)))+(bits .xor .u32 (bits .xor .u32 (bits .and .u32 (v_.getD 0 0) (v_.getD 1 0)) (bits .and .u32 (v_.getD 0 0) (v_.getD 2 0))) (bits .and .u32 (v_.getD 1 0) (v_.getD 2 0)))),v_.getD 0 0,v_.getD 1 0,v_.getD 2 0,IntKind.wrap .u32 ((v_.getD 3 0)+(IntKind.wrap .u32 ((IntKind.wrap .u32 ((IntKind.wrap .u32 ((IntKind.wrap .u32 ((v_.getD 7 0)+(bits .xor .u32 (bits .xor .u32 t187 t191) t196)))+(bits .xor .u32 (bits .and .u32 (v_.getD 4 0) (v_.getD 5 0)) (bits .and .u32 (bits .xor .u32 (if IntKind.signed .u32 then -1 else IntKind.max .u32) (v_.getD 4 0)) (v_.getD 6 0)))))+(k.getD i4.toNat 0)))+(w_2.getD i4.toNat 0)))),v_.getD 4 0,v_.getD 5 0,v_.getD 6 0]:List Int) (i4+(1:Int))))))))) /\
 (¬ (i4<(64:Int))->Lp2 (fun (i5:Int) (h_2:List Int) kont7=>8=h_2.length->((i5<(8:Int)->(0<=i5/\i5<(8:Nat)) /\
 (0<=i5/\i5<(v_.length:Nat)) /\
 (0<=i5/\i5<(8:Nat)) /\
 (In .i64 (i5+(1:Int))) /\
 kont7 (i5+(1:Int)) (h_2.set i5.toNat (IntKind.wrap .u32 ((h_2.getD i5.toNat 0)+(v_.getD i5.toNat 0))))) /\
 (¬ (i5<(8:Int))->(In .i64 (at_+(64:Int))) /\
 kont3 (at_+(64:Int)) h_2))) (0:Int) h))) (([]:List Int)++h) (0:Int)))) (16:Int) w_))) (0:Int) (List.replicate 64 0)) /\
 (¬ (at_<(m2.length:Int))->Lp2 (fun (i6:Int) (out0:List UInt8) kont8=>((i6<(8:Int)->Lp2 (fun (j:Int) (out02:List UInt8) kont9=>((j<(4:Int)->(In .i64 ((4:Int)*i6)) /\
 (In .i64 (((4:Int)*i6)+j)) /\
 (0<=i6/\i6<(8:Nat)) /\
 (In .i64 ((8:Int)*j)) /\
 (In .i64 ((24:Int) - ((8:Int)*j))) /\
 (0<=IntKind.wrap .u64 ((24:Int) - ((8:Int)*j))) /\
 (0<=((4:Int)*i6)+j/\((4:Int)*i6)+j<32) /\
 (0<=IntKind.wrap .u8 (shrV .u32 (h.getD i6.toNat 0) (IntKind.wrap .u64 ((24:Int) - ((8:Int)*j))).toNat)/\IntKind.wrap .u8 (shrV .u32 (h.getD i6.toNat 0) (IntKind.wrap .u64 ((24:Int) - ((8:Int)*j))).toNat)<=255) /\
 (out02.length=32) /\
 (In .i64 (j+(1:Int))) /\
 kont9 (j+(1:Int)) (out02.set ((((4:Int)*i6)+j).toNat) (UInt8.ofNat (IntKind.wrap .u8 (shrV .u32 (h.getD i6.toNat 0) (IntKind.wrap .u64 ((24:Int) - ((8:Int)*j))).toNat)).toNat))) /\
 (¬ (j<(4:Int))->(In .i64 (i6+(1:Int))) /\
 kont8 (i6+(1:Int)) out02))) (0:Int) out0) /\
 (¬ (i6<(8:Int))->K out0))) (0:Int) (List.replicate 32 0:List UInt8)))) (0:Int) ([(1779033703:Int),(3144134277:Int),(1013904242:Int),(2773480762:Int),(1359893119:Int),(2600822924:Int),(528734635:Int),(1541459225:Int)]:List Int)))) m (7:Int)))) ((([]:List UInt8)++s)++([128]:List UInt8)))
def Zl (l:List (List UInt8)) (K:(List UInt8)->Prop):Prop :=
 (l.length<=maxLen ->
 Lp2 (fun (m:List UInt8) (i:Int) kont1=>((i<(l.length:Int)->(0<=i/\i<(l.length:Nat)) /\
 (0<=IntKind.wrap .u8 (shrV .i64 ((l.getD i.toNat []).length:Int) 24)/\IntKind.wrap .u8 (shrV .i64 ((l.getD i.toNat []).length:Int) 24)<=255) /\
 (0<=IntKind.wrap .u8 (shrV .i64 ((l.getD i.toNat []).length:Int) 16)/\IntKind.wrap .u8 (shrV .i64 ((l.getD i.toNat []).length:Int) 16)<=255) /\
 (0<=IntKind.wrap .u8 (shrV .i64 ((l.getD i.toNat []).length:Int) 8)/\IntKind.wrap .u8 (shrV .i64 ((l.getD i.toNat []).length:Int) 8)<=255) /\
 (0<=IntKind.wrap .u8 ((l.getD i.toNat []).length:Int)/\IntKind.wrap .u8 ((l.getD i.toNat []).length:Int)<=255) /\
 ((m.length+(([UInt8.ofNat (IntKind.wrap .u8 (shrV .i64 ((l.getD i.toNat []).length:Int) 24)).toNat,UInt8.ofNat (IntKind.wrap .u8 (shrV .i64 ((l.getD i.toNat []).length:Int) 16)).toNat,UInt8.ofNat (IntKind.wrap .u8 (shrV .i64 ((l.getD i.toNat []).length:Int) 8)).toNat,UInt8.ofNat (IntKind.wrap .u8 ((l.getD i.toNat []).length:Int)).toNat]:List UInt8)).length)*1<=140737488355328) /\
 (0<=i/\i<(l.length:Nat)) /\
 (((m++([UInt8.ofNat (IntKind.wrap .u8 (shrV .i64 ((l.getD i.toNat []).length:Int) 24)).toNat,UInt8.ofNat (IntKind.wrap .u8 (shrV .i64 ((l.getD i.toNat []).length:Int) 16)).toNat,UInt8.ofNat (IntKind.wrap .u8 (shrV .i64 ((l.getD i.toNat []).length:Int) 8)).toNat,UInt8.ofNat (IntKind.wrap .u8 ((l.getD i.toNat []).length:Int)).toNat]:List UInt8)).length+(l.getD i.toNat []).length)*1<=140737488355328) /\
 (In .i64 (i+(1:Int))) /\
 kont1 ((m++([UInt8.ofNat (IntKind.wrap .u8 (shrV .i64 ((l.getD i.toNat []).length:Int) 24)).toNat,UInt8.ofNat (IntKind.wrap .u8 (shrV .i64 ((l.getD i.toNat []).length:Int) 16)).toNat,UInt8.ofNat (IntKind.wrap .u8 (shrV .i64 ((l.getD i.toNat []).length:Int) 8)).toNat,UInt8.ofNat (IntKind.wrap .u8 ((l.getD i.toNat []).length:Int)).toNat]:List UInt8))++(l.getD i.toNat [])) (i+(1:Int))) /\
 (¬ (i<(l.length:Int))->j3 m (fun (t39:List UInt8) =>
 K t39)))) [] (0:Int))
def jF (s:List UInt8) (K:(List UInt8)->Prop):Prop :=
 (0<=(64:Int)/\(64:Int)*1<=140737488355328/\(64:Int)<=140737488355328) /\
 Lp2 (fun (out:List UInt8) (i:Int) kont1=>((i<(32:Int)->(0<=i/\i<32) /\
 (0<=shrV .u8 ((s.getD i.toNat 0).toNat:Int) 4/\shrV .u8 ((s.getD i.toNat 0).toNat:Int) 4<([48,49,50,51,52,53,54,55,56,57,97,98,99,100,101,102]:List UInt8).length) /\
 (0<=i/\i<32) /\
 (0<=bits .and .u8 ((s.getD i.toNat 0).toNat:Int) (15:Int)/\bits .and .u8 ((s.getD i.toNat 0).toNat:Int) (15:Int)<([48,49,50,51,52,53,54,55,56,57,97,98,99,100,101,102]:List UInt8).length) /\
 ((out.length+(([([48,49,50,51,52,53,54,55,56,57,97,98,99,100,101,102]:List UInt8).getD (shrV .u8 ((s.getD i.toNat 0).toNat:Int) 4).toNat 0,([48,49,50,51,52,53,54,55,56,57,97,98,99,100,101,102]:List UInt8).getD (bits .and .u8 ((s.getD i.toNat 0).toNat:Int) (15:Int)).toNat 0]:List UInt8)).length)*1<=140737488355328) /\
 (In .i64 (i+(1:Int))) /\
 kont1 (out++([([48,49,50,51,52,53,54,55,56,57,97,98,99,100,101,102]:List UInt8).getD (shrV .u8 ((s.getD i.toNat 0).toNat:Int) 4).toNat 0,([48,49,50,51,52,53,54,55,56,57,97,98,99,100,101,102]:List UInt8).getD (bits .and .u8 ((s.getD i.toNat 0).toNat:Int) (15:Int)).toNat 0]:List UInt8)) (i+(1:Int))) /\
 (¬ (i<(32:Int))->K out))) ([]:List UInt8) (0:Int)
def jl (a:List UInt8) (b:List UInt8) (K:Bool->Prop):Prop :=
 jF a (fun (t6:List UInt8) =>
 jF b (fun (t8:List UInt8) =>
 K (decide (t6=t8))))
set_option maxHeartbeats 8000000 in
theorem Zf {w:World} {text:List UInt8} {K:(List UInt8)->Prop} (H:jT text K):Fn Tryz.prog 10 ⟨[vs text]⟩ w (fun v w'=>w.grownBy w' none/\∃ (r:List UInt8),v=.agg ⟨a32 r⟩/\K r):=by
 unfold jT at H
 refine Fn.enter (by kernel_rfl) Tryz.func10 rfl Tryz.ntmps10 rfl ?_
 refine zd (zb (WL.alloc rfl zero45 (fun g1 w1 hB1 hg1 hl1=>?_)))
 rw [kc] at hB1
 refine zf (za (zd (zb (yp (h:=?_)))))
 obtain ⟨h1,H⟩:=H
 refine WL.s2b qY rfl rfl rfl rfl rfl h1 (fun e3 e4 w2 hR1 hg2 hge1=>WL.call rfl rfl (W_sha_Of hR1 rfl H) ?_)
 rintro _ w3 ⟨hg3,t5,rfl,H⟩
 exact zP (vs:=(a32 t5)) qY rfl rfl rfl (jq _) ((hB1.g0 hg2).g0 hg3) rfl rfl (fun w4 hB2 hg4=>zf (za (zq (qv qY rfl rfl rfl hB2 rfl ⟨(jk (ja (ja hg1 hg2) hg3) hg4 (Ge.le (Ge.box hl1) (Nat.le_refl _))),t5,rfl,H⟩))))
set_option maxHeartbeats 8000000 in
theorem W_smithyref1_table {w:World} {K:(List Int)->Prop} (H:Zc  K):Fn Tryz.prog 52 ⟨[]⟩ w (fun v w'=>w.grownBy w' none/\∃ (r:List Int),∃ (A_r:Option Addr),∃ (c_r:Nat),v=.slice A_r r.length c_r/\Own vu w' w.heap.size 115 A_r c_r r/\K r):=by
 unfold Zc at H
 refine Fn.enter (by kernel_rfl) Tryz.func52 rfl Tryz.ntmps52 rfl ?_
 refine zd (zb (yp (h:=(zf (za (zd (zb (qD qY rfl rfl rfl (jd rfl (jd rfl (jd rfl (jd rfl (jd rfl (jd rfl (jd rfl (jd rfl (jd rfl (jd rfl (jd rfl (jd rfl (jd rfl (jd rfl (jd rfl (jd rfl (jd rfl (jd rfl (jd rfl (jd rfl (jd rfl (jd rfl (jd rfl (jd rfl (jd rfl (jd rfl (jd rfl (jd rfl (jd rfl (jd rfl (jd rfl (jd rfl (jd rfl (jd rfl (jd rfl (jd rfl (jd rfl (jd rfl (jd rfl (jd rfl (jd rfl (jd rfl (jd rfl (jd rfl (jd rfl (jd rfl (jd rfl (jd rfl (jd rfl (jd rfl (jd rfl (jd rfl (jd rfl (jd rfl (jd rfl (jd rfl (jd rfl (jd rfl (jd rfl (jd rfl (jd rfl (jd rfl (jd rfl (jd rfl kg)))))))))))))))))))))))))))))))))))))))))))))))))))))))))))))))) rfl (by omega) (fun g1 w1 hB1 hg1 hl1=>?_)))))))))
 have hO1:Own vu w1 w.heap.size 115 (some ⟨g1,0,none⟩) 64 ([(1116352408:Int),(1899447441:Int),(3049323471:Int),(3921009573:Int),(961987163:Int),(1508970993:Int),(2453635748:Int),(2870763221:Int),(3624381080:Int),(310598401:Int),(607225278:Int),(1426881987:Int),(1925078388:Int),(2162078206:Int),(2614888103:Int),(3248222580:Int),(3835390401:Int),(4022224774:Int),(264347078:Int),(604807628:Int),(770255983:Int),(1249150122:Int),(1555081692:Int),(1996064986:Int),(2554220882:Int),(2821834349:Int),(2952996808:Int),(3210313671:Int),(3336571891:Int),(3584528711:Int),(113926993:Int),(338241895:Int),(666307205:Int),(773529912:Int),(1294757372:Int),(1396182291:Int),(1695183700:Int),(1986661051:Int),(2177026350:Int),(2456956037:Int),(2730485921:Int),(2820302411:Int),(3259730800:Int),(3345764771:Int),(3516065817:Int),(3600352804:Int),(4094571909:Int),(275423344:Int),(430227734:Int),(506948616:Int),(659060556:Int),(883997877:Int),(958139571:Int),(1322822218:Int),(1537002063:Int),(1747873779:Int),(1955562222:Int),(2024104815:Int),(2227730452:Int),(2361852424:Int),(2428436474:Int),(2756734187:Int),(3204031479:Int),(3329325298:Int)]:List Int):=Own.ofBl hB1 (Nat.le_trans (Nat.le_refl _) hl1) (by simp [maxLen]) rfl
 exact yp (h:=(zf (za (zq (zw rfl rfl ⟨hg1,([(1116352408:Int),(1899447441:Int),(3049323471:Int),(3921009573:Int),(961987163:Int),(1508970993:Int),(2453635748:Int),(2870763221:Int),(3624381080:Int),(310598401:Int),(607225278:Int),(1426881987:Int),(1925078388:Int),(2162078206:Int),(2614888103:Int),(3248222580:Int),(3835390401:Int),(4022224774:Int),(264347078:Int),(604807628:Int),(770255983:Int),(1249150122:Int),(1555081692:Int),(1996064986:Int),(2554220882:Int),(2821834349:Int),(2952996808:Int),(3210313671:Int),(3336571891:Int),(3584528711:Int),(113926993:Int),(338241895:Int),(666307205:Int),(773529912:Int),(1294757372:Int),(1396182291:Int),(1695183700:Int),(1986661051:Int),(2177026350:Int),(2456956037:Int),(2730485921:Int),(2820302411:Int),(3259730800:Int),(3345764771:Int),(3516065817:Int),(3600352804:Int),(4094571909:Int),(275423344:Int),(430227734:Int),(506948616:Int),(659060556:Int),(883997877:Int),(958139571:Int),(1322822218:Int),(1537002063:Int),(1747873779:Int),(1955562222:Int),(2024104815:Int),(2227730452:Int),(2361852424:Int),(2428436474:Int),(2756734187:Int),(3204031479:Int),(3329325298:Int)]:List Int),(some ⟨g1,0,none⟩),64,rfl,hO1,H⟩)))))
set_option maxHeartbeats 8000000 in
theorem jy {w:World} {x:Int} {n:Int} {K:Int->Prop} (H:jn x n K):Fn Tryz.prog 53 ⟨[.int .u32 x,.int .u64 n]⟩ w (fun v w'=>w=w'/\∃ (r:Int),v=.int .u32 r/\K r):=by
 unfold jn at H
 refine Fn.enter (by kernel_rfl) Tryz.func53 rfl Tryz.ntmps53 rfl ?_
 refine zd (zb (yp (h:=(zf (za (zd (zb (yp (h:=(yp (h:=?_)))))))))))
 obtain ⟨h1,H⟩:=H
 refine zg rfl (zA rfl rfl h1) (yp (h:=(yp (h:=(yp (h:=?_))))))
 obtain ⟨h2,H⟩:=H
 exact zg rfl (zG rfl rfl h2) (yp (h:=(yp (h:=(zf (za (zq (zw rfl rfl ⟨rfl,bits .or .u32 (shrV .u32 x n.toNat) (shlV .u32 x (IntKind.wrap .u64 ((32:Int) - n)).toNat),rfl,H⟩))))))))
set_option maxHeartbeats 8000000 in
theorem Zt {w:World} {s:List UInt8} {K:(List UInt8)->Prop} (H:j3 s K):Fn Tryz.prog 14 ⟨[vs s]⟩ w (fun v w'=>w.grownBy w' none/\∃ (r:List UInt8),v=.agg ⟨a32 r⟩/\K r):=by
 unfold j3 at H
 refine Fn.enter (by kernel_rfl) Tryz.func14 rfl Tryz.ntmps14 rfl ?_
 refine zd (zb (WL.alloc rfl zero44 (fun g1 w1 hB1 hg1 hl1=>?_)))
 rw [kc] at hB1
 have gr1:=hg1
 refine zf (za (zd (zb (WL.call rfl rfl (W_smithyref1_table H) ?_))))
 rintro _ w2 ⟨hg2,k,A_k,c_k,rfl,hk,H⟩
 have hb1:=hk.ge'
 have k1:=hk.base (fun g hg=>Nat.le_trans (qZ gr1) (hb1 g hg))
 have gr2:=ja gr1 hg2
 have k2:=hB1.g0 hg2
 refine yp (h:=(zf (za (zd (zb (qD qY rfl rfl rfl (jd rfl (jd rfl (jd rfl (jd rfl (jd rfl (jd rfl (jd rfl (jd rfl kg)))))))) rfl (by omega) (fun g2 w3 hB2 hg3 hl2=>?_)))))))
 have hO1:Own vu w3 w.heap.size 115 (some ⟨g2,0,none⟩) 8 ([(1779033703:Int),(3144134277:Int),(1013904242:Int),(2773480762:Int),(1359893119:Int),(2600822924:Int),(528734635:Int),(1541459225:Int)]:List Int):=Own.ofBl hB2 (Nat.le_trans (qZ gr2) hl2) (by simp [maxLen]) rfl
 have gr3:=ja gr2 hg3
 have k3:=k2.g0 hg3
 have k4:=k1.grown hg3
 refine yp (h:=(zf (za (zd (zb (yp (h:=(yp (h:=?_)))))))))
 obtain ⟨h1,H⟩:=H
 refine zg rfl (Yld.add rfl rfl h1) ?_
 obtain ⟨h2,H⟩:=H
 refine WL.makeCI (f:=vb) (B:=w.heap.size) qY rfl rfl rfl rfl h2.1 h2.2.1 h2.2.2 (qZ gr3) (fun g3 w4 hO2 hg4 hl3=>?_)
 have gr4:=ja gr3 hg4
 have k5:=k3.g0 hg4
 have k6:=k4.grown hg4
 have k7:=hO1.grown hg4
 refine yp (h:=?_)
 obtain ⟨h3,H⟩:=H
 refine WL.appendS qY rfl rfl rfl hO2 rfl rfl rfl h3 (kF h3) (qZ gr4) (fun A_m c_m w5 hO3 hg5 hk1=>?_)
 have gr5:=jk gr4 hg5 hO2.ge'
 refine yp (h:=(zf (za (zd (zb (yp (h:=(qD qY rfl rfl rfl (jd rfl kg) rfl (by omega) (fun g4 w6 hB3 hg6 hl4=>?_)))))))))
 have hO4:Own vb w6 w.heap.size 5 (some ⟨g4,0,none⟩) 1 ([128]:List UInt8):=Own.ofBl hB3 (Nat.le_trans (qZ gr5) hl4) (by simp [maxLen]) rfl
 have gr6:=ja gr5 hg6
 have k11:=(k5.go hg5 (Dj.new k3.lt' (Ge.box hl3))).g0 hg6
 have k12:=(k6.go hg5 (Dj.new k4.lt' (Ge.box hl3))).grown hg6
 have k13:=(k7.go hg5 (Dj.new hO1.lt' (Ge.box hl3))).grown hg6
 have k14:=hO3.grown hg6
 obtain ⟨h4,H⟩:=H
 refine qp qY rfl rfl One.b k14 rfl rfl hO4.rd rfl rfl h4 (kF h4) (qZ gr6) (fun c6 c7 w7 hO5 hg7 hk2=>yp (h:=(zf (za (zd (WC.block ?_))))))
 obtain ⟨I1,mu1,a7,HR1⟩:=H
 refine zW (fun n' L' w'=>∃ (m:List UInt8),∃ (a5:Option Addr),∃ (b0:Nat),∃ (n_m:Nat),n'=mu1 m/\L'=[(0,vs s),(2,.pointer (some ⟨g1,0,none⟩)),(3,.slice A_k k.length c_k),(4,.slice (some ⟨g2,0,none⟩) 8 8),(5,.slice a5 n_m b0)]/\I1 m/\n_m=m.length/\w.grownBy w' none/\Bl w' g1 44 (a32 (List.replicate 32 0:List UInt8))/\Own vu w' w.heap.size 115 A_k c_k k/\Own vu w' w.heap.size 115 (some ⟨g2,0,none⟩) 8 ([(1779033703:Int),(3144134277:Int),(1013904242:Int),(2773480762:Int),(1359893119:Int),(2600822924:Int),(528734635:Int),(1541459225:Int)]:List Int)/\Own vb w' w.heap.size 5 a5 b0 m/\Dj (some g1) (blk a5)/\Dj (blk A_k) (blk a5)/\Dj (blk (some ⟨g2,0,none⟩)) (blk a5)) _ _ ⟨(([]:List UInt8)++s)++([128]:List UInt8),c6,c7,((([]:List UInt8)++s)++([128]:List UInt8)).length,rfl,rfl,a7,rfl,(jk gr6 hg7 k14.ge'),(k11.go hg7 ((Dj.app (Dj.new k3.lt' (Ge.box hl3)).symm k5.lt' hk1).symm)),(k12.go hg7 ((Dj.app (Dj.new k4.lt' (Ge.box hl3)).symm k6.lt' hk1).symm)),(k13.go hg7 ((Dj.app (Dj.new hO1.lt' (Ge.box hl3)).symm k7.lt' hk1).symm)),hO5,(Dj.app (Dj.app (Dj.new k3.lt' (Ge.box hl3)).symm k5.lt' hk1) k11.lt' hk2).symm,(Dj.app (Dj.app (Dj.new k4.lt' (Ge.box hl3)).symm k6.lt' hk1) k12.lt' hk2).symm,(Dj.app (Dj.app (Dj.new hO1.lt' (Ge.box hl3)).symm k7.lt' hk1) k13.lt' hk2).symm⟩ sb ?_
 clear a7
 rintro _ _ w8 ⟨m,a5,b0,n_m,rfl,rfl,hI1,rfl,gr8,k18,k19,k20,k21,dj1,dj2,dj3⟩
 have H:=HR1 m hI1
 refine zd (zd (zb (yp (h:=(yp (h:=?_))))))
 obtain ⟨h5,H⟩:=H
 refine zg rfl (zI rfl rfl h5.1 h5.2) (yp (h:=(zf (za (zp rfl (fun b1=>?_) (fun b1=>?_))))))
 ·replace H:=H.1 (Zp b1)
  refine zo (za (WC.block (zb (yp (h:=(qD qY rfl rfl rfl (jd rfl kg) rfl (by omega) (fun g5 w9 hB4 hg8 hl5=>?_)))))))
  have hO6:Own vb w9 w.heap.size 5 (some ⟨g5,0,none⟩) 1 ([0]:List UInt8):=Own.ofBl hB4 (Nat.le_trans (qZ gr8) hl5) (by simp [maxLen]) rfl
  have gr9:=ja gr8 hg8
  have k22:=k18.g0 hg8
  have k23:=k19.grown hg8
  have k24:=k20.grown hg8
  have k25:=k21.grown hg8
  obtain ⟨h6,H⟩:=H
  exact qp qY rfl rfl One.b k25 rfl rfl hO6.rd rfl rfl h6 (kF h6) (qZ gr9) (fun d8 e0 w10 hO7 hg9 hk3=>yp (h:=(zf (zi (zS _ ⟨m++([0]:List UInt8),d8,e0,(m++([0]:List UInt8)).length,rfl,rfl,H.1,rfl,(jk gr9 hg9 k25.ge'),(k22.go hg9 dj1),(k23.go hg9 dj2),(k24.go hg9 dj3),hO7,(Dj.app dj1.symm k22.lt' hk3).symm,(Dj.app dj2.symm k23.lt' hk3).symm,(Dj.app dj3.symm k24.lt' hk3).symm⟩ sb H.2)))))
 ·replace H:=H.2 (kL b1)
  refine zD (zj (zj (zm (za (zd (zb (yp (h:=(yp (h:=(yp (h:=(yp (h:=(yp (h:=(zf (za (zd (zd (zb (yp (h:=(zf (za (WC.block ?_))))))))))))))))))))))))))
  obtain ⟨I2,mu2,d0,HR2⟩:=H
  refine zW (fun n' L' w'=>∃ (m2:List UInt8),∃ (a1:Option Addr),∃ (a4:Nat),∃ (c5:Nat),∃ (i:Int),n'=mu2 m2 i/\L'=[(2,.pointer (some ⟨g1,0,none⟩)),(3,.slice A_k k.length c_k),(4,.slice (some ⟨g2,0,none⟩) 8 8),(5,.slice a1 c5 a4),(6,.int .u64 (IntKind.wrap .u64 ((IntKind.wrap .u64 (s.length:Int))*(8:Int)))),(7,.int .i64 i)]/\I2 m2 i/\c5=m2.length/\w.grownBy w' none/\Bl w' g1 44 (a32 (List.replicate 32 0:List UInt8))/\Own vu w' w.heap.size 115 A_k c_k k/\Own vu w' w.heap.size 115 (some ⟨g2,0,none⟩) 8 ([(1779033703:Int),(3144134277:Int),(1013904242:Int),(2773480762:Int),(1359893119:Int),(2600822924:Int),(528734635:Int),(1541459225:Int)]:List Int)/\Own vb w' w.heap.size 5 a1 a4 m2/\Dj (some g1) (blk a1)/\Dj (blk A_k) (blk a1)/\Dj (blk (some ⟨g2,0,none⟩)) (blk a1)) _ _ ⟨m,a5,b0,m.length,(7:Int),rfl,rfl,d0,rfl,gr8,k18,k19,k20,k21,dj1,dj2,dj3⟩ sb ?_
  clear d0
  rintro _ _ w11 ⟨m2,a1,a4,c5,i,rfl,rfl,hI2,rfl,gr11,k29,k30,k31,k32,dj4,dj5,dj6⟩
  have H:=HR2 m2 i hI2
  refine zd (zd (zb (yp (h:=(yp (h:=(zf (za (zp rfl (fun b2=>?_) (fun b2=>?_))))))))))
  ·replace H:=H.1 (of_decide_eq_true b2)
   refine zo (za (zd (WC.block (zb (yp (h:=(yp (h:=(yp (h:=?_))))))))))
   obtain ⟨h7,H⟩:=H
   refine zg rfl (zE rfl rfl h7) (yp (h:=?_))
   obtain ⟨h8,H⟩:=H
   refine zg rfl (zA rfl rfl h8) (yp (h:=?_))
   obtain ⟨h9,H⟩:=H
   refine qD qY rfl rfl rfl (jd rfl kg) rfl (by omega) (fun g6 w12 hB5 hg10 hl6=>?_)
   replace hB5:Bl w12 g6 5 (([UInt8.ofNat (IntKind.wrap .u8 (shrV .u64 (IntKind.wrap .u64 ((IntKind.wrap .u64 (s.length:Int))*(8:Int))) (IntKind.wrap .u64 ((8:Int)*i)).toNat)).toNat]:List UInt8).map vb):=Bl.cast (lcons (byte_eq' h9) lnil) hB5
   have hO8:Own vb w12 w.heap.size 5 (some ⟨g6,0,none⟩) 1 ([UInt8.ofNat (IntKind.wrap .u8 (shrV .u64 (IntKind.wrap .u64 ((IntKind.wrap .u64 (s.length:Int))*(8:Int))) (IntKind.wrap .u64 ((8:Int)*i)).toNat)).toNat]:List UInt8):=Own.ofBl hB5 (Nat.le_trans (qZ gr11) hl6) (by simp [maxLen]) rfl
   have gr12:=ja gr11 hg10
   have k33:=k29.g0 hg10
   have k34:=k30.grown hg10
   have k35:=k31.grown hg10
   have k36:=k32.grown hg10
   obtain ⟨h10,H⟩:=H
   refine qp qY rfl rfl One.b k36 rfl rfl hO8.rd rfl rfl h10 (kF h10) (qZ gr12) (fun d9 e1 w13 hO9 hg11 hk4=>yp (h:=(zf (zi (za (zb (yp (h:=?_))))))))
   obtain ⟨h11,H⟩:=H
   exact zg rfl (Yld.sub rfl rfl h11) (yp (h:=(zf (zS _ ⟨m2++([UInt8.ofNat (IntKind.wrap .u8 (shrV .u64 (IntKind.wrap .u64 ((IntKind.wrap .u64 (s.length:Int))*(8:Int))) (IntKind.wrap .u64 ((8:Int)*i)).toNat)).toNat]:List UInt8),d9,e1,(m2++([UInt8.ofNat (IntKind.wrap .u8 (shrV .u64 (IntKind.wrap .u64 ((IntKind.wrap .u64 (s.length:Int))*(8:Int))) (IntKind.wrap .u64 ((8:Int)*i)).toNat)).toNat]:List UInt8)).length,i - (1:Int),rfl,rfl,H.1,rfl,(jk gr12 hg11 k36.ge'),(k33.go hg11 dj4),(k34.go hg11 dj5),(k35.go hg11 dj6),hO9,(Dj.app dj4.symm k33.lt' hk4).symm,(Dj.app dj5.symm k34.lt' hk4).symm,(Dj.app dj6.symm k35.lt' hk4).symm⟩ sb H.2))))
  ·replace H:=H.2 (of_decide_eq_false b2)
   refine zD (zj (zj (zm (za (zd (zd (zb (yp (h:=(zf (za (WC.block ?_))))))))))))
   obtain ⟨I3,mu3,d1,HR3⟩:=H
   refine zW (fun n' L' w'=>∃ (at_:Int),∃ (h:List Int),n'=mu3 at_ h/\L'=[(2,.pointer (some ⟨g1,0,none⟩)),(3,.slice A_k k.length c_k),(4,.slice (some ⟨g2,0,none⟩) 8 8),(5,.slice a1 m2.length a4),(8,.int .i64 at_)]/\I3 at_ h/\8=h.length/\w.grownBy w' none/\Bl w' g1 44 (a32 (List.replicate 32 0:List UInt8))/\Own vu w' w.heap.size 115 A_k c_k k/\Own vu w' w.heap.size 115 (some ⟨g2,0,none⟩) 8 h/\Own vb w' w.heap.size 5 a1 a4 m2) _ _ ⟨(0:Int),([(1779033703:Int),(3144134277:Int),(1013904242:Int),(2773480762:Int),(1359893119:Int),(2600822924:Int),(528734635:Int),(1541459225:Int)]:List Int),rfl,rfl,d1,rfl,gr11,k29,k30,k31,k32⟩ sb ?_
   clear d1
   rintro _ _ w14 ⟨at_,h,rfl,rfl,hI3,c1,gr14,k40,k41,k42,k43⟩
   have H:=HR3 at_ h hI3
   replace H:=H c1
   refine zd (zd (zb (yp (h:=(yp (h:=(yp (h:=(yp (h:=(zf (za (zp rfl (fun b3=>?_) (fun b3=>?_))))))))))))))
   ·replace H:=H.1 (of_decide_eq_true b3)
    refine zo (za (zd (WC.block (zd (zb ?_)))))
    obtain ⟨h12,H⟩:=H
    refine WL.makeZI (f:=vu) (z:=0) (B:=w.heap.size) qY rfl rfl zero115 rfl rfl h12.1 h12.2.1 h12.2.2 (qZ gr14) (fun g7 w15 hO10 hg12 hl7=>yp (h:=(zf (za (zd (zd (zb (yp (h:=(zf (za (WC.block ?_))))))))))))
    obtain ⟨I4,mu4,d2,HR4⟩:=H
    refine zW (fun n' L' w'=>∃ (i2:Int),∃ (w_:List Int),n'=mu4 i2 w_/\L'=[(2,.pointer (some ⟨g1,0,none⟩)),(3,.slice A_k k.length c_k),(4,.slice (some ⟨g2,0,none⟩) 8 8),(5,.slice a1 m2.length a4),(8,.int .i64 at_),(9,.slice (some ⟨g7,0,none⟩) 64 64),(10,.int .i64 i2)]/\I4 i2 w_/\64=w_.length/\w.grownBy w' none/\Bl w' g1 44 (a32 (List.replicate 32 0:List UInt8))/\Own vu w' w.heap.size 115 A_k c_k k/\Own vu w' w.heap.size 115 (some ⟨g2,0,none⟩) 8 h/\Own vb w' w.heap.size 5 a1 a4 m2/\Own vu w' w.heap.size 115 (some ⟨g7,0,none⟩) 64 w_) _ _ ⟨(0:Int),(List.replicate 64 0),rfl,rfl,d2,(List.length_replicate).symm,(ja gr14 hg12),(k40.g0 hg12),(k41.grown hg12),(k42.grown hg12),(k43.grown hg12),hO10⟩ sb ?_
    clear d2
    rintro _ _ w16 ⟨i2,w_,rfl,rfl,hI4,a8,gr16,k48,k49,k50,k51,k52⟩
    have H:=HR4 i2 w_ hI4
    replace H:=H a8
    refine zd (zd (zb (yp (h:=(yp (h:=(zf (za (zp rfl (fun b4=>?_) (fun b4=>?_))))))))))
    ·replace H:=H.1 (of_decide_eq_true b4)
     refine zo (za (zd (WC.block (zO (fun k => !(Nat.beq k 44)) (LD [8,18,29,40] (fun w'=>Rd vb w' a1 a4 m2)) mixed (by kernel_rfl) (fun k w' h _=>(kW h k51.rd)) (zl rfl rfl (fun w' hw'=>zc qY rfl) (zl rfl rfl (fun w' hw'=>zc qY rfl) (zl rfl rfl (fun w' hw'=>zc qY rfl) (zl rfl rfl (fun w' hw'=>zc qY rfl) (zl rfl rfl (fun w' hw'=>zc qY rfl) ?_)))))))))
     obtain ⟨h13,H⟩:=H
     refine zl rfl rfl (fun w' hw'=>zE rfl rfl h13) ?_
     obtain ⟨h14,H⟩:=H
     refine zl rfl rfl (fun w' hw'=>Yld.add rfl rfl h14) ?_
     obtain ⟨h15,H⟩:=H
     refine zl rfl rfl (fun w' hw'=>zK qY k51.rd rfl rfl rfl rfl h15.1 h15.2) (zl rfl rfl (fun w' hw'=>zN 0 qY (hw' rfl) rfl rfl (iltN h15 rfl)) (zl rfl rfl (fun w' hw'=>zu qY rfl rfl rfl rfl) (zl rfl rfl (fun w' hw'=>zG rfl rfl (by omega)) (zl rfl rfl (fun w' hw'=>zc qY rfl) (zl rfl rfl (fun w' hw'=>zc qY rfl) (zl rfl rfl (fun w' hw'=>zc qY rfl) ?_))))))
     obtain ⟨h16,H⟩:=H
     refine zl rfl rfl (fun w' hw'=>zE rfl rfl h16) ?_
     obtain ⟨h17,H⟩:=H
     refine zl rfl rfl (fun w' hw'=>Yld.add rfl rfl h17) ?_
     obtain ⟨h18,H⟩:=H
     refine zl rfl rfl (fun w' hw'=>Yld.add rfl rfl h18) ?_
     obtain ⟨h19,H⟩:=H
     refine zl rfl rfl (fun w' hw'=>zK qY k51.rd rfl rfl rfl rfl h19.1 h19.2) (zl rfl rfl (fun w' hw'=>zN 0 qY (hw' rfl) rfl rfl (iltN h19 rfl)) (zl rfl rfl (fun w' hw'=>zu qY rfl rfl rfl rfl) (zl rfl rfl (fun w' hw'=>zG rfl rfl (by omega)) (zl rfl rfl (fun w' hw'=>zc qY rfl) (zl rfl rfl (fun w' hw'=>zc qY rfl) (zl rfl rfl (fun w' hw'=>zc qY rfl) (zl rfl rfl (fun w' hw'=>zc qY rfl) ?_)))))))
     obtain ⟨h20,H⟩:=H
     refine zl rfl rfl (fun w' hw'=>zE rfl rfl h20) ?_
     obtain ⟨h21,H⟩:=H
     refine zl rfl rfl (fun w' hw'=>Yld.add rfl rfl h21) ?_
     obtain ⟨h22,H⟩:=H
     refine zl rfl rfl (fun w' hw'=>Yld.add rfl rfl h22) ?_
     obtain ⟨h23,H⟩:=H
     refine zl rfl rfl (fun w' hw'=>zK qY k51.rd rfl rfl rfl rfl h23.1 h23.2) (zl rfl rfl (fun w' hw'=>zN 0 qY (hw' rfl) rfl rfl (iltN h23 rfl)) (zl rfl rfl (fun w' hw'=>zu qY rfl rfl rfl rfl) (zl rfl rfl (fun w' hw'=>zG rfl rfl (by omega)) (zl rfl rfl (fun w' hw'=>zc qY rfl) (zl rfl rfl (fun w' hw'=>zc qY rfl) (zl rfl rfl (fun w' hw'=>zc qY rfl) (zl rfl rfl (fun w' hw'=>zc qY rfl) ?_)))))))
     obtain ⟨h24,H⟩:=H
     refine zl rfl rfl (fun w' hw'=>zE rfl rfl h24) ?_
     obtain ⟨h25,H⟩:=H
     refine zl rfl rfl (fun w' hw'=>Yld.add rfl rfl h25) ?_
     obtain ⟨h26,H⟩:=H
     refine zl rfl rfl (fun w' hw'=>Yld.add rfl rfl h26) ?_
     obtain ⟨h27,H⟩:=H
     refine zl rfl rfl (fun w' hw'=>zK qY k51.rd rfl rfl rfl rfl h27.1 h27.2) (zl rfl rfl (fun w' hw'=>zN 0 qY (hw' rfl) rfl rfl (iltN h27 rfl)) (zl rfl rfl (fun w' hw'=>zu qY rfl rfl rfl rfl) (zl rfl rfl (fun w' hw'=>zc qY rfl) ?_)))
     obtain ⟨h28,H⟩:=H
     refine zl rfl rfl (fun w' hw'=>zK qY k52.rd rfl rfl a8 rfl h28.1 h28.2) (qh rfl (Ef0.ostore (v:=bits .or .u32 (bits .or .u32 (bits .or .u32 (shlV .u32 ((m2.getD ((at_+((4:Int)*i2)).toNat) 0).toNat:Int) 24) (shlV .u32 ((m2.getD (((at_+((4:Int)*i2))+(1:Int)).toNat) 0).toNat:Int) 16)) (shlV .u32 ((m2.getD (((at_+((4:Int)*i2))+(2:Int)).toNat) 0).toNat:Int) 8)) ((m2.getD (((at_+((4:Int)*i2))+(3:Int)).toNat) 0).toNat:Int)) one115 One.u k52 rfl rfl (iltN h28 a8)) (fun w' h=>DD.keep (Rd.go k51.rd (jg h.2 (Eqv.refl _)) (Dn.of (Dj.new k43.lt' (Ge.box hl7))))) ?_)
     rintro w17 ⟨hO11,hg13⟩
     refine z8 (zi (za (zb (yp (h:=?_)))))
     obtain ⟨h29,H⟩:=H
     exact zg rfl (Yld.add rfl rfl h29) (yp (h:=(zf (zS _ ⟨i2+(1:Int),w_.set i2.toNat (bits .or .u32 (bits .or .u32 (bits .or .u32 (shlV .u32 ((m2.getD ((at_+((4:Int)*i2)).toNat) 0).toNat:Int) 24) (shlV .u32 ((m2.getD (((at_+((4:Int)*i2))+(1:Int)).toNat) 0).toNat:Int) 16)) (shlV .u32 ((m2.getD (((at_+((4:Int)*i2))+(2:Int)).toNat) 0).toNat:Int) 8)) ((m2.getD (((at_+((4:Int)*i2))+(3:Int)).toNat) 0).toNat:Int)),rfl,rfl,H.1,(a8.trans List.length_set.symm),(jk gr16 hg13 k52.ge'),(k48.go hg13 (Dj.new k40.lt' (Ge.box hl7))),(k49.go hg13 (Dj.new k41.lt' (Ge.box hl7))),(k50.go hg13 (Dj.new k42.lt' (Ge.box hl7))),(k51.go hg13 (Dj.new k43.lt' (Ge.box hl7))),hO11⟩ sb H.2))))
    ·replace H:=H.2 (of_decide_eq_false b4)
     refine zD (zj (zj (zm (za (zd (zd (zb (yp (h:=(zf (za (WC.block ?_))))))))))))
     obtain ⟨I5,mu5,d3,HR5⟩:=H
     refine zW (fun n' L' w'=>∃ (i3:Int),∃ (w_2:List Int),n'=mu5 i3 w_2/\L'=[(2,.pointer (some ⟨g1,0,none⟩)),(3,.slice A_k k.length c_k),(4,.slice (some ⟨g2,0,none⟩) 8 8),(5,.slice a1 m2.length a4),(8,.int .i64 at_),(9,.slice (some ⟨g7,0,none⟩) 64 64),(11,.int .i64 i3)]/\I5 i3 w_2/\64=w_2.length/\w.grownBy w' none/\Bl w' g1 44 (a32 (List.replicate 32 0:List UInt8))/\Own vu w' w.heap.size 115 A_k c_k k/\Own vu w' w.heap.size 115 (some ⟨g2,0,none⟩) 8 h/\Own vb w' w.heap.size 5 a1 a4 m2/\Own vu w' w.heap.size 115 (some ⟨g7,0,none⟩) 64 w_2) _ _ ⟨(16:Int),w_,rfl,rfl,d3,a8,gr16,k48,k49,k50,k51,k52⟩ sb ?_
     clear d3
     rintro _ _ w18 ⟨i3,w_2,rfl,rfl,hI5,a0,gr18,k57,k58,k59,k60,k61⟩
     have H:=HR5 i3 w_2 hI5
     replace H:=H a0
     refine zd (zd (zb (yp (h:=(yp (h:=(zf (za (zp rfl (fun b5=>?_) (fun b5=>?_))))))))))
     ·replace H:=H.1 (of_decide_eq_true b5)
      refine zo (za (zd (WC.block (zd (zO (fun k => !(Nat.beq k 5 || Nat.beq k 11)) (LD [4,10,17] (fun w'=>Rd vu w' (some ⟨g7,0,none⟩) 64 w_2)) mixed (by kernel_rfl) (fun k w' h _=>(kW h k61.rd)) (zl rfl rfl (fun w' hw'=>zc qY rfl) (zl rfl rfl (fun w' hw'=>zc qY rfl) ?_)))))))
      obtain ⟨h30,H⟩:=H
      refine zl rfl rfl (fun w' hw'=>Yld.sub rfl rfl h30) ?_
      obtain ⟨h31,H⟩:=H
      refine zl rfl rfl (fun w' hw'=>zK qY k61.rd rfl rfl a0 rfl h31.1 h31.2) (zl rfl rfl (fun w' hw'=>zN 0 qY (hw' rfl) rfl rfl (iltN h31 a0)) (WJ.call rfl (je) rfl rfl (jy H) (fun v w' h w2 e=>DD.keep (kW (eqvL h.1 e) k61.rd)) ?_))
      rintro _ _ ⟨rfl,t124,rfl,H⟩
      refine zl rfl rfl (fun w' hw'=>zc qY rfl) (zl rfl rfl (fun w' hw'=>zc qY rfl) ?_)
      obtain ⟨h32,H⟩:=H
      refine zl rfl rfl (fun w' hw'=>Yld.sub rfl rfl h32) ?_
      obtain ⟨h33,H⟩:=H
      refine zl rfl rfl (fun w' hw'=>zK qY k61.rd rfl rfl a0 rfl h33.1 h33.2) (zl rfl rfl (fun w' hw'=>zN 0 qY (hw' rfl) rfl rfl (iltN h33 a0)) (WJ.call rfl (je) rfl rfl (jy H) (fun v w' h w2 e=>DD.keep (kW (eqvL h.1 e) k61.rd)) ?_))
      rintro _ _ ⟨rfl,t130,rfl,H⟩
      refine zl rfl rfl (fun w' hw'=>zc qY rfl) (zl rfl rfl (fun w' hw'=>zc qY rfl) (zl rfl rfl (fun w' hw'=>zc qY rfl) ?_))
      obtain ⟨h34,H⟩:=H
      refine zl rfl rfl (fun w' hw'=>Yld.sub rfl rfl h34) ?_
      obtain ⟨h35,H⟩:=H
      refine zl rfl rfl (fun w' hw'=>zK qY k61.rd rfl rfl a0 rfl h35.1 h35.2) (zl rfl rfl (fun w' hw'=>zN 0 qY (hw' rfl) rfl rfl (iltN h35 a0)) (zl rfl rfl (fun w' hw'=>zA rfl rfl (by omega)) (zl rfl rfl (fun w' hw'=>zc qY rfl) (zl rfl rfl (fun w' hw'=>zc qY rfl) (z8 (za (zd (zO (fun k => !(Nat.beq k 5 || Nat.beq k 11)) (LD [4,10,17] (fun w'=>Rd vu w' (some ⟨g7,0,none⟩) 64 w_2)) mixed (by kernel_rfl) (fun k w' h _=>(kW h k61.rd)) (zl rfl rfl (fun w' hw'=>zc qY rfl) (zl rfl rfl (fun w' hw'=>zc qY rfl) ?_))))))))))
      obtain ⟨h36,H⟩:=H
      refine zl rfl rfl (fun w' hw'=>Yld.sub rfl rfl h36) ?_
      obtain ⟨h37,H⟩:=H
      refine zl rfl rfl (fun w' hw'=>zK qY k61.rd rfl rfl a0 rfl h37.1 h37.2) (zl rfl rfl (fun w' hw'=>zN 0 qY (hw' rfl) rfl rfl (iltN h37 a0)) (WJ.call rfl (je) rfl rfl (jy H) (fun v w' h w2 e=>DD.keep (kW (eqvL h.1 e) k61.rd)) ?_))
      rintro _ _ ⟨rfl,t144,rfl,H⟩
      refine zl rfl rfl (fun w' hw'=>zc qY rfl) (zl rfl rfl (fun w' hw'=>zc qY rfl) ?_)
      obtain ⟨h38,H⟩:=H
      refine zl rfl rfl (fun w' hw'=>Yld.sub rfl rfl h38) ?_
      obtain ⟨h39,H⟩:=H
      refine zl rfl rfl (fun w' hw'=>zK qY k61.rd rfl rfl a0 rfl h39.1 h39.2) (zl rfl rfl (fun w' hw'=>zN 0 qY (hw' rfl) rfl rfl (iltN h39 a0)) (WJ.call rfl (je) rfl rfl (jy H) (fun v w' h w2 e=>DD.keep (kW (eqvL h.1 e) k61.rd)) ?_))
      rintro _ _ ⟨rfl,t150,rfl,H⟩
      refine zl rfl rfl (fun w' hw'=>zc qY rfl) (zl rfl rfl (fun w' hw'=>zc qY rfl) (zl rfl rfl (fun w' hw'=>zc qY rfl) ?_))
      obtain ⟨h40,H⟩:=H
      refine zl rfl rfl (fun w' hw'=>Yld.sub rfl rfl h40) ?_
      obtain ⟨h41,H⟩:=H
      refine zl rfl rfl (fun w' hw'=>zK qY k61.rd rfl rfl a0 rfl h41.1 h41.2) (zl rfl rfl (fun w' hw'=>zN 0 qY (hw' rfl) rfl rfl (iltN h41 a0)) (zl rfl rfl (fun w' hw'=>zA rfl rfl (by omega)) (zl rfl rfl (fun w' hw'=>zc qY rfl) (zl rfl rfl (fun w' hw'=>zc qY rfl) (z8 (za (zO (fun k => !(Nat.beq k 18)) (LD [6,13] (fun w'=>Rd vu w' (some ⟨g7,0,none⟩) 64 w_2)) mixed (by kernel_rfl) (fun k w' h _=>(kW h k61.rd)) (zl rfl rfl (fun w' hw'=>zc qY rfl) (zl rfl rfl (fun w' hw'=>zc qY rfl) (zl rfl rfl (fun w' hw'=>zc qY rfl) (zl rfl rfl (fun w' hw'=>zc qY rfl) ?_)))))))))))
      obtain ⟨h42,H⟩:=H
      refine zl rfl rfl (fun w' hw'=>Yld.sub rfl rfl h42) ?_
      obtain ⟨h43,H⟩:=H
      refine zl rfl rfl (fun w' hw'=>zK qY k61.rd rfl rfl a0 rfl h43.1 h43.2) (zl rfl rfl (fun w' hw'=>zN 0 qY (hw' rfl) rfl rfl (iltN h43 a0)) (zl rfl rfl (fun w' hw'=>zc qY rfl) (zl rfl rfl (fun w' hw'=>zc qY rfl) (zl rfl rfl (fun w' hw'=>zc qY rfl) (zl rfl rfl (fun w' hw'=>zc qY rfl) ?_)))))
      obtain ⟨h44,H⟩:=H
      refine zl rfl rfl (fun w' hw'=>Yld.sub rfl rfl h44) ?_
      obtain ⟨h45,H⟩:=H
      refine zl rfl rfl (fun w' hw'=>zK qY k61.rd rfl rfl a0 rfl h45.1 h45.2) (zl rfl rfl (fun w' hw'=>zN 0 qY (hw' rfl) rfl rfl (iltN h45 a0)) (zl rfl rfl (fun w' hw'=>zc qY rfl) (zl rfl rfl (fun w' hw'=>zc qY rfl) (zl rfl rfl (fun w' hw'=>zc qY rfl) ?_))))
      obtain ⟨h46,H⟩:=H
      refine zl rfl rfl (fun w' hw'=>zK qY k61.rd rfl rfl a0 rfl h46.1 h46.2) (qh rfl (Ef0.ostore (v:=IntKind.wrap .u32 ((IntKind.wrap .u32 ((IntKind.wrap .u32 ((w_2.getD ((i3 - (16:Int)).toNat) 0)+(bits .xor .u32 (bits .xor .u32 t124 t130) (shrV .u32 (w_2.getD ((i3 - (15:Int)).toNat) 0) 3))))+(w_2.getD ((i3 - (7:Int)).toNat) 0)))+(bits .xor .u32 (bits .xor .u32 t144 t150) (shrV .u32 (w_2.getD ((i3 - (2:Int)).toNat) 0) 10)))) one115 One.u k61 rfl rfl (iltN h46 a0)) (fun w' h=>qf (by kernel_rfl)) ?_)
      rintro w19 ⟨hO12,hg14⟩
      refine z8 (zi (za (zb (yp (h:=?_)))))
      obtain ⟨h47,H⟩:=H
      exact zg rfl (Yld.add rfl rfl h47) (yp (h:=(zf (zS _ ⟨i3+(1:Int),w_2.set i3.toNat (IntKind.wrap .u32 ((IntKind.wrap .u32 ((IntKind.wrap .u32 ((w_2.getD ((i3 - (16:Int)).toNat) 0)+(bits .xor .u32 (bits .xor .u32 t124 t130) (shrV .u32 (w_2.getD ((i3 - (15:Int)).toNat) 0) 3))))+(w_2.getD ((i3 - (7:Int)).toNat) 0)))+(bits .xor .u32 (bits .xor .u32 t144 t150) (shrV .u32 (w_2.getD ((i3 - (2:Int)).toNat) 0) 10)))),rfl,rfl,H.1,(a0.trans List.length_set.symm),(jk gr18 hg14 k61.ge'),(k57.go hg14 (Dj.new k40.lt' (Ge.box hl7))),(k58.go hg14 (Dj.new k41.lt' (Ge.box hl7))),(k59.go hg14 (Dj.new k42.lt' (Ge.box hl7))),(k60.go hg14 (Dj.new k43.lt' (Ge.box hl7))),hO12⟩ sb H.2))))
     ·replace H:=H.2 (of_decide_eq_false b5)
      refine zD (zj (zj (zm (za (zd (zb ?_))))))
      obtain ⟨h48,H⟩:=H
      refine WL.makeCI (f:=vu) (B:=w.heap.size) qY rfl rfl rfl rfl h48.1 h48.2.1 h48.2.2 (qZ gr18) (fun g8 w20 hO13 hg15 hl8=>?_)
      have gr20:=ja gr18 hg15
      have k66:=k57.g0 hg15
      have k67:=k58.grown hg15
      have k68:=k59.grown hg15
      have k69:=k60.grown hg15
      have k70:=k61.grown hg15
      refine yp (h:=?_)
      obtain ⟨h49,H⟩:=H
      refine qp qY rfl rfl One.u hO13 rfl rfl k68.rd rfl c1 h49 (kF h49) (qZ gr20) (fun A_v c_v w21 hO14 hg16 hk5=>yp (h:=(zf (za (zd (zd (zb (yp (h:=(zf (za (WC.block ?_))))))))))))
      obtain ⟨I6,mu6,d4,HR6⟩:=H
      refine zW (fun n' L' w'=>∃ (v_:List Int),∃ (a3:Option Addr),∃ (a6:Nat),∃ (n_v:Nat),∃ (i4:Int),n'=mu6 v_ i4/\L'=[(2,.pointer (some ⟨g1,0,none⟩)),(3,.slice A_k k.length c_k),(4,.slice (some ⟨g2,0,none⟩) 8 8),(5,.slice a1 m2.length a4),(8,.int .i64 at_),(9,.slice (some ⟨g7,0,none⟩) 64 64),(14,.slice a3 n_v a6),(15,.int .i64 i4)]/\I6 v_ i4/\n_v=v_.length/\w.grownBy w' none/\Bl w' g1 44 (a32 (List.replicate 32 0:List UInt8))/\Own vu w' w.heap.size 115 A_k c_k k/\Own vu w' w.heap.size 115 (some ⟨g2,0,none⟩) 8 h/\Own vb w' w.heap.size 5 a1 a4 m2/\Own vu w' w.heap.size 115 (some ⟨g7,0,none⟩) 64 w_2/\Own vu w' w.heap.size 115 a3 a6 v_/\Dj (some g1) (blk a3)/\Dj (blk A_k) (blk a3)/\Dj (blk (some ⟨g2,0,none⟩)) (blk a3)/\Dj (blk a1) (blk a3)/\Dj (blk (some ⟨g7,0,none⟩)) (blk a3)) _ _ ⟨([]:List Int)++h,A_v,c_v,(([]:List Int)++h).length,(0:Int),rfl,rfl,d4,rfl,(jk gr20 hg16 hO13.ge'),(k66.go hg16 (Dj.new k57.lt' (Ge.box hl8))),(k67.go hg16 (Dj.new k58.lt' (Ge.box hl8))),(k68.go hg16 (Dj.new k59.lt' (Ge.box hl8))),(k69.go hg16 (Dj.new k60.lt' (Ge.box hl8))),(k70.go hg16 (Dj.new k61.lt' (Ge.box hl8))),hO14,(Dj.app (Dj.new k57.lt' (Ge.box hl8)).symm k66.lt' hk5).symm,(Dj.app (Dj.new k58.lt' (Ge.box hl8)).symm k67.lt' hk5).symm,(Dj.app (Dj.new k59.lt' (Ge.box hl8)).symm k68.lt' hk5).symm,(Dj.app (Dj.new k60.lt' (Ge.box hl8)).symm k69.lt' hk5).symm,(Dj.app (Dj.new k61.lt' (Ge.box hl8)).symm k70.lt' hk5).symm⟩ sb ?_
      clear d4
      rintro _ _ w22 ⟨v_,a3,a6,n_v,i4,rfl,rfl,hI6,rfl,gr22,k76,k77,k78,k79,k80,k81,dj7,dj8,dj9,dj10,dj11⟩
      have H:=HR6 v_ i4 hI6
      refine zd (zd (zb (yp (h:=(yp (h:=(zf (za (zp rfl (fun b6=>?_) (fun b6=>?_))))))))))
      ·replace H:=H.1 (of_decide_eq_true b6)
       refine zo (za (zd (WC.block (zd (zO (fun k => !(Nat.beq k 3 || Nat.beq k 7 || Nat.beq k 12)) (LD [2,6,11] (fun w'=>Rd vu w' a3 a6 v_)) mixed (by kernel_rfl) (fun k w' h _=>(kW h k81.rd)) (zl rfl rfl (fun w' hw'=>zc qY rfl) ?_))))))
       obtain ⟨h50,H⟩:=H
       refine zl rfl rfl (fun w' hw'=>zK qY k81.rd rfl rfl rfl rfl h50.1 h50.2) (zl rfl rfl (fun w' hw'=>zN 0 qY (hw' rfl) rfl rfl (iltN h50 rfl)) (WJ.call rfl (je) rfl rfl (jy H) (fun v w' h w2 e=>DD.keep (kW (eqvL h.1 e) k81.rd)) ?_))
       rintro _ _ ⟨rfl,t187,rfl,H⟩
       refine zl rfl rfl (fun w' hw'=>zc qY rfl) ?_
       obtain ⟨h51,H⟩:=H
       refine zl rfl rfl (fun w' hw'=>zK qY k81.rd rfl rfl rfl rfl h51.1 h51.2) (zl rfl rfl (fun w' hw'=>zN 0 qY (hw' rfl) rfl rfl (iltN h51 rfl)) (WJ.call rfl (je) rfl rfl (jy H) (fun v w' h w2 e=>DD.keep (kW (eqvL h.1 e) k81.rd)) ?_))
       rintro _ _ ⟨rfl,t191,rfl,H⟩
       refine zl rfl rfl (fun w' hw'=>zc qY rfl) (zl rfl rfl (fun w' hw'=>zc qY rfl) ?_)
       obtain ⟨h52,H⟩:=H
       refine zl rfl rfl (fun w' hw'=>zK qY k81.rd rfl rfl rfl rfl h52.1 h52.2) (zl rfl rfl (fun w' hw'=>zN 0 qY (hw' rfl) rfl rfl (iltN h52 rfl)) (WJ.call rfl (je) rfl rfl (jy H) (fun v w' h w2 e=>DD.keep (kW (eqvL h.1 e) k81.rd)) ?_))
       rintro _ _ ⟨rfl,t196,rfl,H⟩
       refine zl rfl rfl (fun w' hw'=>zc qY rfl) (zl rfl rfl (fun w' hw'=>zc qY rfl) (z8 (za (zd (qK mixed (by kernel_rfl) (z7 rfl (zc qY rfl) ?_))))))
       obtain ⟨h53,H⟩:=H
       refine z7 rfl (zK qY k81.rd rfl rfl rfl rfl h53.1 h53.2) (z7 rfl (zN 0 qY k81.rd rfl rfl (iltN h53 rfl)) (z7 rfl (zc qY rfl) ?_))
       obtain ⟨h54,H⟩:=H
       refine z7 rfl (zK qY k81.rd rfl rfl rfl rfl h54.1 h54.2) (z7 rfl (zN 0 qY k81.rd rfl rfl (iltN h54 rfl)) (z7 rfl (zc qY rfl) (z7 rfl (zc qY rfl) ?_)))
       obtain ⟨h55,H⟩:=H
       refine z7 rfl (zK qY k81.rd rfl rfl rfl rfl h55.1 h55.2) (z7 rfl (zN 0 qY k81.rd rfl rfl (iltN h55 rfl)) (z7 rfl (zc qY rfl) (z7 rfl (zc qY rfl) ?_)))
       obtain ⟨h56,H⟩:=H
       refine z7 rfl (zK qY k81.rd rfl rfl rfl rfl h56.1 h56.2) (z7 rfl (zN 0 qY k81.rd rfl rfl (iltN h56 rfl)) (z7 rfl (zc qY rfl) (z7 rfl (zc qY rfl) (z7 rfl (zc qY rfl) (qU (za (zd (qK mixed (by kernel_rfl) (z7 rfl (zc qY rfl) ?_)))))))))
       obtain ⟨h57,H⟩:=H
       refine z7 rfl (zK qY k81.rd rfl rfl rfl rfl h57.1 h57.2) (z7 rfl (zN 0 qY k81.rd rfl rfl (iltN h57 rfl)) (z7 rfl (zc qY rfl) (z7 rfl (zc qY rfl) (z7 rfl (zc qY rfl) (z7 rfl (zc qY rfl) (z7 rfl (zc qY rfl) (z7 rfl (zc qY rfl) ?_)))))))
       obtain ⟨h58,H⟩:=H
       refine z7 rfl (zK qY k77.rd rfl rfl rfl rfl h58.1 h58.2) (z7 rfl (zN 0 qY k77.rd rfl rfl (iltN h58 rfl)) (z7 rfl (zc qY rfl) (z7 rfl (zc qY rfl) (z7 rfl (zc qY rfl) ?_))))
       obtain ⟨h59,H⟩:=H
       refine z7 rfl (zK qY k80.rd rfl rfl a0 rfl h59.1 h59.2) (z7 rfl (zN 0 qY k80.rd rfl rfl (iltN h59 a0)) (z7 rfl (zc qY rfl) (z7 rfl (zc qY rfl) (qU (za (zd (zO (fun k => !(Nat.beq k 3 || Nat.beq k 7 || Nat.beq k 12)) (LD [2,6,11] (fun w'=>Rd vu w' a3 a6 v_)) mixed (by kernel_rfl) (fun k w' h _=>(kW h k81.rd)) (zl rfl rfl (fun w' hw'=>zc qY rfl) ?_))))))))
       obtain ⟨h60,H⟩:=H
       refine zl rfl rfl (fun w' hw'=>zK qY k81.rd rfl rfl rfl rfl h60.1 h60.2) (zl rfl rfl (fun w' hw'=>zN 0 qY (hw' rfl) rfl rfl (iltN h60 rfl)) (WJ.call rfl (je) rfl rfl (jy H) (fun v w' h w2 e=>DD.keep (kW (eqvL h.1 e) k81.rd)) ?_))
       rintro _ _ ⟨rfl,t234,rfl,H⟩
       refine zl rfl rfl (fun w' hw'=>zc qY rfl) ?_
       obtain ⟨h61,H⟩:=H
       refine zl rfl rfl (fun w' hw'=>zK qY k81.rd rfl rfl rfl rfl h61.1 h61.2) (zl rfl rfl (fun w' hw'=>zN 0 qY (hw' rfl) rfl rfl (iltN h61 rfl)) (WJ.call rfl (je) rfl rfl (jy H) (fun v w' h w2 e=>DD.keep (kW (eqvL h.1 e) k81.rd)) ?_))
       rintro _ _ ⟨rfl,t238,rfl,H⟩
       refine zl rfl rfl (fun w' hw'=>zc qY rfl) (zl rfl rfl (fun w' hw'=>zc qY rfl) ?_)
       obtain ⟨h62,H⟩:=H
       refine zl rfl rfl (fun w' hw'=>zK qY k81.rd rfl rfl rfl rfl h62.1 h62.2) (zl rfl rfl (fun w' hw'=>zN 0 qY (hw' rfl) rfl rfl (iltN h62 rfl)) (WJ.call rfl (je) rfl rfl (jy H) (fun v w' h w2 e=>DD.keep (kW (eqvL h.1 e) k81.rd)) ?_))
       rintro _ _ ⟨rfl,t243,rfl,H⟩
       refine zl rfl rfl (fun w' hw'=>zc qY rfl) (zl rfl rfl (fun w' hw'=>zc qY rfl) (z8 (za (zd (qK mixed (by kernel_rfl) (z7 rfl (zc qY rfl) ?_))))))
       obtain ⟨h63,H⟩:=H
       refine z7 rfl (zK qY k81.rd rfl rfl rfl rfl h63.1 h63.2) (z7 rfl (zN 0 qY k81.rd rfl rfl (iltN h63 rfl)) (z7 rfl (zc qY rfl) ?_))
       obtain ⟨h64,H⟩:=H
       refine z7 rfl (zK qY k81.rd rfl rfl rfl rfl h64.1 h64.2) (z7 rfl (zN 0 qY k81.rd rfl rfl (iltN h64 rfl)) (z7 rfl (zc qY rfl) (z7 rfl (zc qY rfl) ?_)))
       obtain ⟨h65,H⟩:=H
       refine z7 rfl (zK qY k81.rd rfl rfl rfl rfl h65.1 h65.2) (z7 rfl (zN 0 qY k81.rd rfl rfl (iltN h65 rfl)) (z7 rfl (zc qY rfl) ?_))
       obtain ⟨h66,H⟩:=H
       refine z7 rfl (zK qY k81.rd rfl rfl rfl rfl h66.1 h66.2) (z7 rfl (zN 0 qY k81.rd rfl rfl (iltN h66 rfl)) (z7 rfl (zc qY rfl) (z7 rfl (zc qY rfl) (z7 rfl (zc qY rfl) ?_))))
       obtain ⟨h67,H⟩:=H
       refine z7 rfl (zK qY k81.rd rfl rfl rfl rfl h67.1 h67.2) (z7 rfl (zN 0 qY k81.rd rfl rfl (iltN h67 rfl)) (z7 rfl (zc qY rfl) ?_))
       obtain ⟨h68,H⟩:=H
       refine z7 rfl (zK qY k81.rd rfl rfl rfl rfl h68.1 h68.2) (z7 rfl (zN 0 qY k81.rd rfl rfl (iltN h68 rfl)) (z7 rfl (zc qY rfl) (z7 rfl (zc qY rfl) (z7 rfl (zc qY rfl) (qU (za (zO (fun k => !(Nat.beq k 28)) (LD [7,10,13,16,21,24,27] (fun w'=>Rd vu w' a3 a6 v_)) mixed (by kernel_rfl) (fun k w' h _=>(kW h k81.rd)) (zl rfl rfl (fun w' hw'=>zc qY rfl) (zl rfl rfl (fun w' hw'=>zc qY rfl) (zl rfl rfl (fun w' hw'=>zc qY rfl) (zl rfl rfl (fun w' hw'=>zc qY rfl) (zl rfl rfl (fun w' hw'=>zc qY rfl) (zl rfl rfl (fun w' hw'=>zc qY rfl) ?_)))))))))))))
       obtain ⟨h69,H⟩:=H
       refine zl rfl rfl (fun w' hw'=>zK qY k81.rd rfl rfl rfl rfl h69.1 h69.2) (zl rfl rfl (fun w' hw'=>zN 0 qY (hw' rfl) rfl rfl (iltN h69 rfl)) (zl rfl rfl (fun w' hw'=>zc qY rfl) ?_))
       obtain ⟨h70,H⟩:=H
       refine zl rfl rfl (fun w' hw'=>zK qY k81.rd rfl rfl rfl rfl h70.1 h70.2) (zl rfl rfl (fun w' hw'=>zN 0 qY (hw' rfl) rfl rfl (iltN h70 rfl)) (zl rfl rfl (fun w' hw'=>zc qY rfl) ?_))
       obtain ⟨h71,H⟩:=H
       refine zl rfl rfl (fun w' hw'=>zK qY k81.rd rfl rfl rfl rfl h71.1 h71.2) (zl rfl rfl (fun w' hw'=>zN 0 qY (hw' rfl) rfl rfl (iltN h71 rfl)) (zl rfl rfl (fun w' hw'=>zc qY rfl) ?_))
       obtain ⟨h72,H⟩:=H
       refine zl rfl rfl (fun w' hw'=>zK qY k81.rd rfl rfl rfl rfl h72.1 h72.2) (zl rfl rfl (fun w' hw'=>zN 0 qY (hw' rfl) rfl rfl (iltN h72 rfl)) (zl rfl rfl (fun w' hw'=>zc qY rfl) (zl rfl rfl (fun w' hw'=>zc qY rfl) (zl rfl rfl (fun w' hw'=>zc qY rfl) ?_))))
       obtain ⟨h73,H⟩:=H
       refine zl rfl rfl (fun w' hw'=>zK qY k81.rd rfl rfl rfl rfl h73.1 h73.2) (zl rfl rfl (fun w' hw'=>zN 0 qY (hw' rfl) rfl rfl (iltN h73 rfl)) (zl rfl rfl (fun w' hw'=>zc qY rfl) ?_))
       obtain ⟨h74,H⟩:=H
       refine zl rfl rfl (fun w' hw'=>zK qY k81.rd rfl rfl rfl rfl h74.1 h74.2) (zl rfl rfl (fun w' hw'=>zN 0 qY (hw' rfl) rfl rfl (iltN h74 rfl)) (zl rfl rfl (fun w' hw'=>zc qY rfl) ?_))
       obtain ⟨h75,H⟩:=H
       refine zl rfl rfl (fun w' hw'=>zK qY k81.rd rfl rfl rfl rfl h75.1 h75.2) (zl rfl rfl (fun w' hw'=>zN 0 qY (hw' rfl) rfl rfl (iltN h75 rfl)) (qr rfl (je) rfl (Eff.lit qY rfl rfl (jd rfl (jd rfl (jd rfl (jd rfl (jd rfl (jd rfl (jd rfl (jd rfl kg)))))))) rfl (by omega)) (fun v w' ⟨_,_,h⟩=>DD.keep (Rd.grown k81.rd (jg h (Eqv.refl _)))) ?_))
       rintro _ w23 ⟨rfl,hB6,hg17⟩
       obtain ⟨c9,hl9⟩:∃ g,g=w22.heap.size:=⟨_,rfl⟩
       rw [<-hl9] at hB6
       rw [<-hl9]
       have hO15:Own vu w23 w.heap.size 115 (some ⟨c9,0,none⟩) 8 ([IntKind.wrap .u32 ((IntKind.wrap .u32 ((IntKind.wrap .u32 ((IntKind.wrap .u32 ((IntKind.wrap .u32 ((IntKind.wrap .u32 ((v_.getD 7 0)+(bits .xor .u32 (bits .xor .u32 t187 t191) t196)))+(bits .xor .u32 (bits .and .u32 (v_.getD 4 0) (v_.getD 5 0)) (bits .and .u32 (bits .xor .u32 (if IntKind.signed .u32 then -1 else IntKind.max .u32) (v_.getD 4 0)) (v_.getD 6 0)))))+(k.getD i4.toNat 0)))+(w_2.getD i4.toNat 0)))+(bits .xor .u32 (bits .xor .u32 t234 t238) t243)))+(bits .xor .u32 (bits .xor .u32 (bits .and .u32 (v_.getD 0 0) (v_.getD 1 0)) (bits .and .u32 (v_.getD 0 0) (v_.getD 2 0))) (bits .and .u32 (v_.getD 1 0) (v_.getD 2 0)))),v_.getD 0 0,v_.getD 1 0,v_.getD 2 0,IntKind.wrap .u32 ((v_.getD 3 0)+(IntKind.wrap .u32 ((IntKind.wrap .u32 ((IntKind.wrap .u32 ((IntKind.wrap .u32 ((v_.getD 7 0)+(bits .xor .u32 (bits .xor .u32 t187 t191) t196)))+(bits .xor .u32 (bits .and .u32 (v_.getD 4 0) (v_.getD 5 0)) (bits .and .u32 (bits .xor .u32 (if IntKind.signed .u32 then -1 else IntKind.max .u32) (v_.getD 4 0)) (v_.getD 6 0)))))+(k.getD i4.toNat 0)))+(w_2.getD i4.toNat 0)))),v_.getD 4 0,v_.getD 5 0,v_.getD 6 0]:List Int):=Own.ofBl hB6 (Nat.le_trans (qZ gr22) (Nat.le_of_eq hl9.symm)) (by simp [maxLen]) rfl
       have k87:=k81.grown hg17
       refine zl rfl rfl (fun w' hw'=>zc qY rfl) (z8 (zi (za (zb (yp (h:=?_))))))
       obtain ⟨h76,H⟩:=H
       refine zg rfl (Yld.add rfl rfl h76) (yp (h:=(zf ?_)))
       exact zS _ ⟨([IntKind.wrap .u32 ((IntKind.wrap .u32 ((IntKind.wrap .u32 ((IntKind.wrap .u32 ((IntKind.wrap .u32 ((IntKind.wrap .u32 ((v_.getD 7 0)+(bits .xor .u32 (bits .xor .u32 t187 t191) t196)))+(bits .xor .u32 (bits .and .u32 (v_.getD 4 0) (v_.getD 5 0)) (bits .and .u32 (bits .xor .u32 (if IntKind.signed .u32 then -1 else IntKind.max .u32) (v_.getD 4 0)) (v_.getD 6 0)))))+(k.getD i4.toNat 0)))+(w_2.getD i4.toNat 0)))+(bits .xor .u32 (bits .xor .u32 t234 t238) t243)))+(bits .xor .u32 (bits .xor .u32 (bits .and .u32 (v_.getD 0 0) (v_.getD 1 0)) (bits .and .u32 (v_.getD 0 0) (v_.getD 2 0))) (bits .and .u32 (v_.getD 1 0) (v_.getD 2 0)))),v_.getD 0 0,v_.getD 1 0,v_.getD 2 0,IntKind.wrap .u32 ((v_.getD 3 0)+(IntKind.wrap .u32 ((IntKind.wrap .u32 ((IntKind.wrap .u32 ((IntKind.wrap .u32 ((v_.getD 7 0)+(bits .xor .u32 (bits .xor .u32 t187 t191) t196)))+(bits .xor .u32 (bits .and .u32 (v_.getD 4 0) (v_.getD 5 0)) (bits .and .u32 (bits .xor .u32 (if IntKind.signed .u32 then -1 else IntKind.max .u32) (v_.getD 4 0)) (v_.getD 6 0)))))+(k.getD i4.toNat 0)))+(w_2.getD i4.toNat 0)))),v_.getD 4 0,v_.getD 5 0,v_.getD 6 0]:List Int),(some ⟨c9,0,none⟩),8,8,i4+(1:Int),rfl,rfl,H.1,rfl,(ja gr22 hg17),(k76.g0 hg17),(k77.grown hg17),(k78.grown hg17),(k79.grown hg17),(k80.grown hg17),hO15,(Dj.new k76.lt' (Ge.box (Nat.le_of_eq hl9.symm))),(Dj.new k77.lt' (Ge.box (Nat.le_of_eq hl9.symm))),(Dj.new k78.lt' (Ge.box (Nat.le_of_eq hl9.symm))),(Dj.new k79.lt' (Ge.box (Nat.le_of_eq hl9.symm))),(Dj.new k80.lt' (Ge.box (Nat.le_of_eq hl9.symm)))⟩ sb H.2
      ·replace H:=H.2 (of_decide_eq_false b6)
       refine zD (zj (zj (zm (za (zd (zb (yp (h:=(zf (za (WC.block ?_)))))))))))
       obtain ⟨I7,mu7,d5,HR7⟩:=H
       refine zW (fun n' L' w'=>∃ (i5:Int),∃ (h_2:List Int),n'=mu7 i5 h_2/\L'=[(2,.pointer (some ⟨g1,0,none⟩)),(3,.slice A_k k.length c_k),(4,.slice (some ⟨g2,0,none⟩) 8 8),(5,.slice a1 m2.length a4),(8,.int .i64 at_),(14,.slice a3 v_.length a6),(21,.int .i64 i5)]/\I7 i5 h_2/\8=h_2.length/\w.grownBy w' none/\Bl w' g1 44 (a32 (List.replicate 32 0:List UInt8))/\Own vu w' w.heap.size 115 A_k c_k k/\Own vu w' w.heap.size 115 (some ⟨g2,0,none⟩) 8 h_2/\Own vb w' w.heap.size 5 a1 a4 m2/\Own vu w' w.heap.size 115 a3 a6 v_) _ _ ⟨(0:Int),h,rfl,rfl,d5,c1,gr22,k76,k77,k78,k79,k81⟩ sb ?_
       clear d5
       rintro _ _ w24 ⟨i5,h_2,rfl,rfl,hI7,a2,gr24,k88,k89,k90,k91,k92⟩
       have H:=HR7 i5 h_2 hI7
       replace H:=H a2
       refine zd (zd (zb (yp (h:=(yp (h:=(zf (za (zp rfl (fun b7=>?_) (fun b7=>?_))))))))))
       ·replace H:=H.1 (of_decide_eq_true b7)
        refine zo (za (zd (WC.block (zO (fun k => !(Nat.beq k 12)) (LD [5,9] (fun w'=>Rd vu w' (some ⟨g2,0,none⟩) 8 h_2/\Rd vu w' a3 a6 v_)) mixed (by kernel_rfl) (fun k w' h _=>⟨(kW h k90.rd),(kW h k92.rd)⟩) (zl rfl rfl (fun w' hw'=>zc qY rfl) (zl rfl rfl (fun w' hw'=>zc qY rfl) (zl rfl rfl (fun w' hw'=>zc qY rfl) (zl rfl rfl (fun w' hw'=>zc qY rfl) ?_))))))))
        obtain ⟨h77,H⟩:=H
        refine zl rfl rfl (fun w' hw'=>zK qY k90.rd rfl rfl a2 rfl h77.1 h77.2) (zl rfl rfl (fun w' hw'=>zN 0 qY (hw' rfl).1 rfl rfl (iltN h77 a2)) (zl rfl rfl (fun w' hw'=>zc qY rfl) (zl rfl rfl (fun w' hw'=>zc qY rfl) ?_)))
        obtain ⟨h78,H⟩:=H
        refine zl rfl rfl (fun w' hw'=>zK qY k92.rd rfl rfl rfl rfl h78.1 h78.2) (zl rfl rfl (fun w' hw'=>zN 0 qY (hw' rfl).2 rfl rfl (iltN h78 rfl)) (zl rfl rfl (fun w' hw'=>zc qY rfl) ?_))
        obtain ⟨h79,H⟩:=H
        refine zl rfl rfl (fun w' hw'=>zK qY k90.rd rfl rfl a2 rfl h79.1 h79.2) (qh rfl (Ef0.ostore (v:=IntKind.wrap .u32 ((h_2.getD i5.toNat 0)+(v_.getD i5.toNat 0))) one115 One.u k90 rfl rfl (iltN h79 a2)) (fun w' h=>qf (by kernel_rfl)) ?_)
        rintro w25 ⟨hO16,hg18⟩
        refine z8 (zi (za (zb (yp (h:=?_)))))
        obtain ⟨h80,H⟩:=H
        exact zg rfl (Yld.add rfl rfl h80) (yp (h:=(zf (zS _ ⟨i5+(1:Int),h_2.set i5.toNat (IntKind.wrap .u32 ((h_2.getD i5.toNat 0)+(v_.getD i5.toNat 0))),rfl,rfl,H.1,(a2.trans List.length_set.symm),(jk gr24 hg18 k90.ge'),(k88.go hg18 (Dj.new k2.lt' (Ge.box hl2))),(k89.go hg18 (Dj.new k1.lt' (Ge.box hl2))),hO16,(k91.go hg18 dj6.symm),(k92.go hg18 dj9.symm)⟩ sb H.2))))
       ·replace H:=H.2 (of_decide_eq_false b7)
        refine zD (zj (zj (zm (zi (za (zb (yp (h:=?_))))))))
        obtain ⟨h81,H⟩:=H
        exact zg rfl (Yld.add rfl rfl h81) (yp (h:=(zf (zS _ ⟨at_+(64:Int),h_2,rfl,rfl,H.1,a2,gr24,k88,k89,k90,k91⟩ sb H.2))))
   ·replace H:=H.2 (of_decide_eq_false b3)
    refine zD (zj (zj (zm (za (zd (zb (WL.alloc rfl zero44 (fun g9 w26 hB7 hg19 hl10=>?_))))))))
    rw [kc] at hB7
    refine zf (za (zd (zd (zb (yp (h:=(zf (za (WC.block ?_)))))))))
    obtain ⟨I8,mu8,d6,HR8⟩:=H
    refine zW (fun n' L' w'=>∃ (i6:Int),∃ (out0:List UInt8),n'=mu8 i6 out0/\L'=[(2,.pointer (some ⟨g1,0,none⟩)),(4,.slice (some ⟨g2,0,none⟩) 8 8),(22,.pointer (some ⟨g9,0,none⟩)),(23,.int .i64 i6)]/\I8 i6 out0/\w.grownBy w' none/\Bl w' g1 44 (a32 (List.replicate 32 0:List UInt8))/\Own vu w' w.heap.size 115 (some ⟨g2,0,none⟩) 8 h/\Bl w' g9 44 (a32 out0)) _ _ ⟨(0:Int),(List.replicate 32 0:List UInt8),rfl,rfl,d6,(ja gr14 hg19),(k40.g0 hg19),(k42.grown hg19),hB7⟩ sb ?_
    clear d6
    rintro _ _ w27 ⟨i6,out0,rfl,rfl,hI8,gr27,k99,k100,k101⟩
    have H:=HR8 i6 out0 hI8
    refine zd (zd (zb (yp (h:=(yp (h:=(zf (za (zp rfl (fun b8=>?_) (fun b8=>?_))))))))))
    ·replace H:=H.1 (of_decide_eq_true b8)
     refine zo (za (zd (WC.block (zd (zb (yp (h:=(zf (za (WC.block ?_))))))))))
     obtain ⟨I9,mu9,d7,HR9⟩:=H
     refine zW (fun n' L' w'=>∃ (j:Int),∃ (out02:List UInt8),n'=mu9 j out02/\L'=[(2,.pointer (some ⟨g1,0,none⟩)),(4,.slice (some ⟨g2,0,none⟩) 8 8),(22,.pointer (some ⟨g9,0,none⟩)),(23,.int .i64 i6),(24,.int .i64 j)]/\I9 j out02/\w.grownBy w' none/\Bl w' g1 44 (a32 (List.replicate 32 0:List UInt8))/\Own vu w' w.heap.size 115 (some ⟨g2,0,none⟩) 8 h/\Bl w' g9 44 (a32 out02)) _ _ ⟨(0:Int),out0,rfl,rfl,d7,gr27,k99,k100,k101⟩ sb ?_
     clear d7
     rintro _ _ w28 ⟨j,out02,rfl,rfl,hI9,gr28,k102,k103,k104⟩
     have H:=HR9 j out02 hI9
     refine zd (zd (zb (yp (h:=(yp (h:=(zf (za (zp rfl (fun b9=>?_) (fun b9=>?_))))))))))
     ·replace H:=H.1 (of_decide_eq_true b9)
      refine zo (za (zd (WC.block (zb (yp (h:=?_))))))
      obtain ⟨h82,H⟩:=H
      refine zg rfl (zE rfl rfl h82) (yp (h:=?_))
      obtain ⟨h83,H⟩:=H
      refine zg rfl (Yld.add rfl rfl h83) (yp (h:=(yp (h:=?_))))
      obtain ⟨h84,H⟩:=H
      refine zg rfl (zK qY k103.rd rfl rfl c1 rfl h84.1 h84.2) (zg rfl (zN 0 qY k103.rd rfl rfl (iltN h84 c1)) (yp (h:=?_)))
      obtain ⟨h85,H⟩:=H
      refine zg rfl (zE rfl rfl h85) ?_
      obtain ⟨h86,H⟩:=H
      refine zg rfl (Yld.sub rfl rfl h86) (yp (h:=?_))
      obtain ⟨h87,H⟩:=H
      refine zg rfl (zA rfl rfl h87) (yp (h:=?_))
      obtain ⟨h88,H⟩:=H
      refine zg rfl (qi qY rfl rfl rfl h88.1 h88.2) ?_
      obtain ⟨h89,H⟩:=H
      obtain ⟨h90,H⟩:=H
      refine zR (u:=vb (UInt8.ofNat (IntKind.wrap .u8 (shrV .u32 (h.getD i6.toNat 0) (IntKind.wrap .u64 ((24:Int) - ((8:Int)*j))).toNat)).toNat)) one5 rfl (byte_eq h89) rfl k104 (a32_lt (lt32 h88)) (fun w29 hB8 hg20=>?_)
      have hB9:Bl w29 g9 44 (a32 (out02.set ((((4:Int)*i6)+j).toNat) (UInt8.ofNat (IntKind.wrap .u8 (shrV .u32 (h.getD i6.toNat 0) (IntKind.wrap .u64 ((24:Int) - ((8:Int)*j))).toNat)).toNat))):=a32_setO h90 ▸ hB8
      refine zf (zi (za (zb (yp (h:=?_)))))
      obtain ⟨h91,H⟩:=H
      exact zg rfl (Yld.add rfl rfl h91) (yp (h:=(zf (zS _ ⟨j+(1:Int),out02.set ((((4:Int)*i6)+j).toNat) (UInt8.ofNat (IntKind.wrap .u8 (shrV .u32 (h.getD i6.toNat 0) (IntKind.wrap .u64 ((24:Int) - ((8:Int)*j))).toNat)).toNat),rfl,rfl,H.1,(jk gr28 hg20 (Ge.le (Ge.box hl10) (qZ gr14))),(k102.go hg20 (Dj.new k40.lt' (Ge.box hl10))),(k103.go hg20 (Dj.new k42.lt' (Ge.box hl10))),hB9⟩ sb H.2))))
     ·replace H:=H.2 (of_decide_eq_false b9)
      refine zD (zj (zj (zm (zi (za (zb (yp (h:=?_))))))))
      obtain ⟨h92,H⟩:=H
      exact zg rfl (Yld.add rfl rfl h92) (yp (h:=(zf (zS _ ⟨i6+(1:Int),out02,rfl,rfl,H.1,gr28,k102,k103,k104⟩ sb H.2))))
    ·replace H:=H.2 (of_decide_eq_false b8)
     exact zD (zj (zj (zm (za (zd (zb (zg rfl (zQ (vs:=(a32 out0)) qY k101 rfl rfl rfl rfl) (zP (vs:=(a32 out0)) qY rfl rfl rfl (jq _) k99 rfl rfl (fun w30 hB10 hg21=>zf (za (zq (qv qY rfl rfl rfl hB10 rfl ⟨(jk gr27 hg21 (Ge.le (Ge.box hl1) (Nat.le_refl _))),out0,rfl,H⟩))))))))))))
set_option maxHeartbeats 8000000 in
theorem W_smithyref1_Many {w:World} {l:List (List UInt8)} {A_l:Option Addr} {c_l:Nat} {n_l:Nat} {K:(List UInt8)->Prop} (hl:Rd vs w A_l c_l l) (e2:n_l=l.length) (H:Zl l K):Fn Tryz.prog 81 ⟨[.slice A_l n_l c_l]⟩ w (fun v w'=>w.grownBy w' none/\∃ (r:List UInt8),v=.agg ⟨a32 r⟩/\K r):=by
 subst e2
 unfold Zl at H
 refine Fn.enter (by kernel_rfl) Tryz.func81 rfl Tryz.ntmps81 rfl ?_
 replace H:=H (Nat.le_trans hl.cap hl.max)
 refine zd (zb (WL.alloc rfl zero44 (fun g1 w1 hB1 hg1 hl1=>?_)))
 rw [kc] at hB1
 refine zf (za (zd (zb (yp (h:=(zf (za (zd (zd (zb (yp (h:=(zf (za (WC.block ?_)))))))))))))))
 obtain ⟨I1,mu1,a7,HR1⟩:=H
 refine zW (fun n' L' w'=>∃ (m:List UInt8),∃ (A_m:Option Addr),∃ (c_m:Nat),∃ (n_m:Nat),∃ (i:Int),n'=mu1 m i/\L'=[(0,.slice A_l l.length c_l),(2,.pointer (some ⟨g1,0,none⟩)),(3,.slice A_m n_m c_m),(4,.int .i64 i)]/\I1 m i/\n_m=m.length/\w.grownBy w' none/\Bl w' g1 44 (a32 (List.replicate 32 0:List UInt8))/\Own vb w' w.heap.size 5 A_m c_m m/\Dj (some g1) (blk A_m)) _ _ ⟨[],none,0,0,(0:Int),rfl,rfl,a7,rfl,hg1,hB1,(Own.nil vb w1 w.heap.size 5),Dj.nr⟩ sb ?_
 clear a7
 rintro _ _ w2 ⟨m,A_m,c_m,n_m,i,rfl,rfl,hI1,rfl,gr2,k1,k2,dj1⟩
 have H:=HR1 m i hI1
 refine zd (zd (zb (yp (h:=(yp (h:=(yp (h:=(yp (h:=(zf (za (zp rfl (fun b1=>?_) (fun b1=>?_))))))))))))))
 ·replace H:=H.1 (of_decide_eq_true b1)
  refine zo (za (zd (WC.block (zd (zb (yp (h:=(yp (h:=?_)))))))))
  obtain ⟨h1,H⟩:=H
  refine zg rfl (zK qY (hl.grown gr2) rfl rfl rfl rfl h1.1 h1.2) (zg rfl (zN [] qY (hl.grown gr2) rfl rfl (iltN h1 rfl)) (yp (h:=(yp (h:=(zf (za (zd (zb (yp (h:=(yp (h:=(zg rfl (zA rfl rfl (by omega)) (yp (h:=(yp (h:=(zg rfl (zA rfl rfl (by omega)) (yp (h:=(yp (h:=(zg rfl (zA rfl rfl (by omega)) (yp (h:=(yp (h:=(yp (h:=?_))))))))))))))))))))))))))))))
  obtain ⟨h2,H⟩:=H
  obtain ⟨h3,H⟩:=H
  obtain ⟨h4,H⟩:=H
  obtain ⟨h5,H⟩:=H
  refine qD qY rfl rfl rfl (jd rfl (jd rfl (jd rfl (jd rfl kg)))) rfl (by omega) (fun g2 w3 hB2 hg2 hl2=>?_)
  replace hB2:Bl w3 g2 5 (([UInt8.ofNat (IntKind.wrap .u8 (shrV .i64 ((l.getD i.toNat []).length:Int) 24)).toNat,UInt8.ofNat (IntKind.wrap .u8 (shrV .i64 ((l.getD i.toNat []).length:Int) 16)).toNat,UInt8.ofNat (IntKind.wrap .u8 (shrV .i64 ((l.getD i.toNat []).length:Int) 8)).toNat,UInt8.ofNat (IntKind.wrap .u8 ((l.getD i.toNat []).length:Int)).toNat]:List UInt8).map vb):=Bl.cast (lcons (byte_eq' h2) (lcons (byte_eq' h3) (lcons (byte_eq' h4) (lcons (byte_eq' h5) lnil)))) hB2
  have hO1:Own vb w3 w.heap.size 5 (some ⟨g2,0,none⟩) 4 ([UInt8.ofNat (IntKind.wrap .u8 (shrV .i64 ((l.getD i.toNat []).length:Int) 24)).toNat,UInt8.ofNat (IntKind.wrap .u8 (shrV .i64 ((l.getD i.toNat []).length:Int) 16)).toNat,UInt8.ofNat (IntKind.wrap .u8 (shrV .i64 ((l.getD i.toNat []).length:Int) 8)).toNat,UInt8.ofNat (IntKind.wrap .u8 ((l.getD i.toNat []).length:Int)).toNat]:List UInt8):=Own.ofBl hB2 (Nat.le_trans (qZ gr2) hl2) (by simp [maxLen]) rfl
  have gr3:=ja gr2 hg2
  have k3:=k1.g0 hg2
  have k4:=k2.grown hg2
  obtain ⟨h6,H⟩:=H
  refine qp qY rfl rfl One.b k4 rfl rfl hO1.rd rfl rfl h6 (kF h6) (qZ gr3) (fun c6 c7 w4 hO2 hg3 hk1=>?_)
  have gr4:=jk gr3 hg3 k4.ge'
  have k5:=k3.go hg3 dj1
  refine yp (h:=(zf (za (zb (yp (h:=(yp (h:=(yp (h:=?_))))))))))
  obtain ⟨h7,H⟩:=H
  refine zg rfl (zK qY (hl.grown gr4) rfl rfl rfl rfl h7.1 h7.2) (zg rfl (zN [] qY (hl.grown gr4) rfl rfl (iltN h7 rfl)) ?_)
  obtain ⟨h8,H⟩:=H
  refine WL.appendS qY rfl rfl rfl hO2 rfl rfl rfl h8 (kF h8) (qZ gr4) (fun a5 b0 w5 hO3 hg4 hk2=>yp (h:=(zf (zi (za (zb (yp (h:=?_))))))))
  obtain ⟨h9,H⟩:=H
  exact zg rfl (Yld.add rfl rfl h9) (yp (h:=(zf (zS _ ⟨(m++([UInt8.ofNat (IntKind.wrap .u8 (shrV .i64 ((l.getD i.toNat []).length:Int) 24)).toNat,UInt8.ofNat (IntKind.wrap .u8 (shrV .i64 ((l.getD i.toNat []).length:Int) 16)).toNat,UInt8.ofNat (IntKind.wrap .u8 (shrV .i64 ((l.getD i.toNat []).length:Int) 8)).toNat,UInt8.ofNat (IntKind.wrap .u8 ((l.getD i.toNat []).length:Int)).toNat]:List UInt8))++(l.getD i.toNat []),a5,b0,((m++([UInt8.ofNat (IntKind.wrap .u8 (shrV .i64 ((l.getD i.toNat []).length:Int) 24)).toNat,UInt8.ofNat (IntKind.wrap .u8 (shrV .i64 ((l.getD i.toNat []).length:Int) 16)).toNat,UInt8.ofNat (IntKind.wrap .u8 (shrV .i64 ((l.getD i.toNat []).length:Int) 8)).toNat,UInt8.ofNat (IntKind.wrap .u8 ((l.getD i.toNat []).length:Int)).toNat]:List UInt8))++(l.getD i.toNat [])).length,i+(1:Int),rfl,rfl,H.1,rfl,(jk gr4 hg4 hO2.ge'),(k5.go hg4 ((Dj.app dj1.symm k3.lt' hk1).symm)),hO3,(Dj.app (Dj.app dj1.symm k3.lt' hk1) k5.lt' hk2).symm⟩ sb H.2))))
 ·replace H:=H.2 (of_decide_eq_false b1)
  refine zD (zj (zj (zm (za (zd (zb (yp (h:=(zg rfl (Yld.b2s qY k2.rd rfl rfl rfl rfl rfl) (WL.call rfl rfl (Zt H) ?_))))))))))
  rintro _ w6 ⟨hg5,t39,rfl,H⟩
  exact zP (vs:=(a32 t39)) qY rfl rfl rfl (jq _) (k1.g0 hg5) rfl rfl (fun w7 hB3 hg6=>zf (za (zq (qv qY rfl rfl rfl hB3 rfl ⟨(jk (ja gr2 hg5) hg6 (Ge.le (Ge.box hl1) (Nat.le_refl _))),t39,rfl,H⟩))))
set_option maxHeartbeats 8000000 in
theorem j7 {w:World} {s:List UInt8} {K:(List UInt8)->Prop} (H:jF s K):Fn Tryz.prog 55 ⟨[.agg ⟨a32 s⟩]⟩ w (fun v w'=>w.grownBy w' none/\∃ (r:List UInt8),v=vs r/\K r):=by
 unfold jF at H
 refine Fn.enter (by kernel_rfl) Tryz.func55 rfl Tryz.ntmps55 rfl ?_
 refine zd (zb (qm (us:=(a32 s)) rfl rfl rfl (fun g1 w1 hB1 hg1 hl1=>?_)))
 have gr1:=hg1
 refine yp (h:=(zf (za (zd (zb (yp (h:=(zf (za (zd (zb ?_)))))))))))
 obtain ⟨h1,H⟩:=H
 refine WL.makeCI (f:=vb) (B:=w.heap.size) qY rfl rfl rfl rfl h1.1 h1.2.1 h1.2.2 (qZ gr1) (fun g2 w2 hO1 hg2 hl2=>yp (h:=(zf (za (zd (zd (zb (yp (h:=(zf (za (WC.block ?_))))))))))))
 obtain ⟨I1,mu1,a7,HR1⟩:=H
 refine zW (fun n' L' w'=>∃ (out:List UInt8),∃ (a9:Option Addr),∃ (c0:Nat),∃ (c2:Nat),∃ (i:Int),n'=mu1 out i/\L'=[(1,.pointer (some ⟨g1,0,none⟩)),(3,vs ([48,49,50,51,52,53,54,55,56,57,97,98,99,100,101,102]:List UInt8)),(4,.slice a9 c2 c0),(5,.int .i64 i)]/\I1 out i/\c2=out.length/\w.grownBy w' none/\Bl w' g1 44 (a32 s)/\Own vb w' w.heap.size 5 a9 c0 out/\Dj (some g1) (blk a9)) _ _ ⟨([]:List UInt8),(some ⟨g2,0,none⟩),64,0,(0:Int),rfl,rfl,a7,rfl,(ja gr1 hg2),(hB1.g0 hg2),hO1,(Dj.new hB1.lt' (Ge.box hl2))⟩ sb ?_
 clear a7
 rintro _ _ w3 ⟨out,a9,c0,c2,i,rfl,rfl,hI1,rfl,gr3,k2,k3,dj1⟩
 have H:=HR1 out i hI1
 refine zd (zd (zb (yp (h:=(yp (h:=(zf (za (zp rfl (fun b1=>?_) (fun b1=>?_))))))))))
 ·replace H:=H.1 (of_decide_eq_true b1)
  refine zo (za (zd (WC.block (zO (fun k => !(Nat.beq k 13 || Nat.beq k 14)) (LD [4,10] (fun w'=>Bl w' g1 44 (a32 s))) mixed (by kernel_rfl) (fun k w' h _=>(ji h k2)) (zl rfl rfl (fun w' hw'=>zc qY rfl) (zl rfl rfl (fun w' hw'=>zc qY rfl) (zl rfl rfl (fun w' hw'=>zc qY rfl) ?_)))))))
  obtain ⟨h2,H⟩:=H
  refine zl rfl rfl (fun w' hw'=>qi qY rfl rfl rfl h2.1 h2.2) (zl rfl rfl (fun w' hw'=>zk qY (hw' rfl) rfl rfl (a32_getO _ _ (lt32 h2))) (zl rfl rfl (fun w' hw'=>zA rfl rfl (by omega)) ?_))
  obtain ⟨h3,H⟩:=H
  refine zl rfl rfl (fun w' hw'=>qF qY rfl rfl rfl h3.1 h3.2) (zl rfl rfl (fun w' hw'=>zc qY rfl) (zl rfl rfl (fun w' hw'=>zc qY rfl) ?_))
  obtain ⟨h4,H⟩:=H
  refine zl rfl rfl (fun w' hw'=>qi qY rfl rfl rfl h4.1 h4.2) (zl rfl rfl (fun w' hw'=>zk qY (hw' rfl) rfl rfl (a32_getO _ _ (lt32 h4))) (zl rfl rfl (fun w' hw'=>zc qY rfl) ?_))
  obtain ⟨h5,H⟩:=H
  refine zl rfl rfl (fun w' hw'=>qF qY rfl rfl rfl h5.1 h5.2) (qr rfl (je) rfl (Eff.lit qY rfl rfl (jd rfl (jd rfl kg)) rfl (by omega)) (fun v w' ⟨_,_,h⟩=>DD.keep (Bl.g0 k2 (jg h (Eqv.refl _)))) ?_)
  rintro _ w4 ⟨rfl,hB2,hg3⟩
  obtain ⟨c8,hl3⟩:∃ g,g=w3.heap.size:=⟨_,rfl⟩
  rw [<-hl3] at hB2
  rw [<-hl3]
  have hO2:Own vb w4 w.heap.size 5 (some ⟨c8,0,none⟩) 2 ([([48,49,50,51,52,53,54,55,56,57,97,98,99,100,101,102]:List UInt8).getD (shrV .u8 ((s.getD i.toNat 0).toNat:Int) 4).toNat 0,([48,49,50,51,52,53,54,55,56,57,97,98,99,100,101,102]:List UInt8).getD (bits .and .u8 ((s.getD i.toNat 0).toNat:Int) (15:Int)).toNat 0]:List UInt8):=Own.ofBl hB2 (Nat.le_trans (qZ gr3) (Nat.le_of_eq hl3.symm)) (by simp [maxLen]) rfl
  have gr4:=ja gr3 hg3
  have k4:=k2.g0 hg3
  have k5:=k3.grown hg3
  obtain ⟨h6,H⟩:=H
  refine qr rfl (je) rfl (Eff.append qY rfl One.b k5 rfl rfl hO2.rd rfl rfl h6 (kF h6) (qZ gr4)) (fun v w' ⟨_,_,_,_,h,_⟩=>DD.keep (Bl.go k4 (jg h (Eqv.refl _)) dj1)) ?_
  rintro _ w5 ⟨c3,c4,rfl,hO3,hg4,hk1⟩
  refine zl rfl rfl (fun w' hw'=>zc qY rfl) (z8 (zi (za (zb (yp (h:=?_))))))
  obtain ⟨h7,H⟩:=H
  exact zg rfl (Yld.add rfl rfl h7) (yp (h:=(zf (zS _ ⟨out++([([48,49,50,51,52,53,54,55,56,57,97,98,99,100,101,102]:List UInt8).getD (shrV .u8 ((s.getD i.toNat 0).toNat:Int) 4).toNat 0,([48,49,50,51,52,53,54,55,56,57,97,98,99,100,101,102]:List UInt8).getD (bits .and .u8 ((s.getD i.toNat 0).toNat:Int) (15:Int)).toNat 0]:List UInt8),c3,c4,(out++([([48,49,50,51,52,53,54,55,56,57,97,98,99,100,101,102]:List UInt8).getD (shrV .u8 ((s.getD i.toNat 0).toNat:Int) 4).toNat 0,([48,49,50,51,52,53,54,55,56,57,97,98,99,100,101,102]:List UInt8).getD (bits .and .u8 ((s.getD i.toNat 0).toNat:Int) (15:Int)).toNat 0]:List UInt8)).length,i+(1:Int),rfl,rfl,H.1,rfl,(jk gr4 hg4 k5.ge'),(k4.go hg4 dj1),hO3,(Dj.app dj1.symm k4.lt' hk1).symm⟩ sb H.2))))
 ·replace H:=H.2 (of_decide_eq_false b1)
  exact zD (zj (zj (zm (za (zd (zb (yp (h:=(zg rfl (Yld.b2s qY k3.rd rfl rfl rfl rfl rfl) (yp (h:=(zf (za (zq (zw rfl rfl ⟨gr3,out,rfl,H⟩)))))))))))))))
set_option maxHeartbeats 8000000 in
theorem jN {w:World} {a:List UInt8} {b:List UInt8} {K:Bool->Prop} (H:jl a b K):Fn Tryz.prog 19 ⟨[.agg ⟨a32 a⟩,.agg ⟨a32 b⟩]⟩ w (fun v w'=>w.grownBy w' none/\∃ (r:Bool),v=.bool r/\K r):=by
 unfold jl at H
 refine Fn.enter (by kernel_rfl) Tryz.func19 rfl Tryz.ntmps19 rfl ?_
 refine zd (zb (qm (us:=(a32 a)) rfl rfl rfl (fun g1 w1 hB1 hg1 hl1=>qm (us:=(a32 b)) rfl rfl rfl (fun g2 w2 hB2 hg2 hl2=>?_))))
 have k1:=hB1.g0 hg2
 refine yp (h:=(zf (za (zd (zO (fun k => !(Nat.beq k 1 || Nat.beq k 3)) (LD [0,2] (fun w'=>Bl w' g1 44 (a32 a)/\Bl w' g2 44 (a32 b))) mixed (by kernel_rfl) (fun k w' h _=>⟨(ji h k1),(ji h hB2)⟩) (zl rfl rfl (fun w' hw'=>zQ (vs:=(a32 a)) qY (hw' rfl).1 rfl rfl rfl rfl) (WJ.call rfl (je) rfl rfl (j7 H) (fun v w' h w2 e=>DD.keep (⟨(Bl.g0 k1 (jg h.1 e)),(Bl.g0 hB2 (jg h.1 e))⟩)) ?_)))))))
 rintro _ w3 ⟨hg3,t6,rfl,H⟩
 have k2:=k1.g0 hg3
 have k3:=hB2.g0 hg3
 refine zl rfl rfl (fun w' hw'=>zQ (vs:=(a32 b)) qY (hw' rfl).2 rfl rfl rfl rfl) (WJ.call rfl (je) rfl rfl (j7 H) (fun v w' h w2 e=>DD.keep (⟨(Bl.g0 k2 (jg h.1 e)),(Bl.g0 k3 (jg h.1 e))⟩)) ?_)
 rintro _ w4 ⟨hg4,t8,rfl,H⟩
 have k4:=k2.g0 hg4
 have k5:=k3.g0 hg4
 exact zl rfl rfl (fun w' hw'=>zc qY rfl) (zl rfl rfl (fun w' hw'=>zc qY rfl) (z8 (za (zq (zw rfl rfl ⟨(ja (ja (ja hg1 hg2) hg3) hg4),decide (t6=t8),rfl,H⟩)))))
end
 
section
open Go Go.RowKit
theorem Yld.arreq {P:Program} {N:Nat} {L:jj} {w:World} {ty:TypeId} {pos:String} {af:Array Edge} {dd:Option Tmp} {t t' e:TypeId} {x y:Operand} {xs ys:List UInt8} (ht:P.underlying t=some (.array 32 e)) (he:P.underlying e=some (.int .u8)) (hsz:∀ w,(sizeOf e).run P w=.ok 1 w) (hg:P.eqGuardType P.depth t=false)
  (hx:opv L x=some (.agg ⟨a32 xs⟩)) (hy:opv L y=some (.agg ⟨a32 ys⟩)) (h1:xs.length=32) (h2:ys.length=32):Yld P N w ⟨dd,.binOp .eql t x y t',ty,pos,af,none⟩ L (.bool (decide (xs=ys))):=fun a w1 _ ha=>by
 refine kz (ha.ev hx) (ha.ev hy) (run_eqGuard_agg w1 .eql t x y _ _ hg) ?_
 have h:=run_eql_bytes w1 t e 32 ht he hsz xs ys h1 h2
 have ex:((xs.map Extern.Stop.cell).toArray:Array Value)=⟨a32 xs⟩:=by rw [a32_map xs h1]; rfl
 have ey:((ys.map Extern.Stop.cell).toArray:Array Value)=⟨a32 ys⟩:=by rw [a32_map ys h2]; rfl
 rw [ex,ey] at h
 rw [h]
 congr 2
 rw [Bool.eq_iff_iff]
 simp
theorem RdK.take {α:Type} {k:Nat} {f:α->List Value} {w:World} {A:Option Addr} {c:Nat} {xs:List α} (h:RdK k f w A c xs) (m:Nat):RdK k f w A c (xs.take m) :=
 ⟨h.ok,by have:=h.cap; simp; omega,h.max,fun hx=>by
  obtain ⟨g,o,e,hc⟩:=h.cells (fun e=>hx (by rw [e]; simp))
  refine ⟨g,o,e,fun j x i u hj hi=>hc j x i u ?_ hi⟩
  rw [List.getElem?_take] at hj
  split at hj
  ·exact hj
  ·cases hj⟩
theorem Yld.ocutYK {P:Program} {T:Tab} {N:Nat} {L:jj} {w w0:World} {ty:TypeId} {pos:String} {af:Array Edge} {dd:Option Tmp} {t e:TypeId} {x:Operand} {α:Type} {k:Nat} {f:α->List Value} {A:Option Addr} {c n:Nat} {xs:List α} {lo hi:Option Operand} {h:Int} (hT:T.Ok P) (hR:RdK k f w0 A c xs) (hs:nk T.sl t=some (e,k)) (hx:opv L x=some (.slice A n c)) (hn:n=xs.length) (hl:optv L lo 0=some 0) (hh:optv L hi n=some h) (h1:0<=h) (h2:h<=n) :
  Yld P N w ⟨dd,.slice t x lo hi none,ty,pos,af,none⟩ L (.slice A (xs.take h.toNat).length c):=fun a w1 _ ha=>by
 obtain ⟨hu,j,hj,hj1⟩:=hT.sl hs
 have hb:=run_bounds (P:=P) (len:=n) (cap:=c) (isS:=true) ha hl hh (by omega) h1 (by have:=hR.cap; omega) w1
 have hA:A.map (·.add 0)=A:=by
  cases A with
  | none=>rfl
  | some a=>simp [Addr.add]
 have hlen:(xs.take h.toNat).length=h.toNat:=by simp; omega
 rw [hlen]
 unfold execOp
 simp [ha.ev hx,Instr.sliceAt,run_underlying hu,Instr.slice,hb,sizeOf,typeInfo,hj,hj1,hA]
def vA (x:List UInt8):Value:=.agg ⟨a32 x⟩
def okA (x:List UInt8):Prop:=x.length=32
theorem mapM_isSome {α β:Type} {f:α->Option β}:∀ (l:List α),(∀ x∈l,(f x).isSome=true)->∃ r,l.mapM f=some r
 | [],_=>⟨[],rfl⟩
 | x :: l,h=>by
  obtain ⟨r,hr⟩:=mapM_isSome l fun y hy=>h y (List.mem_cons_of_mem _ hy)
  obtain ⟨y,hy⟩:=Option.isSome_iff_exists.1 (h x List.mem_cons_self)
  exact ⟨y :: r,by rw [List.mapM_cons,hy,hr]; rfl⟩
theorem keyFA {P:Program} {k e:TypeId} (A:Go.WideMaps.ArrKey P k e 32) (he:P.underlying e=some (.int .u8)) (hs:∃ m,P.types.size=m+1):KeyF P k vA okA:=by
 refine KeyF.of (Go.Maps.Keyed.of_law A.law) (fun x hx=>?_) fun x y hx hy h=>a32_inj hx hy (by unfold vA at h; injection h with h; injection h)
 ·
  have hk:=A.keyType hs
  obtain ⟨m,hm⟩:=hs
  have hf:(vA x).formed P k=true:=by
   unfold vA Value.formed
   simp [A.hu,A.size,a32_len]
  obtain ⟨r,hr⟩:=mapM_isSome (f:=fun i=>P.keyLits (m+1) e (((a32 x).drop (i*P.cellsOf e)).take (P.cellsOf e))) (List.range 32) fun i hi=>by
   have hi:=List.mem_range.1 hi
   have e1:((a32 x).drop (i*P.cellsOf e)).take (P.cellsOf e)=[vb (x.getD i 0)]:=by
    rw [A.one,Nat.mul_one,List.drop_eq_getElem_cons (by rw [a32_len]; exact hi)]
    have:=a32_get x i hi
    rw [List.getElem?_eq_getElem (by rw [a32_len]; exact hi),Option.some.injEq] at this
    rw [this]; rfl
   rw [e1]
   generalize x.getD i 0=c
   have hb:=c.toNat_lt
   unfold Program.keyLits vb
   rw [he]
   have hw:(Lit.int .u8 (c.toNat:Int)).wf=true:=by
    simp [Lit.wf,IntKind.min,IntKind.max,IntKind.signed,IntKind.bits]
    omega
   simp [hw]
  refine ⟨.string (keyBytes r.flatten),?_⟩
  unfold keyOf
  rw [A.hu]
  show (if (P.keyType k && (vA x).formed P k)=true then _ else _)=_
  rw [hk,hf,hm]
  have hc:(vA x).cells.toList=a32 x:=rfl
  rw [hc]
  unfold Program.keyLits
  rw [A.hu]
  simp only [a32_len,A.size,Bool.and_self,if_true]
  rw [hr]
  rfl
theorem keyF_a:KeyF Tryz.prog 45 vA okA:=keyFA ⟨Tryz.underlying45,by kernel_rfl,by kernel_rfl,by kernel_rfl⟩ Tryz.underlying5 ⟨_,rfl⟩
end
 end Go.Proofs.YtafpeckmdjplnaaGreatDoor
