/- Texts of this claim, joined by a program: NumF, Li, Dfr, GLr, GLy, Lr. -/
import Derived.Test.YtjoepdjeekadcaaGreatDoorJ4
import Derived.Defers
namespace Go.Proofs.YtjoepdjeekadcaaGreatDoor

section
open Go Go.RowKit
attribute [local irreducible] WL WC WX WQ WK Yld Eff Ef0 Fn
theorem addF_fn (va vb_:Value) (x y:Int) (m:Nat) (w:World) (ha:Nm w va x m) (hb:Nm w vb_ y m) (hm:m<=900000):Fn Tryz.prog 109 ⟨[va,vb_]⟩ w fun r w'=>Nm w' r (x+y) (m+1)/\w.grownBy w' none/\Lies r (fun q=>w.heap.size<=q/\q<w'.heap.size):=by
 obtain ⟨na,A,c,la,rfl,hA,hDa,hCa,hla,hna,rfl⟩:=ha
 obtain ⟨nb,B,cb,lb,rfl,hB,hDb,hCb,hlb,hnb,rfl⟩:=hb
 refine Fn.enter (by kernel_rfl) Tryz.func109 rfl Tryz.ntmps109 rfl ?_
 repeat (first | refine zg ?_ | refine WC.block ?_ | refine zc ?_ | refine zh ?_ | refine za ?_ | refine zt ?_ | refine zy ?_ | refine zx ?_ | refine zm ?_ | refine zi ?_ | refine zf ?_ | refine zn ?_ | refine zk ?_ | refine zl rfl ?_ | refine zv ?_ | refine zw ?_ | refine zj ?_ | refine zp ?_ | refine zo ?_ | refine zd rfl (Yld.add rfl rfl (by simp only [In]; omega)) ?_ | refine zd rfl (Yld.sub rfl rfl (by simp only [In]; omega)) ?_ | refine zd rfl (zC rfl rfl (by simp only [In]; omega)) ?_ | refine zd rfl (zr qH rfl rfl rfl rfl) ?_ | refine zd rfl (zu qH rfl rfl rfl (by simp only [In]; omega)) ?_ | refine zd rfl (zz rfl rfl (by omega) (by omega) (by simp only [In]; omega)) ?_ | refine zd rfl (zA rfl rfl (by omega) (by omega)) ?_ | refine zd rfl (zI rfl rfl (by omega)) ?_ | refine zd rfl (zG rfl rfl (by omega)) ?_ | refine zd rfl (ze qH rfl) ?_ | refine zd rfl (zF qJ rfl rfl rfl) ?_ | refine zd rfl (zD rfl rfl) ?_ | refine zd rfl (zB rfl rfl) ?_ | refine zd rfl (zq rfl rfl rfl) ?_ | refine zJ rfl rfl rfl rfl ?_ | refine zb rfl rfl rfl rfl (Yld.add rfl rfl (by simp only [In]; omega)) ?_ | refine zb rfl rfl rfl rfl (Yld.sub rfl rfl (by simp only [In]; omega)) ?_ | refine zb rfl rfl rfl rfl (zC rfl rfl (by simp only [In]; omega)) ?_ | refine zb rfl rfl rfl rfl (zr qH rfl rfl rfl rfl) ?_ | refine zb rfl rfl rfl rfl (zu qH rfl rfl rfl (by simp only [In]; omega)) ?_ | refine zb rfl rfl rfl rfl (zz rfl rfl (by omega) (by omega) (by simp only [In]; omega)) ?_ | refine zb rfl rfl rfl rfl (zA rfl rfl (by omega) (by omega)) ?_ | refine zb rfl rfl rfl rfl (zI rfl rfl (by omega)) ?_ | refine zb rfl rfl rfl rfl (zG rfl rfl (by omega)) ?_ | refine zb rfl rfl rfl rfl (ze qH rfl) ?_ | refine zb rfl rfl rfl rfl (zF qJ rfl rfl rfl) ?_ | refine zb rfl rfl rfl rfl (zD rfl rfl) ?_ | refine zb rfl rfl rfl rfl (zB rfl rfl) ?_ | refine zb rfl rfl rfl rfl (zq rfl rfl rfl) ?_)
 refine z4 (us:=[.bool na,.slice A la.length c]) rfl rfl rfl (fun g1 w1 hB1 hg1 hl1=>?_)
 repeat (first | refine zg ?_ | refine WC.block ?_ | refine zc ?_ | refine zh ?_ | refine za ?_ | refine zt ?_ | refine zy ?_ | refine zx ?_ | refine zm ?_ | refine zi ?_ | refine zf ?_ | refine zn ?_ | refine zk ?_ | refine zl rfl ?_ | refine zv ?_ | refine zw ?_ | refine zj ?_ | refine zp ?_ | refine zo ?_ | refine zd rfl (Yld.add rfl rfl (by simp only [In]; omega)) ?_ | refine zd rfl (Yld.sub rfl rfl (by simp only [In]; omega)) ?_ | refine zd rfl (zC rfl rfl (by simp only [In]; omega)) ?_ | refine zd rfl (zr qH rfl rfl rfl rfl) ?_ | refine zd rfl (zu qH rfl rfl rfl (by simp only [In]; omega)) ?_ | refine zd rfl (zz rfl rfl (by omega) (by omega) (by simp only [In]; omega)) ?_ | refine zd rfl (zA rfl rfl (by omega) (by omega)) ?_ | refine zd rfl (zI rfl rfl (by omega)) ?_ | refine zd rfl (zG rfl rfl (by omega)) ?_ | refine zd rfl (ze qH rfl) ?_ | refine zd rfl (zF qJ rfl rfl rfl) ?_ | refine zd rfl (zD rfl rfl) ?_ | refine zd rfl (zB rfl rfl) ?_ | refine zd rfl (zq rfl rfl rfl) ?_ | refine zJ rfl rfl rfl rfl ?_ | refine zb rfl rfl rfl rfl (Yld.add rfl rfl (by simp only [In]; omega)) ?_ | refine zb rfl rfl rfl rfl (Yld.sub rfl rfl (by simp only [In]; omega)) ?_ | refine zb rfl rfl rfl rfl (zC rfl rfl (by simp only [In]; omega)) ?_ | refine zb rfl rfl rfl rfl (zr qH rfl rfl rfl rfl) ?_ | refine zb rfl rfl rfl rfl (zu qH rfl rfl rfl (by simp only [In]; omega)) ?_ | refine zb rfl rfl rfl rfl (zz rfl rfl (by omega) (by omega) (by simp only [In]; omega)) ?_ | refine zb rfl rfl rfl rfl (zA rfl rfl (by omega) (by omega)) ?_ | refine zb rfl rfl rfl rfl (zI rfl rfl (by omega)) ?_ | refine zb rfl rfl rfl rfl (zG rfl rfl (by omega)) ?_ | refine zb rfl rfl rfl rfl (ze qH rfl) ?_ | refine zb rfl rfl rfl rfl (zF qJ rfl rfl rfl) ?_ | refine zb rfl rfl rfl rfl (zD rfl rfl) ?_ | refine zb rfl rfl rfl rfl (zB rfl rfl) ?_ | refine zb rfl rfl rfl rfl (zq rfl rfl rfl) ?_)
 refine z4 (us:=[.bool nb,.slice B lb.length cb]) rfl rfl rfl (fun g2 w2 hB2 hg2 hl2=>?_)
 repeat (first | refine zg ?_ | refine WC.block ?_ | refine zc ?_ | refine zh ?_ | refine za ?_ | refine zt ?_ | refine zy ?_ | refine zx ?_ | refine zm ?_ | refine zi ?_ | refine zf ?_ | refine zn ?_ | refine zk ?_ | refine zl rfl ?_ | refine zv ?_ | refine zw ?_ | refine zj ?_ | refine zp ?_ | refine zo ?_ | refine zd rfl (Yld.add rfl rfl (by simp only [In]; omega)) ?_ | refine zd rfl (Yld.sub rfl rfl (by simp only [In]; omega)) ?_ | refine zd rfl (zC rfl rfl (by simp only [In]; omega)) ?_ | refine zd rfl (zr qH rfl rfl rfl rfl) ?_ | refine zd rfl (zu qH rfl rfl rfl (by simp only [In]; omega)) ?_ | refine zd rfl (zz rfl rfl (by omega) (by omega) (by simp only [In]; omega)) ?_ | refine zd rfl (zA rfl rfl (by omega) (by omega)) ?_ | refine zd rfl (zI rfl rfl (by omega)) ?_ | refine zd rfl (zG rfl rfl (by omega)) ?_ | refine zd rfl (ze qH rfl) ?_ | refine zd rfl (zF qJ rfl rfl rfl) ?_ | refine zd rfl (zD rfl rfl) ?_ | refine zd rfl (zB rfl rfl) ?_ | refine zd rfl (zq rfl rfl rfl) ?_ | refine zJ rfl rfl rfl rfl ?_ | refine zb rfl rfl rfl rfl (Yld.add rfl rfl (by simp only [In]; omega)) ?_ | refine zb rfl rfl rfl rfl (Yld.sub rfl rfl (by simp only [In]; omega)) ?_ | refine zb rfl rfl rfl rfl (zC rfl rfl (by simp only [In]; omega)) ?_ | refine zb rfl rfl rfl rfl (zr qH rfl rfl rfl rfl) ?_ | refine zb rfl rfl rfl rfl (zu qH rfl rfl rfl (by simp only [In]; omega)) ?_ | refine zb rfl rfl rfl rfl (zz rfl rfl (by omega) (by omega) (by simp only [In]; omega)) ?_ | refine zb rfl rfl rfl rfl (zA rfl rfl (by omega) (by omega)) ?_ | refine zb rfl rfl rfl rfl (zI rfl rfl (by omega)) ?_ | refine zb rfl rfl rfl rfl (zG rfl rfl (by omega)) ?_ | refine zb rfl rfl rfl rfl (ze qH rfl) ?_ | refine zb rfl rfl rfl rfl (zF qJ rfl rfl rfl) ?_ | refine zb rfl rfl rfl rfl (zD rfl rfl) ?_ | refine zb rfl rfl rfl rfl (zB rfl rfl) ?_ | refine zb rfl rfl rfl rfl (zq rfl rfl rfl) ?_)
 refine WL.alloc rfl qX (fun g4 w3 hB4 hg3 hl4=>?_)
 have h1:=hB1.lt
 have h2:=hB2.lt
 have hz1:=hg1.size
 have hz2:=hg2.size
 have hB13:=(hB1.keep hg2 (by simp)).keep hg3 (by simp)
 have hB23:=hB2.keep hg3 (by simp)
 have hg13:=qI (qI hg1 hg2) hg3
 have hA3:=hA.grown hg13
 have hB3:=hB.grown hg13
 have hbt:=Tryz.underlying4
 repeat (first | refine zd rfl (zH qH hB13 rfl rfl rfl) ?_ | refine zd rfl (zH qH hB23 rfl rfl rfl) ?_ | refine zd rfl (qA hbt rfl rfl) ?_ | refine zg ?_ | refine WC.block ?_ | refine zc ?_ | refine zh ?_ | refine za ?_ | refine zt ?_ | refine zy ?_ | refine zx ?_ | refine zm ?_ | refine zi ?_ | refine zf ?_ | refine zn ?_ | refine zk ?_ | refine zl rfl ?_ | refine zv ?_ | refine zw ?_ | refine zj ?_ | refine zp ?_ | refine zo ?_ | refine zd rfl (Yld.add rfl rfl (by simp only [In]; omega)) ?_ | refine zd rfl (Yld.sub rfl rfl (by simp only [In]; omega)) ?_ | refine zd rfl (zC rfl rfl (by simp only [In]; omega)) ?_ | refine zd rfl (zr qH rfl rfl rfl rfl) ?_ | refine zd rfl (zu qH rfl rfl rfl (by simp only [In]; omega)) ?_ | refine zd rfl (zz rfl rfl (by omega) (by omega) (by simp only [In]; omega)) ?_ | refine zd rfl (zA rfl rfl (by omega) (by omega)) ?_ | refine zd rfl (zI rfl rfl (by omega)) ?_ | refine zd rfl (zG rfl rfl (by omega)) ?_ | refine zd rfl (ze qH rfl) ?_ | refine zd rfl (zF qJ rfl rfl rfl) ?_ | refine zd rfl (zD rfl rfl) ?_ | refine zd rfl (zB rfl rfl) ?_ | refine zd rfl (zq rfl rfl rfl) ?_ | refine zJ rfl rfl rfl rfl ?_ | refine zb rfl rfl rfl rfl (Yld.add rfl rfl (by simp only [In]; omega)) ?_ | refine zb rfl rfl rfl rfl (Yld.sub rfl rfl (by simp only [In]; omega)) ?_ | refine zb rfl rfl rfl rfl (zC rfl rfl (by simp only [In]; omega)) ?_ | refine zb rfl rfl rfl rfl (zr qH rfl rfl rfl rfl) ?_ | refine zb rfl rfl rfl rfl (zu qH rfl rfl rfl (by simp only [In]; omega)) ?_ | refine zb rfl rfl rfl rfl (zz rfl rfl (by omega) (by omega) (by simp only [In]; omega)) ?_ | refine zb rfl rfl rfl rfl (zA rfl rfl (by omega) (by omega)) ?_ | refine zb rfl rfl rfl rfl (zI rfl rfl (by omega)) ?_ | refine zb rfl rfl rfl rfl (zG rfl rfl (by omega)) ?_ | refine zb rfl rfl rfl rfl (ze qH rfl) ?_ | refine zb rfl rfl rfl rfl (zF qJ rfl rfl rfl) ?_ | refine zb rfl rfl rfl rfl (zD rfl rfl) ?_ | refine zb rfl rfl rfl rfl (zB rfl rfl) ?_ | refine zb rfl rfl rfl rfl (zq rfl rfl rfl) ?_)
 refine zE rfl (fun h=>?_) (fun h=>?_)
 ·simp only [beq_iff_eq] at h
  subst h
  repeat (first | refine zg ?_ | refine WC.block ?_ | refine zc ?_ | refine zh ?_ | refine za ?_ | refine zt ?_ | refine zy ?_ | refine zx ?_ | refine zm ?_ | refine zi ?_ | refine zf ?_ | refine zn ?_ | refine zk ?_ | refine zl rfl ?_ | refine zv ?_ | refine zw ?_ | refine zj ?_ | refine zp ?_ | refine zo ?_ | refine zd rfl (Yld.add rfl rfl (by simp only [In]; omega)) ?_ | refine zd rfl (Yld.sub rfl rfl (by simp only [In]; omega)) ?_ | refine zd rfl (zC rfl rfl (by simp only [In]; omega)) ?_ | refine zd rfl (zr qH rfl rfl rfl rfl) ?_ | refine zd rfl (zu qH rfl rfl rfl (by simp only [In]; omega)) ?_ | refine zd rfl (zz rfl rfl (by omega) (by omega) (by simp only [In]; omega)) ?_ | refine zd rfl (zA rfl rfl (by omega) (by omega)) ?_ | refine zd rfl (zI rfl rfl (by omega)) ?_ | refine zd rfl (zG rfl rfl (by omega)) ?_ | refine zd rfl (ze qH rfl) ?_ | refine zd rfl (zF qJ rfl rfl rfl) ?_ | refine zd rfl (zD rfl rfl) ?_ | refine zd rfl (zB rfl rfl) ?_ | refine zd rfl (zq rfl rfl rfl) ?_ | refine zJ rfl rfl rfl rfl ?_ | refine zb rfl rfl rfl rfl (Yld.add rfl rfl (by simp only [In]; omega)) ?_ | refine zb rfl rfl rfl rfl (Yld.sub rfl rfl (by simp only [In]; omega)) ?_ | refine zb rfl rfl rfl rfl (zC rfl rfl (by simp only [In]; omega)) ?_ | refine zb rfl rfl rfl rfl (zr qH rfl rfl rfl rfl) ?_ | refine zb rfl rfl rfl rfl (zu qH rfl rfl rfl (by simp only [In]; omega)) ?_ | refine zb rfl rfl rfl rfl (zz rfl rfl (by omega) (by omega) (by simp only [In]; omega)) ?_ | refine zb rfl rfl rfl rfl (zA rfl rfl (by omega) (by omega)) ?_ | refine zb rfl rfl rfl rfl (zI rfl rfl (by omega)) ?_ | refine zb rfl rfl rfl rfl (zG rfl rfl (by omega)) ?_ | refine zb rfl rfl rfl rfl (ze qH rfl) ?_ | refine zb rfl rfl rfl rfl (zF qJ rfl rfl rfl) ?_ | refine zb rfl rfl rfl rfl (zD rfl rfl) ?_ | refine zb rfl rfl rfl rfl (zB rfl rfl) ?_ | refine zb rfl rfl rfl rfl (zq rfl rfl rfl) ?_)
  refine WC.chain (fun k=>Nat.blt k 6) (fun w'=>w3.grownBy w' (some g4)) jg (by kernel_rfl) (fun w' e=>qN (qR _ _) e) ?_
  repeat (first | refine z1 rfl rfl (fun w' h=>zH qH (hB13.keep h (by simp; omega)) rfl rfl rfl) ?_ | refine z1 rfl rfl (fun w' h=>zH qH (hB23.keep h (by simp; omega)) rfl rfl rfl) ?_ | refine z1 rfl rfl (fun _ _=>Yld.add rfl rfl (by simp only [In]; omega)) ?_ | refine z1 rfl rfl (fun _ _=>Yld.sub rfl rfl (by simp only [In]; omega)) ?_ | refine z1 rfl rfl (fun _ _=>zC rfl rfl (by simp only [In]; omega)) ?_ | refine z1 rfl rfl (fun _ _=>zr qH rfl rfl rfl rfl) ?_ | refine z1 rfl rfl (fun _ _=>zu qH rfl rfl rfl (by simp only [In]; omega)) ?_ | refine z1 rfl rfl (fun _ _=>zz rfl rfl (by omega) (by omega) (by simp only [In]; omega)) ?_ | refine z1 rfl rfl (fun _ _=>zA rfl rfl (by omega) (by omega)) ?_ | refine z1 rfl rfl (fun _ _=>zI rfl rfl (by omega)) ?_ | refine z1 rfl rfl (fun _ _=>zG rfl rfl (by omega)) ?_ | refine z1 rfl rfl (fun _ _=>ze qH rfl) ?_)
  refine qe rfl qK rfl rfl (plus_fn' A c la B cb lb w3 hA3 hB3 hDa hDb (by omega) (by omega)) (fun v w' ⟨_,_,_,_,_,_,_,_,h,_⟩ w2 e=>jC (qN h e) _) ?_
  rintro _ w5 ⟨A5,c5,o,rfl,hR5,hD5,hv5,hl5,hg5,hf5⟩
  refine qe rfl qK rfl rfl (made_fn' na A5 c5 o w5 hR5 hD5 (by omega)) (fun v w' ⟨_,h,_⟩ w2 e=>jC (qN (qI hg5 h) e) _) ?_
  rintro r w6 ⟨hN,hg6,hLm⟩
  have hB46:=(hB4.keep hg5 (by simp)).keep hg6 (by simp)
  have hg36:=qI hg5 hg6
  obtain ⟨a,b,rfl,ha,hb⟩:=hN.agg
  refine qw rfl (zU (vs:=[a,b]) qH rfl rfl rfl (by intro u hu; simp at hu; rcases hu with rfl | rfl <;> assumption) hB46 rfl rfl) (fun w' h=>qI (jC hg36 _) h.2) ?_
  rintro w7 ⟨hB7,hg7⟩
  refine qx ?_
  repeat (first | refine zg ?_ | refine WC.block ?_ | refine zc ?_ | refine zh ?_ | refine za ?_ | refine zt ?_ | refine zy ?_ | refine zx ?_ | refine zm ?_ | refine zi ?_ | refine zf ?_ | refine zn ?_ | refine zk ?_ | refine zl rfl ?_ | refine zv ?_ | refine zw ?_ | refine zj ?_ | refine zp ?_ | refine zo ?_ | refine zd rfl (Yld.add rfl rfl (by simp only [In]; omega)) ?_ | refine zd rfl (Yld.sub rfl rfl (by simp only [In]; omega)) ?_ | refine zd rfl (zC rfl rfl (by simp only [In]; omega)) ?_ | refine zd rfl (zr qH rfl rfl rfl rfl) ?_ | refine zd rfl (zu qH rfl rfl rfl (by simp only [In]; omega)) ?_ | refine zd rfl (zz rfl rfl (by omega) (by omega) (by simp only [In]; omega)) ?_ | refine zd rfl (zA rfl rfl (by omega) (by omega)) ?_ | refine zd rfl (zI rfl rfl (by omega)) ?_ | refine zd rfl (zG rfl rfl (by omega)) ?_ | refine zd rfl (ze qH rfl) ?_ | refine zd rfl (zF qJ rfl rfl rfl) ?_ | refine zd rfl (zD rfl rfl) ?_ | refine zd rfl (zB rfl rfl) ?_ | refine zd rfl (zq rfl rfl rfl) ?_ | refine zJ rfl rfl rfl rfl ?_ | refine zb rfl rfl rfl rfl (Yld.add rfl rfl (by simp only [In]; omega)) ?_ | refine zb rfl rfl rfl rfl (Yld.sub rfl rfl (by simp only [In]; omega)) ?_ | refine zb rfl rfl rfl rfl (zC rfl rfl (by simp only [In]; omega)) ?_ | refine zb rfl rfl rfl rfl (zr qH rfl rfl rfl rfl) ?_ | refine zb rfl rfl rfl rfl (zu qH rfl rfl rfl (by simp only [In]; omega)) ?_ | refine zb rfl rfl rfl rfl (zz rfl rfl (by omega) (by omega) (by simp only [In]; omega)) ?_ | refine zb rfl rfl rfl rfl (zA rfl rfl (by omega) (by omega)) ?_ | refine zb rfl rfl rfl rfl (zI rfl rfl (by omega)) ?_ | refine zb rfl rfl rfl rfl (zG rfl rfl (by omega)) ?_ | refine zb rfl rfl rfl rfl (ze qH rfl) ?_ | refine zb rfl rfl rfl rfl (zF qJ rfl rfl rfl) ?_ | refine zb rfl rfl rfl rfl (zD rfl rfl) ?_ | refine zb rfl rfl rfl rfl (zB rfl rfl) ?_ | refine zb rfl rfl rfl rfl (zq rfl rfl rfl) ?_)
  have hzz:(bif na then -(val o:Int) else (val o:Int))=(bif na then -(val la:Int) else (val la:Int))+(bif na then -(val lb:Int) else (val lb:Int)):=by rw [hv5]; cases na <;> simp <;> omega
  rw [hzz] at hN
  exact qc qH rfl rfl rfl hB7 rfl ⟨(hN.stored hB46 jk hg7).mono (by omega),jp (qI hg13 hg36) hg7 (by omega),fun _ _ _ _ e_ q_ hq_=>⟨Nat.le_trans hg13.size (hf5 q_ (hLm _ _ _ _ e_ q_ hq_)).1,Nat.lt_of_lt_of_le (hf5 q_ (hLm _ _ _ _ e_ q_ hq_)).2 (Nat.le_trans hg6.size hg7.size)⟩⟩
 ·simp only [beq_eq_false_iff_ne,ne_eq] at h
  repeat (first | refine zd rfl (zH qH hB13 rfl rfl rfl) ?_ | refine zd rfl (zH qH hB23 rfl rfl rfl) ?_ | refine zd rfl (qA hbt rfl rfl) ?_ | refine zg ?_ | refine WC.block ?_ | refine zc ?_ | refine zh ?_ | refine za ?_ | refine zt ?_ | refine zy ?_ | refine zx ?_ | refine zm ?_ | refine zi ?_ | refine zf ?_ | refine zn ?_ | refine zk ?_ | refine zl rfl ?_ | refine zv ?_ | refine zw ?_ | refine zj ?_ | refine zp ?_ | refine zo ?_ | refine zd rfl (Yld.add rfl rfl (by simp only [In]; omega)) ?_ | refine zd rfl (Yld.sub rfl rfl (by simp only [In]; omega)) ?_ | refine zd rfl (zC rfl rfl (by simp only [In]; omega)) ?_ | refine zd rfl (zr qH rfl rfl rfl rfl) ?_ | refine zd rfl (zu qH rfl rfl rfl (by simp only [In]; omega)) ?_ | refine zd rfl (zz rfl rfl (by omega) (by omega) (by simp only [In]; omega)) ?_ | refine zd rfl (zA rfl rfl (by omega) (by omega)) ?_ | refine zd rfl (zI rfl rfl (by omega)) ?_ | refine zd rfl (zG rfl rfl (by omega)) ?_ | refine zd rfl (ze qH rfl) ?_ | refine zd rfl (zF qJ rfl rfl rfl) ?_ | refine zd rfl (zD rfl rfl) ?_ | refine zd rfl (zB rfl rfl) ?_ | refine zd rfl (zq rfl rfl rfl) ?_ | refine zJ rfl rfl rfl rfl ?_ | refine zb rfl rfl rfl rfl (Yld.add rfl rfl (by simp only [In]; omega)) ?_ | refine zb rfl rfl rfl rfl (Yld.sub rfl rfl (by simp only [In]; omega)) ?_ | refine zb rfl rfl rfl rfl (zC rfl rfl (by simp only [In]; omega)) ?_ | refine zb rfl rfl rfl rfl (zr qH rfl rfl rfl rfl) ?_ | refine zb rfl rfl rfl rfl (zu qH rfl rfl rfl (by simp only [In]; omega)) ?_ | refine zb rfl rfl rfl rfl (zz rfl rfl (by omega) (by omega) (by simp only [In]; omega)) ?_ | refine zb rfl rfl rfl rfl (zA rfl rfl (by omega) (by omega)) ?_ | refine zb rfl rfl rfl rfl (zI rfl rfl (by omega)) ?_ | refine zb rfl rfl rfl rfl (zG rfl rfl (by omega)) ?_ | refine zb rfl rfl rfl rfl (ze qH rfl) ?_ | refine zb rfl rfl rfl rfl (zF qJ rfl rfl rfl) ?_ | refine zb rfl rfl rfl rfl (zD rfl rfl) ?_ | refine zb rfl rfl rfl rfl (zB rfl rfl) ?_ | refine zb rfl rfl rfl rfl (zq rfl rfl rfl) ?_)
  refine zK rfl rfl (cmp_fn A c la B cb lb w3 hA3 hB3 hDa hDb hCa hCb (by omega) (by omega)) ?_
  rintro _ w3b ⟨⟨n,rfl,ht⟩,hw3⟩
  have hw4:=hw3.symm
  subst hw4
  repeat (first | refine zg ?_ | refine WC.block ?_ | refine zc ?_ | refine zh ?_ | refine za ?_ | refine zt ?_ | refine zy ?_ | refine zx ?_ | refine zm ?_ | refine zi ?_ | refine zf ?_ | refine zn ?_ | refine zk ?_ | refine zl rfl ?_ | refine zv ?_ | refine zw ?_ | refine zj ?_ | refine zp ?_ | refine zo ?_ | refine zd rfl (Yld.add rfl rfl (by simp only [In]; omega)) ?_ | refine zd rfl (Yld.sub rfl rfl (by simp only [In]; omega)) ?_ | refine zd rfl (zC rfl rfl (by simp only [In]; omega)) ?_ | refine zd rfl (zr qH rfl rfl rfl rfl) ?_ | refine zd rfl (zu qH rfl rfl rfl (by simp only [In]; omega)) ?_ | refine zd rfl (zz rfl rfl (by omega) (by omega) (by simp only [In]; omega)) ?_ | refine zd rfl (zA rfl rfl (by omega) (by omega)) ?_ | refine zd rfl (zI rfl rfl (by omega)) ?_ | refine zd rfl (zG rfl rfl (by omega)) ?_ | refine zd rfl (ze qH rfl) ?_ | refine zd rfl (zF qJ rfl rfl rfl) ?_ | refine zd rfl (zD rfl rfl) ?_ | refine zd rfl (zB rfl rfl) ?_ | refine zd rfl (zq rfl rfl rfl) ?_ | refine zJ rfl rfl rfl rfl ?_ | refine zb rfl rfl rfl rfl (Yld.add rfl rfl (by simp only [In]; omega)) ?_ | refine zb rfl rfl rfl rfl (Yld.sub rfl rfl (by simp only [In]; omega)) ?_ | refine zb rfl rfl rfl rfl (zC rfl rfl (by simp only [In]; omega)) ?_ | refine zb rfl rfl rfl rfl (zr qH rfl rfl rfl rfl) ?_ | refine zb rfl rfl rfl rfl (zu qH rfl rfl rfl (by simp only [In]; omega)) ?_ | refine zb rfl rfl rfl rfl (zz rfl rfl (by omega) (by omega) (by simp only [In]; omega)) ?_ | refine zb rfl rfl rfl rfl (zA rfl rfl (by omega) (by omega)) ?_ | refine zb rfl rfl rfl rfl (zI rfl rfl (by omega)) ?_ | refine zb rfl rfl rfl rfl (zG rfl rfl (by omega)) ?_ | refine zb rfl rfl rfl rfl (ze qH rfl) ?_ | refine zb rfl rfl rfl rfl (zF qJ rfl rfl rfl) ?_ | refine zb rfl rfl rfl rfl (zD rfl rfl) ?_ | refine zb rfl rfl rfl rfl (zB rfl rfl) ?_ | refine zb rfl rfl rfl rfl (zq rfl rfl rfl) ?_)
  refine zE rfl (fun h0=>?_) (fun h0=>?_)
  ·simp only [decide_eq_true_eq] at h0
   have hle:val lb<=val la:=by rcases ht with h | h | h <;> omega
   have hlen:lb.length<=la.length:=by
    rcases Nat.lt_or_ge la.length lb.length with h5 | h5
    ·have:=val_lt_len hDa hCb h5; omega
    ·exact h5
   repeat (first | refine zg ?_ | refine WC.block ?_ | refine zc ?_ | refine zh ?_ | refine za ?_ | refine zt ?_ | refine zy ?_ | refine zx ?_ | refine zm ?_ | refine zi ?_ | refine zf ?_ | refine zn ?_ | refine zk ?_ | refine zl rfl ?_ | refine zv ?_ | refine zw ?_ | refine zj ?_ | refine zp ?_ | refine zo ?_ | refine zd rfl (Yld.add rfl rfl (by simp only [In]; omega)) ?_ | refine zd rfl (Yld.sub rfl rfl (by simp only [In]; omega)) ?_ | refine zd rfl (zC rfl rfl (by simp only [In]; omega)) ?_ | refine zd rfl (zr qH rfl rfl rfl rfl) ?_ | refine zd rfl (zu qH rfl rfl rfl (by simp only [In]; omega)) ?_ | refine zd rfl (zz rfl rfl (by omega) (by omega) (by simp only [In]; omega)) ?_ | refine zd rfl (zA rfl rfl (by omega) (by omega)) ?_ | refine zd rfl (zI rfl rfl (by omega)) ?_ | refine zd rfl (zG rfl rfl (by omega)) ?_ | refine zd rfl (ze qH rfl) ?_ | refine zd rfl (zF qJ rfl rfl rfl) ?_ | refine zd rfl (zD rfl rfl) ?_ | refine zd rfl (zB rfl rfl) ?_ | refine zd rfl (zq rfl rfl rfl) ?_ | refine zJ rfl rfl rfl rfl ?_ | refine zb rfl rfl rfl rfl (Yld.add rfl rfl (by simp only [In]; omega)) ?_ | refine zb rfl rfl rfl rfl (Yld.sub rfl rfl (by simp only [In]; omega)) ?_ | refine zb rfl rfl rfl rfl (zC rfl rfl (by simp only [In]; omega)) ?_ | refine zb rfl rfl rfl rfl (zr qH rfl rfl rfl rfl) ?_ | refine zb rfl rfl rfl rfl (zu qH rfl rfl rfl (by simp only [In]; omega)) ?_ | refine zb rfl rfl rfl rfl (zz rfl rfl (by omega) (by omega) (by simp only [In]; omega)) ?_ | refine zb rfl rfl rfl rfl (zA rfl rfl (by omega) (by omega)) ?_ | refine zb rfl rfl rfl rfl (zI rfl rfl (by omega)) ?_ | refine zb rfl rfl rfl rfl (zG rfl rfl (by omega)) ?_ | refine zb rfl rfl rfl rfl (ze qH rfl) ?_ | refine zb rfl rfl rfl rfl (zF qJ rfl rfl rfl) ?_ | refine zb rfl rfl rfl rfl (zD rfl rfl) ?_ | refine zb rfl rfl rfl rfl (zB rfl rfl) ?_ | refine zb rfl rfl rfl rfl (zq rfl rfl rfl) ?_)
   refine WC.chain (fun k=>Nat.blt k 6) (fun w'=>w3.grownBy w' (some g4)) jg (by kernel_rfl) (fun w' e=>qN (qR _ _) e) ?_
   repeat (first | refine z1 rfl rfl (fun w' h=>zH qH (hB13.keep h (by simp; omega)) rfl rfl rfl) ?_ | refine z1 rfl rfl (fun w' h=>zH qH (hB23.keep h (by simp; omega)) rfl rfl rfl) ?_ | refine z1 rfl rfl (fun _ _=>Yld.add rfl rfl (by simp only [In]; omega)) ?_ | refine z1 rfl rfl (fun _ _=>Yld.sub rfl rfl (by simp only [In]; omega)) ?_ | refine z1 rfl rfl (fun _ _=>zC rfl rfl (by simp only [In]; omega)) ?_ | refine z1 rfl rfl (fun _ _=>zr qH rfl rfl rfl rfl) ?_ | refine z1 rfl rfl (fun _ _=>zu qH rfl rfl rfl (by simp only [In]; omega)) ?_ | refine z1 rfl rfl (fun _ _=>zz rfl rfl (by omega) (by omega) (by simp only [In]; omega)) ?_ | refine z1 rfl rfl (fun _ _=>zA rfl rfl (by omega) (by omega)) ?_ | refine z1 rfl rfl (fun _ _=>zI rfl rfl (by omega)) ?_ | refine z1 rfl rfl (fun _ _=>zG rfl rfl (by omega)) ?_ | refine z1 rfl rfl (fun _ _=>ze qH rfl) ?_)
   refine qe rfl qK rfl rfl (minus_fn' A c la B cb lb w3 hA3 hB3 hDa hDb (by omega) hlen hle) (fun v w' ⟨_,_,_,_,_,_,_,_,h,_⟩ w2 e=>jC (qN h e) _) ?_
   rintro _ w5 ⟨A5,c5,o,rfl,hR5,hD5,hv5,hl5,hg5,hf5⟩
   refine qe rfl qK rfl rfl (made_fn' na A5 c5 o w5 hR5 hD5 (by omega)) (fun v w' ⟨_,h,_⟩ w2 e=>jC (qN (qI hg5 h) e) _) ?_
   rintro r w6 ⟨hN,hg6,hLm⟩
   have hB46:=(hB4.keep hg5 (by simp)).keep hg6 (by simp)
   have hg36:=qI hg5 hg6
   obtain ⟨a,b,rfl,ha,hb⟩:=hN.agg
   refine qw rfl (zU (vs:=[a,b]) qH rfl rfl rfl (by intro u hu; simp at hu; rcases hu with rfl | rfl <;> assumption) hB46 rfl rfl) (fun w' h=>qI (jC hg36 _) h.2) ?_
   rintro w7 ⟨hB7,hg7⟩
   refine qx ?_
   repeat (first | refine zg ?_ | refine WC.block ?_ | refine zc ?_ | refine zh ?_ | refine za ?_ | refine zt ?_ | refine zy ?_ | refine zx ?_ | refine zm ?_ | refine zi ?_ | refine zf ?_ | refine zn ?_ | refine zk ?_ | refine zl rfl ?_ | refine zv ?_ | refine zw ?_ | refine zj ?_ | refine zp ?_ | refine zo ?_ | refine zd rfl (Yld.add rfl rfl (by simp only [In]; omega)) ?_ | refine zd rfl (Yld.sub rfl rfl (by simp only [In]; omega)) ?_ | refine zd rfl (zC rfl rfl (by simp only [In]; omega)) ?_ | refine zd rfl (zr qH rfl rfl rfl rfl) ?_ | refine zd rfl (zu qH rfl rfl rfl (by simp only [In]; omega)) ?_ | refine zd rfl (zz rfl rfl (by omega) (by omega) (by simp only [In]; omega)) ?_ | refine zd rfl (zA rfl rfl (by omega) (by omega)) ?_ | refine zd rfl (zI rfl rfl (by omega)) ?_ | refine zd rfl (zG rfl rfl (by omega)) ?_ | refine zd rfl (ze qH rfl) ?_ | refine zd rfl (zF qJ rfl rfl rfl) ?_ | refine zd rfl (zD rfl rfl) ?_ | refine zd rfl (zB rfl rfl) ?_ | refine zd rfl (zq rfl rfl rfl) ?_ | refine zJ rfl rfl rfl rfl ?_ | refine zb rfl rfl rfl rfl (Yld.add rfl rfl (by simp only [In]; omega)) ?_ | refine zb rfl rfl rfl rfl (Yld.sub rfl rfl (by simp only [In]; omega)) ?_ | refine zb rfl rfl rfl rfl (zC rfl rfl (by simp only [In]; omega)) ?_ | refine zb rfl rfl rfl rfl (zr qH rfl rfl rfl rfl) ?_ | refine zb rfl rfl rfl rfl (zu qH rfl rfl rfl (by simp only [In]; omega)) ?_ | refine zb rfl rfl rfl rfl (zz rfl rfl (by omega) (by omega) (by simp only [In]; omega)) ?_ | refine zb rfl rfl rfl rfl (zA rfl rfl (by omega) (by omega)) ?_ | refine zb rfl rfl rfl rfl (zI rfl rfl (by omega)) ?_ | refine zb rfl rfl rfl rfl (zG rfl rfl (by omega)) ?_ | refine zb rfl rfl rfl rfl (ze qH rfl) ?_ | refine zb rfl rfl rfl rfl (zF qJ rfl rfl rfl) ?_ | refine zb rfl rfl rfl rfl (zD rfl rfl) ?_ | refine zb rfl rfl rfl rfl (zB rfl rfl) ?_ | refine zb rfl rfl rfl rfl (zq rfl rfl rfl) ?_)
   have hzz:(bif na then -(val o:Int) else (val o:Int))=(bif na then -(val la:Int) else (val la:Int))+(bif nb then -(val lb:Int) else (val lb:Int)):=by cases na <;> cases nb <;> simp at h |- <;> omega
   rw [hzz] at hN
   exact qc qH rfl rfl rfl hB7 rfl ⟨(hN.stored hB46 jk hg7).mono (by omega),jp (qI hg13 hg36) hg7 (by omega),fun _ _ _ _ e_ q_ hq_=>⟨Nat.le_trans hg13.size (hf5 q_ (hLm _ _ _ _ e_ q_ hq_)).1,Nat.lt_of_lt_of_le (hf5 q_ (hLm _ _ _ _ e_ q_ hq_)).2 (Nat.le_trans hg6.size hg7.size)⟩⟩
  ·simp only [decide_eq_false_iff_not] at h0
   have hle:val la<=val lb:=by rcases ht with h | h | h <;> omega
   have hlen:la.length<=lb.length:=by
    rcases Nat.lt_or_ge lb.length la.length with h5 | h5
    ·have:=val_lt_len hDb hCa h5; omega
    ·exact h5
   repeat (first | refine zg ?_ | refine WC.block ?_ | refine zc ?_ | refine zh ?_ | refine za ?_ | refine zt ?_ | refine zy ?_ | refine zx ?_ | refine zm ?_ | refine zi ?_ | refine zf ?_ | refine zn ?_ | refine zk ?_ | refine zl rfl ?_ | refine zv ?_ | refine zw ?_ | refine zj ?_ | refine zp ?_ | refine zo ?_ | refine zd rfl (Yld.add rfl rfl (by simp only [In]; omega)) ?_ | refine zd rfl (Yld.sub rfl rfl (by simp only [In]; omega)) ?_ | refine zd rfl (zC rfl rfl (by simp only [In]; omega)) ?_ | refine zd rfl (zr qH rfl rfl rfl rfl) ?_ | refine zd rfl (zu qH rfl rfl rfl (by simp only [In]; omega)) ?_ | refine zd rfl (zz rfl rfl (by omega) (by omega) (by simp only [In]; omega)) ?_ | refine zd rfl (zA rfl rfl (by omega) (by omega)) ?_ | refine zd rfl (zI rfl rfl (by omega)) ?_ | refine zd rfl (zG rfl rfl (by omega)) ?_ | refine zd rfl (ze qH rfl) ?_ | refine zd rfl (zF qJ rfl rfl rfl) ?_ | refine zd rfl (zD rfl rfl) ?_ | refine zd rfl (zB rfl rfl) ?_ | refine zd rfl (zq rfl rfl rfl) ?_ | refine zJ rfl rfl rfl rfl ?_ | refine zb rfl rfl rfl rfl (Yld.add rfl rfl (by simp only [In]; omega)) ?_ | refine zb rfl rfl rfl rfl (Yld.sub rfl rfl (by simp only [In]; omega)) ?_ | refine zb rfl rfl rfl rfl (zC rfl rfl (by simp only [In]; omega)) ?_ | refine zb rfl rfl rfl rfl (zr qH rfl rfl rfl rfl) ?_ | refine zb rfl rfl rfl rfl (zu qH rfl rfl rfl (by simp only [In]; omega)) ?_ | refine zb rfl rfl rfl rfl (zz rfl rfl (by omega) (by omega) (by simp only [In]; omega)) ?_ | refine zb rfl rfl rfl rfl (zA rfl rfl (by omega) (by omega)) ?_ | refine zb rfl rfl rfl rfl (zI rfl rfl (by omega)) ?_ | refine zb rfl rfl rfl rfl (zG rfl rfl (by omega)) ?_ | refine zb rfl rfl rfl rfl (ze qH rfl) ?_ | refine zb rfl rfl rfl rfl (zF qJ rfl rfl rfl) ?_ | refine zb rfl rfl rfl rfl (zD rfl rfl) ?_ | refine zb rfl rfl rfl rfl (zB rfl rfl) ?_ | refine zb rfl rfl rfl rfl (zq rfl rfl rfl) ?_)
   refine WC.chain (fun k=>Nat.blt k 6) (fun w'=>w3.grownBy w' (some g4)) jg (by kernel_rfl) (fun w' e=>qN (qR _ _) e) ?_
   repeat (first | refine z1 rfl rfl (fun w' h=>zH qH (hB13.keep h (by simp; omega)) rfl rfl rfl) ?_ | refine z1 rfl rfl (fun w' h=>zH qH (hB23.keep h (by simp; omega)) rfl rfl rfl) ?_ | refine z1 rfl rfl (fun _ _=>Yld.add rfl rfl (by simp only [In]; omega)) ?_ | refine z1 rfl rfl (fun _ _=>Yld.sub rfl rfl (by simp only [In]; omega)) ?_ | refine z1 rfl rfl (fun _ _=>zC rfl rfl (by simp only [In]; omega)) ?_ | refine z1 rfl rfl (fun _ _=>zr qH rfl rfl rfl rfl) ?_ | refine z1 rfl rfl (fun _ _=>zu qH rfl rfl rfl (by simp only [In]; omega)) ?_ | refine z1 rfl rfl (fun _ _=>zz rfl rfl (by omega) (by omega) (by simp only [In]; omega)) ?_ | refine z1 rfl rfl (fun _ _=>zA rfl rfl (by omega) (by omega)) ?_ | refine z1 rfl rfl (fun _ _=>zI rfl rfl (by omega)) ?_ | refine z1 rfl rfl (fun _ _=>zG rfl rfl (by omega)) ?_ | refine z1 rfl rfl (fun _ _=>ze qH rfl) ?_)
   refine qe rfl qK rfl rfl (minus_fn' B cb lb A c la w3 hB3 hA3 hDb hDa (by omega) hlen hle) (fun v w' ⟨_,_,_,_,_,_,_,_,h,_⟩ w2 e=>jC (qN h e) _) ?_
   rintro _ w5 ⟨A5,c5,o,rfl,hR5,hD5,hv5,hl5,hg5,hf5⟩
   refine qe rfl qK rfl rfl (made_fn' nb A5 c5 o w5 hR5 hD5 (by omega)) (fun v w' ⟨_,h,_⟩ w2 e=>jC (qN (qI hg5 h) e) _) ?_
   rintro r w6 ⟨hN,hg6,hLm⟩
   have hB46:=(hB4.keep hg5 (by simp)).keep hg6 (by simp)
   have hg36:=qI hg5 hg6
   obtain ⟨a,b,rfl,ha,hb⟩:=hN.agg
   refine qw rfl (zU (vs:=[a,b]) qH rfl rfl rfl (by intro u hu; simp at hu; rcases hu with rfl | rfl <;> assumption) hB46 rfl rfl) (fun w' h=>qI (jC hg36 _) h.2) ?_
   rintro w7 ⟨hB7,hg7⟩
   refine qx ?_
   repeat (first | refine zg ?_ | refine WC.block ?_ | refine zc ?_ | refine zh ?_ | refine za ?_ | refine zt ?_ | refine zy ?_ | refine zx ?_ | refine zm ?_ | refine zi ?_ | refine zf ?_ | refine zn ?_ | refine zk ?_ | refine zl rfl ?_ | refine zv ?_ | refine zw ?_ | refine zj ?_ | refine zp ?_ | refine zo ?_ | refine zd rfl (Yld.add rfl rfl (by simp only [In]; omega)) ?_ | refine zd rfl (Yld.sub rfl rfl (by simp only [In]; omega)) ?_ | refine zd rfl (zC rfl rfl (by simp only [In]; omega)) ?_ | refine zd rfl (zr qH rfl rfl rfl rfl) ?_ | refine zd rfl (zu qH rfl rfl rfl (by simp only [In]; omega)) ?_ | refine zd rfl (zz rfl rfl (by omega) (by omega) (by simp only [In]; omega)) ?_ | refine zd rfl (zA rfl rfl (by omega) (by omega)) ?_ | refine zd rfl (zI rfl rfl (by omega)) ?_ | refine zd rfl (zG rfl rfl (by omega)) ?_ | refine zd rfl (ze qH rfl) ?_ | refine zd rfl (zF qJ rfl rfl rfl) ?_ | refine zd rfl (zD rfl rfl) ?_ | refine zd rfl (zB rfl rfl) ?_ | refine zd rfl (zq rfl rfl rfl) ?_ | refine zJ rfl rfl rfl rfl ?_ | refine zb rfl rfl rfl rfl (Yld.add rfl rfl (by simp only [In]; omega)) ?_ | refine zb rfl rfl rfl rfl (Yld.sub rfl rfl (by simp only [In]; omega)) ?_ | refine zb rfl rfl rfl rfl (zC rfl rfl (by simp only [In]; omega)) ?_ | refine zb rfl rfl rfl rfl (zr qH rfl rfl rfl rfl) ?_ | refine zb rfl rfl rfl rfl (zu qH rfl rfl rfl (by simp only [In]; omega)) ?_ | refine zb rfl rfl rfl rfl (zz rfl rfl (by omega) (by omega) (by simp only [In]; omega)) ?_ | refine zb rfl rfl rfl rfl (zA rfl rfl (by omega) (by omega)) ?_ | refine zb rfl rfl rfl rfl (zI rfl rfl (by omega)) ?_ | refine zb rfl rfl rfl rfl (zG rfl rfl (by omega)) ?_ | refine zb rfl rfl rfl rfl (ze qH rfl) ?_ | refine zb rfl rfl rfl rfl (zF qJ rfl rfl rfl) ?_ | refine zb rfl rfl rfl rfl (zD rfl rfl) ?_ | refine zb rfl rfl rfl rfl (zB rfl rfl) ?_ | refine zb rfl rfl rfl rfl (zq rfl rfl rfl) ?_)
   have hzz:(bif nb then -(val o:Int) else (val o:Int))=(bif na then -(val la:Int) else (val la:Int))+(bif nb then -(val lb:Int) else (val lb:Int)):=by cases na <;> cases nb <;> simp at h |- <;> omega
   rw [hzz] at hN
   exact qc qH rfl rfl rfl hB7 rfl ⟨(hN.stored hB46 jk hg7).mono (by omega),jp (qI hg13 hg36) hg7 (by omega),fun _ _ _ _ e_ q_ hq_=>⟨Nat.le_trans hg13.size (hf5 q_ (hLm _ _ _ _ e_ q_ hq_)).1,Nat.lt_of_lt_of_le (hf5 q_ (hLm _ _ _ _ e_ q_ hq_)).2 (Nat.le_trans hg6.size hg7.size)⟩⟩
end
 
section
open Go Go.RowKit
attribute [local irreducible] WL WC WX WQ WK WJ Yld Eff Ef0 Fn
section
variable {w w':World} {a b v:Value} {z:Int} {m:Nat} {p p' row:Option Nat} {ps:List (Option Nat)}
theorem Nm.one1 (h:Nm w (.agg ⟨[a,b]⟩) z m):a.oneCell'=true:=by
 obtain ⟨_,_,e,h1,_⟩:=h.agg
 injection e with e; injection e with e; injection e with e1 e
 rw [e1]; exact h1
theorem Nm.one2 (h:Nm w (.agg ⟨[a,b]⟩) z m):b.oneCell'=true:=by
 obtain ⟨_,_,e,_,h1⟩:=h.agg
 injection e with e; injection e with e; injection e with _ e; injection e with e2 _
 rw [e2]; exact h1
def NmD (v:Value) (p:Option Nat):Prop:=∀ (neg:Bool) (A:Option Addr) (c:Nat) (l:List Nat),v=.agg ⟨[.bool neg,.slice A l.length c]⟩->Dn l (blk A) p
theorem NmD.none:NmD v none:=fun _ _ _ _ _=>Dn.nr
theorem Nm.goD (h:Nm w v z m) (hg:w.grownBy w' row) (d:NmD v row):Nm w' v z m:=by
 obtain ⟨neg,A,c,l,h1,h2,h3⟩:=h
 exact ⟨neg,A,c,l,h1,h2.go hg (d _ _ _ _ h1),h3⟩
theorem Nm.ltD (h:Nm w v z m) {neg:Bool} {A:Option Addr} {c:Nat} {l:List Nat} (e:v=.agg ⟨[.bool neg,.slice A l.length c]⟩) (hl:l≠[]):Lt (blk A) w.heap.size:=by
 obtain ⟨neg',A',c',l',h1,h2,_⟩:=h
 rw [e] at h1
 injection h1 with h1; injection h1 with h1; injection h1 with _ h1; injection h1 with h1 _; injection h1 with h1 h3 _
 subst h1
 refine h2.lt' fun e2=>hl (List.length_eq_zero_iff.1 ?_)
 rw [h3,e2]; rfl
theorem Nm.appD (h:Nm w v z m) (d:NmD v p) (hk:∀ g,p'=some g->p=some g∨w.heap.size<=g):NmD v p':=fun neg A c l e=>Dn.app (d neg A c l e) (fun hl=>h.ltD e hl) hk
theorem Nm.small (h:Nm w v z m) (hz : -1000000000000000000000000000<z/\z<1000000000000000000000000000):Nm w v z 3:=by
 obtain ⟨neg,A,c,l,h1,h2,hD,hC,hl,hn,h7⟩:=h
 refine ⟨neg,A,c,l,h1,h2,hD,hC,?_,hn,h7⟩
 rcases Nat.lt_or_ge 3 l.length with h4 | h4
 ·exfalso
  have h5:=val_ge hC (by intro e; rw [e] at h4; simp at h4)
  have h6:1000000000 ^ 3<=1000000000 ^ (l.length - 1):=Nat.pow_le_pow_right (by omega) (by omega)
  have h8:(1000000000:Nat) ^ 3=1000000000000000000000000000:=by decide
  rw [h8] at h6
  cases neg <;> simp at h7 <;> omega
 ·exact h4
end
theorem intV_fn {w:World} {a b:Value} (ha:a.oneCell'=true) (hb:b.oneCell'=true):Fn Tryz.prog 69 ⟨[.agg ⟨[a,b]⟩]⟩ w fun v w'=>v=.iface 208 (.agg ⟨[a,b]⟩)/\w.grownBy w' none:=by
 refine Fn.enter (by kernel_rfl) Tryz.func69 rfl Tryz.ntmps69 rfl ?_
 repeat (first | refine zg ?_ | refine WC.block ?_ | refine zc ?_ | refine zh ?_ | refine za ?_ | refine zt ?_ | refine zy ?_ | refine zx ?_ | refine zm ?_ | refine zi ?_ | refine zf ?_ | refine zn ?_ | refine zk ?_ | refine zl rfl ?_ | refine zv ?_ | refine zw ?_ | refine zj ?_ | refine zp ?_ | refine zo ?_ | refine zd rfl (Yld.add rfl rfl (by simp only [In]; omega)) ?_ | refine zd rfl (Yld.sub rfl rfl (by simp only [In]; omega)) ?_ | refine zd rfl (zC rfl rfl (by simp only [In]; omega)) ?_ | refine zd rfl (zr qH rfl rfl rfl rfl) ?_ | refine zd rfl (zu qH rfl rfl rfl (by simp only [In]; omega)) ?_ | refine zd rfl (zz rfl rfl (by omega) (by omega) (by simp only [In]; omega)) ?_ | refine zd rfl (zA rfl rfl (by omega) (by omega)) ?_ | refine zd rfl (zI rfl rfl (by omega)) ?_ | refine zd rfl (zG rfl rfl (by omega)) ?_ | refine zd rfl (ze qH rfl) ?_ | refine zd rfl (zF qJ rfl rfl rfl) ?_ | refine zd rfl (zD rfl rfl) ?_ | refine zd rfl (zB rfl rfl) ?_ | refine zd rfl (zq rfl rfl rfl) ?_ | refine zJ rfl rfl rfl rfl ?_ | refine zb rfl rfl rfl rfl (Yld.add rfl rfl (by simp only [In]; omega)) ?_ | refine zb rfl rfl rfl rfl (Yld.sub rfl rfl (by simp only [In]; omega)) ?_ | refine zb rfl rfl rfl rfl (zC rfl rfl (by simp only [In]; omega)) ?_ | refine zb rfl rfl rfl rfl (zr qH rfl rfl rfl rfl) ?_ | refine zb rfl rfl rfl rfl (zu qH rfl rfl rfl (by simp only [In]; omega)) ?_ | refine zb rfl rfl rfl rfl (zz rfl rfl (by omega) (by omega) (by simp only [In]; omega)) ?_ | refine zb rfl rfl rfl rfl (zA rfl rfl (by omega) (by omega)) ?_ | refine zb rfl rfl rfl rfl (zI rfl rfl (by omega)) ?_ | refine zb rfl rfl rfl rfl (zG rfl rfl (by omega)) ?_ | refine zb rfl rfl rfl rfl (ze qH rfl) ?_ | refine zb rfl rfl rfl rfl (zF qJ rfl rfl rfl) ?_ | refine zb rfl rfl rfl rfl (zD rfl rfl) ?_ | refine zb rfl rfl rfl rfl (zB rfl rfl) ?_ | refine zb rfl rfl rfl rfl (zq rfl rfl rfl) ?_)
 refine z4 (us:=[a,b]) rfl rfl rfl (fun g w2 hB hg hl=>?_)
 repeat (first | refine zg ?_ | refine WC.block ?_ | refine zc ?_ | refine zh ?_ | refine za ?_ | refine zt ?_ | refine zy ?_ | refine zx ?_ | refine zm ?_ | refine zi ?_ | refine zf ?_ | refine zn ?_ | refine zk ?_ | refine zl rfl ?_ | refine zv ?_ | refine zw ?_ | refine zj ?_ | refine zp ?_ | refine zo ?_ | refine zd rfl (Yld.add rfl rfl (by simp only [In]; omega)) ?_ | refine zd rfl (Yld.sub rfl rfl (by simp only [In]; omega)) ?_ | refine zd rfl (zC rfl rfl (by simp only [In]; omega)) ?_ | refine zd rfl (zr qH rfl rfl rfl rfl) ?_ | refine zd rfl (zu qH rfl rfl rfl (by simp only [In]; omega)) ?_ | refine zd rfl (zz rfl rfl (by omega) (by omega) (by simp only [In]; omega)) ?_ | refine zd rfl (zA rfl rfl (by omega) (by omega)) ?_ | refine zd rfl (zI rfl rfl (by omega)) ?_ | refine zd rfl (zG rfl rfl (by omega)) ?_ | refine zd rfl (ze qH rfl) ?_ | refine zd rfl (zF qJ rfl rfl rfl) ?_ | refine zd rfl (zD rfl rfl) ?_ | refine zd rfl (zB rfl rfl) ?_ | refine zd rfl (zq rfl rfl rfl) ?_ | refine zJ rfl rfl rfl rfl ?_ | refine zb rfl rfl rfl rfl (Yld.add rfl rfl (by simp only [In]; omega)) ?_ | refine zb rfl rfl rfl rfl (Yld.sub rfl rfl (by simp only [In]; omega)) ?_ | refine zb rfl rfl rfl rfl (zC rfl rfl (by simp only [In]; omega)) ?_ | refine zb rfl rfl rfl rfl (zr qH rfl rfl rfl rfl) ?_ | refine zb rfl rfl rfl rfl (zu qH rfl rfl rfl (by simp only [In]; omega)) ?_ | refine zb rfl rfl rfl rfl (zz rfl rfl (by omega) (by omega) (by simp only [In]; omega)) ?_ | refine zb rfl rfl rfl rfl (zA rfl rfl (by omega) (by omega)) ?_ | refine zb rfl rfl rfl rfl (zI rfl rfl (by omega)) ?_ | refine zb rfl rfl rfl rfl (zG rfl rfl (by omega)) ?_ | refine zb rfl rfl rfl rfl (ze qH rfl) ?_ | refine zb rfl rfl rfl rfl (zF qJ rfl rfl rfl) ?_ | refine zb rfl rfl rfl rfl (zD rfl rfl) ?_ | refine zb rfl rfl rfl rfl (zB rfl rfl) ?_ | refine zb rfl rfl rfl rfl (zq rfl rfl rfl) ?_)
 refine zd rfl (zO (vs:=[a,b]) qH hB rfl rfl rfl rfl) ?_
 refine zd rfl (z3 (us:=[a,b]) (vs:=[(1,.agg ⟨[a,b]⟩)]) zero208 places208 rfl rfl) ?_
 refine zd rfl (Yld.mki Tryz.underlying208 rfl rfl) ?_
 repeat (first | refine zg ?_ | refine WC.block ?_ | refine zc ?_ | refine zh ?_ | refine za ?_ | refine zt ?_ | refine zy ?_ | refine zx ?_ | refine zm ?_ | refine zi ?_ | refine zf ?_ | refine zn ?_ | refine zk ?_ | refine zl rfl ?_ | refine zv ?_ | refine zw ?_ | refine zj ?_ | refine zp ?_ | refine zo ?_ | refine zd rfl (Yld.add rfl rfl (by simp only [In]; omega)) ?_ | refine zd rfl (Yld.sub rfl rfl (by simp only [In]; omega)) ?_ | refine zd rfl (zC rfl rfl (by simp only [In]; omega)) ?_ | refine zd rfl (zr qH rfl rfl rfl rfl) ?_ | refine zd rfl (zu qH rfl rfl rfl (by simp only [In]; omega)) ?_ | refine zd rfl (zz rfl rfl (by omega) (by omega) (by simp only [In]; omega)) ?_ | refine zd rfl (zA rfl rfl (by omega) (by omega)) ?_ | refine zd rfl (zI rfl rfl (by omega)) ?_ | refine zd rfl (zG rfl rfl (by omega)) ?_ | refine zd rfl (ze qH rfl) ?_ | refine zd rfl (zF qJ rfl rfl rfl) ?_ | refine zd rfl (zD rfl rfl) ?_ | refine zd rfl (zB rfl rfl) ?_ | refine zd rfl (zq rfl rfl rfl) ?_ | refine zJ rfl rfl rfl rfl ?_ | refine zb rfl rfl rfl rfl (Yld.add rfl rfl (by simp only [In]; omega)) ?_ | refine zb rfl rfl rfl rfl (Yld.sub rfl rfl (by simp only [In]; omega)) ?_ | refine zb rfl rfl rfl rfl (zC rfl rfl (by simp only [In]; omega)) ?_ | refine zb rfl rfl rfl rfl (zr qH rfl rfl rfl rfl) ?_ | refine zb rfl rfl rfl rfl (zu qH rfl rfl rfl (by simp only [In]; omega)) ?_ | refine zb rfl rfl rfl rfl (zz rfl rfl (by omega) (by omega) (by simp only [In]; omega)) ?_ | refine zb rfl rfl rfl rfl (zA rfl rfl (by omega) (by omega)) ?_ | refine zb rfl rfl rfl rfl (zI rfl rfl (by omega)) ?_ | refine zb rfl rfl rfl rfl (zG rfl rfl (by omega)) ?_ | refine zb rfl rfl rfl rfl (ze qH rfl) ?_ | refine zb rfl rfl rfl rfl (zF qJ rfl rfl rfl) ?_ | refine zb rfl rfl rfl rfl (zD rfl rfl) ?_ | refine zb rfl rfl rfl rfl (zB rfl rfl) ?_ | refine zb rfl rfl rfl rfl (zq rfl rfl rfl) ?_)
 exact zM rfl rfl ⟨rfl,hg⟩
def kd (r_from:Int) (m_r_from:Nat) (r_to:Int) (m_r_to:Nat) (r_step:Int) (m_r_step:Nat) (r_n:Int) (i:Int) (K:PV->Prop):Prop :=
 (m_r_from<=3/\m_r_step<=3)/\(-9223372036854775808<=i/\i<=9223372036854775807)/\(-1000000000000000000000000000<r_from+r_step*i/\r_from+r_step*i<1000000000000000000000000000)/\K (.int (r_from+r_step*i))
theorem W_plist_span_item {w:World} {g_r:Nat} {v_r_from:Value} {v_r_from2:Value} {r_from:Int} {m_r_from:Nat} {v_r_to:Value} {v_r_to2:Value} {r_to:Int} {m_r_to:Nat} {v_r_step:Value} {v_r_step2:Value} {r_step:Int} {m_r_step:Nat} {r_n:Int} {i:Int} {K:PV->Prop} (hr_from:Nm w (.agg ⟨[v_r_from,v_r_from2]⟩) r_from m_r_from) (_hr_to:Nm w (.agg ⟨[v_r_to,v_r_to2]⟩) r_to m_r_to) (hr_step:Nm w (.agg ⟨[v_r_step,v_r_step2]⟩) r_step m_r_step) (hr:Bl w g_r 189 [v_r_from,v_r_from2,v_r_to,v_r_to2,v_r_step,v_r_step2,.int .i64 r_n]) (H:kd r_from m_r_from r_to m_r_to r_step m_r_step r_n i K):Fn Tryz.prog 153 ⟨[.pointer (some ⟨g_r,0,none⟩),.int .i64 i]⟩ w (fun v w'=>w.grownBy w' none/\∃ (v_r:OV),∃ (F_r:Nat->Prop),∃ (r:PV),v=v_r.1/\RelD deV w' [(v_r,F_r)] [r]/\(∀ p:Option Nat,Lt p w.heap.size->DnD deV [(v_r,F_r)] [r] p)/\K r):=by
 obtain ⟨⟨hm1,hm2⟩,hi,hz,hK⟩:=H
 refine Fn.enter (by kernel_rfl) Tryz.func153 rfl Tryz.ntmps153 rfl ?_
 refine zg ?_
 refine zc ?_
 refine zd rfl (ze qH rfl) ?_
 refine zh (za ?_)
 refine zg ?_
 refine zY (fun k => !(Nat.beq k 9 || Nat.beq k 10 || Nat.beq k 11 || Nat.beq k 12)) (LD [3,7] (fun w'=>Bl w' g_r 189 [v_r_from,v_r_from2,v_r_to,v_r_to2,v_r_step,v_r_step2,.int .i64 r_n])) jg (by kernel_rfl) (fun k w' h _=>(jz h hr)) ?_
 refine zL rfl rfl (fun w' hw'=>ze qH rfl) ?_
 refine zL rfl rfl (fun w' hw'=>ze qH rfl) ?_
 refine zL rfl rfl (fun w' hw'=>zX (o:=0) (by kernel_rfl) rfl) ?_
 refine zL rfl rfl (fun w' hw'=>zO (vs:=[v_r_from,v_r_from2]) qH (hw' rfl) rfl rfl rfl rfl) ?_
 refine zL rfl rfl (fun w' hw'=>ze qH rfl) ?_
 refine zL rfl rfl (fun w' hw'=>ze qH rfl) ?_
 refine zL rfl rfl (fun w' hw'=>zX (o:=4) (by kernel_rfl) rfl) ?_
 refine zL rfl rfl (fun w' hw'=>zO (vs:=[v_r_step,v_r_step2]) qH (hw' rfl) rfl rfl rfl rfl) ?_
 refine zL rfl rfl (fun w' hw'=>ze qH rfl) ?_
 refine z9 rfl (qK) rfl rfl (of_fn i w hi.1 hi.2) (fun v w' h w2 e=>DD.keep (Bl.g0 hr (qN h.2 e))) ?_
 rintro u1 w1 ⟨hN1,hg1⟩
 refine z9 rfl (qK) rfl rfl (mul_nm _ _ _ _ 3 w1 ((hr_step.grown hg1).mono hm2) hN1 (by omega)) (fun v w' h w2 e=>DD.keep (Bl.g0 (hr.g0 hg1) (qN h.2 e))) ?_
 rintro u2 w2 ⟨hN2,hg2⟩
 have gr2:=qI hg1 hg2
 refine z9 rfl (qK) rfl rfl (addF_fn _ _ _ _ 6 w2 ((hr_from.grown gr2).mono (by omega)) hN2 (by omega)) (fun v w' h w2 e=>DD.keep (Bl.g0 (hr.g0 gr2) (qN h.2.1 e))) ?_
 rintro u3 w3 ⟨hN3,hg3,hL3⟩
 have gr3:=qI gr2 hg3
 obtain ⟨a,b,rfl,ha,hb⟩:=hN3.agg
 refine z9 rfl (qK) rfl rfl (intV_fn ha hb) (fun v w' h w2 e=>DD.keep (Bl.g0 (hr.g0 gr3) (qN h.2 e))) ?_
 rintro u4 w4 ⟨rfl,hg4⟩
 have gr4:=qI gr3 hg4
 refine zL rfl rfl (fun w' hw'=>ze qH rfl) ?_
 refine qh (za ?_)
 refine zx ?_
 refine zM rfl rfl ⟨gr4,⟨.iface 208 (.agg ⟨[a,b]⟩),rfl⟩,fun q=>w.heap.size<=q/\q<w4.heap.size,.int (r_from+r_step*i),rfl,RelD.cons ⟨⟨a,b,rfl,(hN3.small hz).grown hg4,?_⟩,fun q hq=>hq.2⟩ RelD.nil,fun p hp=>DnD.cons (fun q e hq=>?_) DnD.nil,hK⟩
 ·intro neg A k c e q hq
  have:=hL3 neg A k c e q hq
  have:=gr2.size
  have:=hg4.size
  omega
 ·have:=hp q e
  omega
end
 
section
open Go Go.RowKit
structure HasD (N:Nat) (ds:List Deferred) (L:qP) (a:Act):Prop where
 size:a.tmps.size=N
 defers:a.defers=ds
 get:∀ t v,lk L t=some v->a.tmps.getD t undef=v
def noD (a:Act):Act:={ a with defers:=[] }
section
variable {N:Nat} {ds:List Deferred} {L L':qP} {a:Act}
theorem HasD.has (h:HasD N ds L a):Has N L (noD a):=⟨h.size,rfl,h.get⟩
theorem eval_noD:(noD a).eval=a.eval:=by
 funext x
 cases x <;> rfl
theorem HasD.ev {x:Operand} {v:Value} (h:HasD N ds L a) (hx:opv L x=some v):a.eval x=v:=by rw [<-eval_noD]; exact h.has.ev hx
theorem HasD.evs {xs:List Operand} {vs:List Value} (h:HasD N ds L a) (hx:opvs L xs=some vs):xs.map a.eval=vs:=by rw [<-eval_noD]; exact h.has.evs hx
theorem HasD.put (h:HasD N ds L a) {d:Nat} (hd:Nat.blt d N=true) (v:Value):HasD N ds ((d,v) :: L) (a.put (some d) v) :=
 ⟨(h.has.put hd v).size,h.defers,(h.has.put hd v).get⟩
theorem HasD.sub (h:HasD N ds L a) (hs:Sub L L'):HasD N ds L' a:=⟨h.size,h.defers,fun t v ht=>h.get t v (hs t v ht)⟩
end
def DL (P:Program) (N:Nat) (ds:List Deferred) (ops:Array Oper) (Q:Post) (l:List Oper) (L:qP) (w:World):Prop:=∀ a w1,Eqv w w1->HasD N ds L a->wpList P ops Q l a w1
def DC (P:Program) (N:Nat) (ds:List Deferred) (Q:Post) (c:Code) (L:qP) (w:World):Prop:=∀ a w1,Eqv w w1->HasD N ds L a->c.wp P Q a w1
def DX (N:Nat) (ds:List Deferred) (Q:Post) (e:Exit) (L:qP) (w:World):Prop:=∀ a w1,Eqv w w1->HasD N ds L a->Q e a w1
def dfr (g:FuncId) (vs:List Value):List Deferred:=[{ target:=.fn (.func g) #[],args:=⟨vs⟩ }]
section rules
variable {P:Program} {N:Nat} {ds:List Deferred} {ops:Array Oper} {Q:Post} {L:qP} {w:World} {rest:List Oper} {d:Nat} {ty:TypeId} {pos:String} {af:Array Edge}
theorem WL.dfr {g:FuncId} {ao:List Operand} {ts:Array TypeId} {vs:List Value} (hv:opvs L ao=some vs) (h:DL P N (dfr g vs) ops Q rest L w) :
  WL P N ops Q (⟨none,.defer ⟨.value (.func g),⟨ao⟩,ts⟩,ty,pos,af,none⟩ :: rest) L w:=fun a w1 e ha =>
 wpList_plain rfl fun K hK=>by
  have hm:(⟨ao⟩:Array Operand).map a.eval=⟨vs⟩:=by rw [<-ha.evs hv]; simp
  have hrun:(execOp a.eval ⟨none,.defer ⟨.value (.func g),⟨ao⟩,ts⟩,ty,pos,af,none⟩).run P w1=.ok (.defer { target:=.fn (.func g) #[],args:=⟨vs⟩ }) w1:=by
   unfold execOp
   simp only [resolve,Act.eval,hm,Deferred.ofValue,Sem.run_bind,Sem.run_pure,Result.andThen_ok]
   simp
  unfold Oper.wp
  rw [hrun]
  refine hK _ _ (h _ _ e ⟨ha.size,?_,ha.get⟩)
  show _ :: a.defers=_
  rw [ha.defers]; rfl
theorem DL.y {op:Op} {v:Value} (hd:Nat.blt d N=true) (hy:Yld P N w ⟨some d,op,ty,pos,af,none⟩ L v) (h:DL P N ds ops Q rest ((d,v) :: L) w):DL P N ds ops Q (⟨some d,op,ty,pos,af,none⟩ :: rest) L w:=fun a w1 e ha =>
 wpList_plain rfl fun K hK=>by
  unfold Oper.wp
  rw [<-eval_noD,hy _ w1 e ha.has]
  exact hK _ _ (h _ _ e (ha.put hd v))
theorem DL.put {op:Op} {R:Value->World->Prop} (hd:Nat.blt d N=true) (hr:Eff P N w ⟨some d,op,ty,pos,af,none⟩ L R) (hk:∀ v w',R v w'->DL P N ds ops Q rest ((d,v) :: L) w'):DL P N ds ops Q (⟨some d,op,ty,pos,af,none⟩ :: rest) L w:=fun a w1 e ha =>
 wpList_plain rfl fun K hK=>by
  obtain ⟨v,w',h,hR⟩:=hr _ w1 e ha.has
  unfold Oper.wp
  rw [<-eval_noD,h]
  exact hK _ _ (hk v w' hR _ w' (Eqv.refl _) (ha.put hd v))
theorem DL.call {R:Value->World->Prop} {g:FuncId} {ao:List Operand} {ts:Array TypeId} {vs:List Value} (hd:Nat.blt d N=true) (hv:opvs L ao=some vs) (hf:Fn P g ⟨vs⟩ w R) (hk:∀ v w',R v w'->DL P N ds ops Q rest ((d,v) :: L) w') :
  DL P N ds ops Q (⟨some d,.call ⟨.value (.func g),⟨ao⟩,ts⟩,ty,pos,af,none⟩ :: rest) L w:=fun a w1 e ha =>
 wpList_plain rfl fun K hK=>by
  have hm:(⟨ao⟩:Array Operand).map a.eval=⟨vs⟩:=by rw [<-ha.evs hv]; simp
  obtain ⟨hgo,hC⟩:=hf
  unfold goesIn at hgo
  split at hgo
  ·rename_i fn hfn
   simp only [Bool.and_eq_true,Bool.not_eq_true'] at hgo
   have hnone:fn.body.isNone=false:=by cases hb:fn.body <;> simp_all
   have hrun:(execOp a.eval ⟨some d,.call ⟨.value (.func g),⟨ao⟩,ts⟩,ty,pos,af,none⟩).run P w1=.ok (.enter g ⟨vs⟩) w1:=by
    unfold execOp
    simp only [resolve,Act.eval,hm,Deferred.ofValue,Sem.run_bind,Sem.run_pure,Result.andThen_ok,invoke,callFunc,program,Sem.run,hfn,hgo.1,hnone,Bool.false_eq_true,if_false]
    simp
   unfold Oper.wp
   rw [hrun]
   refine (hC w1 e).mono ?_
   rintro en w' ⟨v,w0,rfl,h0,hR⟩
   exact hK _ _ (hk v w0 hR _ w' h0 (ha.put hd v))
  ·cases hgo
theorem DL.lit {T:Tab} {us:List Value} {t:TypeId} {e b m:Nat} {ps:List (Nat × Operand)} (hT:T.Ok P) (hd:Nat.blt d N=true) (hs:nk T.ow t=some (e,b)) (hp:partsV L 0 ps=some us) (h1:∀ u∈us,u.oneCell'=true) (hm:us.length=m) (hm2:m<=16777216)
  (hk:∀ g w',Bl w' g e us->w.grownBy w' none->w.heap.size<=g->DL P N ds ops Q rest ((d,.slice (some ⟨g,0,none⟩) m m) :: L) w') :
  DL P N ds ops Q (⟨some d,.buildSlice t m ⟨ps⟩,ty,pos,af,none⟩ :: rest) L w :=
 DL.put (R:=fun v w'=>v=.slice (some ⟨w.heap.size,0,none⟩) m m/\Bl w' w.heap.size e us/\w.grownBy w' none) hd (Eff.lit hT hs hp h1 hm hm2) (fun v w' ⟨hv,hb,hg⟩=>by subst hv; exact hk _ _ hb hg (Nat.le_refl _))
theorem DL.append {α:Type} {f:α->Value} {T:Tab} {t:TypeId} {x y:Operand} {A:Option Addr} {c n B e:Nat} {xs:List α} {A2:Option Addr} {c2 n2:Nat} {ys:List α} {b:Nat} (hT:T.Ok P) (hd:Nat.blt d N=true) (hs:nk T.ow t=some (e,b)) (hf:One f) (hO:Own f w B e A c xs) (hx:opv L x=some (.slice A n c)) (hn:n=xs.length) (hR:Rd f w A2 c2 ys) (hy:opv L y=some (.slice A2 n2 c2)) (hn2:n2=ys.length)
  (hl:(xs.length+ys.length)*b<=140737488355328) (h63:xs.length+ys.length<=maxLen) (hB:B<=w.heap.size)
  (hk:∀ A' c' w',Own f w' B e A' c' (xs++ys)->w.grownBy w' (blk A)->(∀ g,blk A'=some g->blk A=some g∨w.heap.size<=g)->DL P N ds ops Q rest ((d,.slice A' (xs++ys).length c') :: L) w') :
  DL P N ds ops Q (⟨some d,.call ⟨.builtin .append,⟨[x,y]⟩,⟨[t,t]⟩⟩,ty,pos,af,none⟩ :: rest) L w :=
 DL.put (R:=fun v w'=>∃ A' c',v=.slice A' (xs++ys).length c'/\Own f w' B e A' c' (xs++ys)/\w.grownBy w' (blk A)/\(∀ g,blk A'=some g->blk A=some g∨w.heap.size<=g)) hd (Eff.append hT hs hf hO hx hn hR hy hn2 hl h63 hB) (fun v w' ⟨A',c',hv,h1,h2,h3⟩=>by subst hv; exact hk A' c' w' h1 h2 h3)
theorem DL.nil (h:DX N ds Q .normal L w):DL P N ds ops Q [] L w:=fun a w1 e ha=>wpList_nil (h a w1 e ha)
theorem DC.seq {x y:Code} (h:DC P N ds (Exit.then (y.wp P Q) Q) x L w):DC P N ds Q (.seq x y) L w:=fun a w1 e ha=>wp_seq (h a w1 e ha)
theorem DC.block {i:Nat} {c:Code} (h:DC P N ds (Exit.inBlock i Q) c L w):DC P N ds Q (.block i c) L w:=fun a w1 e ha=>wp_block (h a w1 e ha)
theorem DC.skip (h:DX N ds Q .normal L w):DC P N ds Q .skip L w:=fun a w1 e ha=>wp_skip (h a w1 e ha)
theorem DC.exit {i:Nat} (h:DX N ds Q (.exit i) L w):DC P N ds Q (.exit i) L w:=fun a w1 e ha=>wp_exit (h a w1 e ha)
theorem DC.ret (h:DX N ds Q .ret L w):DC P N ds Q .ret L w:=fun a w1 e ha=>wp_ret (h a w1 e ha)
theorem DC.region {i:Nat} {l:List Oper} (h:DL P N ds l.toArray Q l L w):DC P N ds Q (.region i l.toArray false) L w:=fun a w1 e ha=>wp_region_lit (h a w1 e ha)
theorem DC.cond {c:Operand} {x y:Code} {b:Bool} (hc:opv L c=some (.bool b)) (ht:b=true->DC P N ds Q x L w) (hf:b=false->DC P N ds Q y L w):DC P N ds Q (.cond c x y) L w:=fun a w1 e ha=>by
 refine wp_cond (t:=b) (ha.ev hc) ?_
 cases b with
 | true=>exact ht rfl a w1 e ha
 | false=>exact hf rfl a w1 e ha
theorem DX.then_normal {y:Code} (h:DC P N ds Q y L w):DX N ds (Exit.then (y.wp P Q) Q) .normal L w:=h
theorem DX.then_exit {K:Act->World->Prop} {i:Nat} (h:DX N ds Q (.exit i) L w):DX N ds (Exit.then K Q) (.exit i) L w:=h
theorem DX.block_normal {i:Nat} (h:DX N ds Q .normal L w):DX N ds (Exit.inBlock i Q) .normal L w:=h
theorem DX.block_same {i:Nat} (h:DX N ds Q .normal L w):DX N ds (Exit.inBlock i Q) (.exit i) L w:=fun a w1 e ha=>by
 show if i=i then _ else _
 rw [if_pos rfl]; exact h a w1 e ha
theorem DX.weaken {e:Exit} {L':qP} (hs:Sub L L') (h:DX N ds Q e L' w):DX N ds Q e L w:=fun a w1 k ha=>h a w1 k (ha.sub hs)
theorem DC.loopF {k:Code} (F:Nat->qP->World->Prop) (n0:Nat) (L0:qP) (h0:F n0 L0 w) (hL:Sub L L0)
  (round:∀ n L w,F n L w->DC P N ds (Exit.then (fun a' w'=>∃ n' L' w0,F n' L' w0/\Eqv w0 w'/\HasD N ds L' a'/\n'<n) Q) k L w):DC P N ds Q (.loop k) L w:=fun a w1 e ha=>by
 have key:∀ n L a w0 w1,F n L w0->Eqv w0 w1->HasD N ds L a->∀ (b:Frame) (t:List Item) (cs:List Frame),
   ∃ e a' w',Q e a' w'/\Arrives P (lone (b.at a (.code k :: .inLoop k :: t)) cs w1) b t cs e a' w':=by
  intro n
  induction n using Nat.strongRecOn with
  | _ n ih =>
   intro L a w0 w1 hI he ha b t cs
   obtain ⟨e,a1,w2,hq,harr⟩:=round n L w0 hI a w1 he ha b (.inLoop k :: t) cs
   cases e with
   | normal =>
    obtain ⟨n',L',w3,hI',he',ha',hlt⟩:=hq
    obtain ⟨e2,a2,w4,hq2,harr2⟩:=ih n' hlt L' a1 w3 w2 hI' he' ha' b t cs
    exact ⟨e2,a2,w4,hq2,.of_steps (Steps.trans harr (.one step_inLoop)) harr2⟩
   | exit id=>exact ⟨_,a1,w2,hq,.pass (x:=.inLoop k) rfl (fun _ _=>.inl (by simp)) harr⟩
   | goto l=>exact ⟨_,a1,w2,hq,.pass (x:=.inLoop k) rfl (fun _ _=>.inl (by simp)) harr⟩
   | ret=>exact ⟨_,a1,w2,hq,.pass (x:=.inLoop k) rfl (fun _ _=>.inl (by simp)) harr⟩
   | panic ch=>exact ⟨_,a1,w2,hq,.pass (x:=.inLoop k) rfl (fun _ _=>.inl (by simp)) harr⟩
   | outgrown=>exact ⟨_,a1,w2,hq,.pass (x:=.inLoop k) rfl (fun _ _=>.inl (by simp)) harr⟩
 intro b t cs
 obtain ⟨e',a',w',hq,harr⟩:=key n0 L0 a w w1 h0 e (ha.sub hL) b t cs
 exact ⟨e',a',w',hq,.of_steps (.one step_loop) harr⟩
theorem DX.roundF {F:Nat->qP->World->Prop} {n n':Nat} (L':qP) (hI:F n' L' w) (hL:Sub L L') (hm:n'<n) :
  DX N ds (Exit.then (fun a' w'=>∃ n' L' w0,F n' L' w0/\Eqv w0 w'/\HasD N ds L' a'/\n'<n) Q) .normal L w:=fun _ _ e ha=>⟨n',L',w,hI,e,ha.sub hL,hm⟩
def FnQ (P:Program) (f:FuncId) (args:Array Value) (w:World) (R:Value->World->Prop):Prop :=
 goesIn P f=true/\∀ w1,Eqv w w1->CallsD P f args .returning w1 fun e u' w'=>u'=.returning/\∃ v w0,e=.returned v/\Eqv w0 w'/\R v w0
theorem FnQ.enter {g:FuncId} {fn:Func} {c:Code} {args:List Value} {R:Value->World->Prop} (hgo:goesIn P g=true) (hf:P.funcs[g]? = some fn) (hb:fn.body=some c) (hN:fn.ntmps=N) (ha:Nat.ble args.length N=true)
  (h:WC P N (RetPost P fn R) c (slotsOf args 0) w):FnQ P g ⟨args⟩ w R :=
 ⟨hgo,fun w1 e=>callsD_of_wp hf hb (h _ w1 e (by
  have hle:args.length<=N:=Nat.le_of_ble_eq_true ha
  refine ⟨by simp [hN]; omega,rfl,fun t v ht=>?_⟩
  obtain ⟨_,h2⟩:=slotsOf_get args 0 t v ht
  have hlt:t<args.length:=by
   rcases Nat.lt_or_ge t args.length with h | h
   ·exact h
   ·rw [List.getElem?_eq_none (by omega)] at h2; cases h2
  have h3:args[t]=v:=by
   rw [Nat.sub_zero,List.getElem?_eq_getElem hlt] at h2
   exact Option.some.inj h2
  rw [Array.getD_eq_getD_getElem?,Array.getElem?_append_left (by simpa using hlt)]
  simp [hlt,h3]))⟩
def RetPostD (P:Program) (fn:Func) (R:Value->World->Prop):Post:=bodyPostD P fn fun e w'=>∃ v w0,e=.returned v/\Eqv w0 w'/\R v w0
theorem Fn.enterD {g:FuncId} {fn:Func} {c:Code} {args:List Value} {R:Value->World->Prop} (hgo:goesIn P g=true) (hf:P.funcs[g]? = some fn) (hb:fn.body=some c) (hN:fn.ntmps=N) (ha:Nat.ble args.length N=true)
  (h:WC P N (RetPostD P fn R) c (slotsOf args 0) w):Fn P g ⟨args⟩ w R :=
 ⟨hgo,fun w1 e=>calls_of_wp_defers hf hb (h _ w1 e (by
  have hle:args.length<=N:=Nat.le_of_ble_eq_true ha
  refine ⟨by simp [hN]; omega,rfl,fun t v ht=>?_⟩
  obtain ⟨_,h2⟩:=slotsOf_get args 0 t v ht
  have hlt:t<args.length:=by
   rcases Nat.lt_or_ge t args.length with h | h
   ·exact h
   ·rw [List.getElem?_eq_none (by omega)] at h2; cases h2
  have h3:args[t]=v:=by
   rw [Nat.sub_zero,List.getElem?_eq_getElem hlt] at h2
   exact Option.some.inj h2
  rw [Array.getD_eq_getD_getElem?,Array.getElem?_append_left (by simpa using hlt)]
  simp [hlt,h3]))⟩
theorem DX.ret2 {fn:Func} {R R0:Value->World->Prop} {g:FuncId} {vs:List Value} {s1 s2:Nat} {v1 v2:Value} (hr:fn.results = #[.tmp s1,.tmp s2]) (h1:lk L s1=some v1) (h2:lk L s2=some v2) (hf:FnQ P g ⟨vs⟩ w R0)
  (hk:∀ v w',R0 v w'->R (.tuple #[v1,v2]) w'):DX N (Go.Proofs.YtjoepdjeekadcaaGreatDoor.dfr g vs) (RetPostD P fn R) .ret L w:=fun a w1 e ha=>by
 show Leaves P fn a.tmps _ a.defers .returning w1
 rw [ha.defers]
 obtain ⟨hgo,hC⟩:=hf
 unfold goesIn at hgo
 split at hgo
 ·rename_i fn' hfn
  simp only [Bool.and_eq_true,Bool.not_eq_true'] at hgo
  have hnone:fn'.body.isNone=false:=by cases hb:fn'.body <;> simp_all
  refine leaves_cons (f:=g) (args:=⟨vs⟩) (by simp) ?_ ?_
  ·simp only [invoke,callFunc,program,Sem.run_bind,Sem.run,Result.andThen_ok,hfn,hgo.1,hnone,Bool.false_eq_true,if_false]
   simp
  ·refine (hC w1 e).mono ?_
   rintro en u' w' ⟨rfl,v,w0,rfl,h0,hR⟩
   have p1:a.tmps[s1]?.getD undef=v1:=by simpa using ha.get s1 _ h1
   have p2:a.tmps[s2]?.getD undef=v2:=by simpa using ha.get s2 _ h2
   exact ⟨.tuple #[v1,v2],by simp [results,hr,p1,p2],_,w0,rfl,h0,hk v w0 hR⟩
 ·cases hgo
end rules
end
 
section
open Go Go.RowKit
attribute [local irreducible] WL WC WX WQ WK WJ Yld Eff Ef0 Fn
def M_plist_span_Kind (r_from:Int) (m_r_from:Nat) (r_to:Int) (m_r_to:Nat) (r_step:Int) (m_r_step:Nat) (r_n:Int) (K:Int->Prop):Prop :=
 K (11:Int)
def M_plist_span_Many (r_from:Int) (m_r_from:Nat) (r_to:Int) (m_r_to:Nat) (r_step:Int) (m_r_step:Nat) (r_n:Int) (K:Int->Prop):Prop :=
 K r_n
def M_val_asInt (v_:PV) (K:Int->Nat->Bool->Prop):Prop :=
 ((∀ z:Int,v_=PV.int z->K z 3 true) /\
 ((∀ z,v_≠PV.int z)->K 0 0 false))
def M_val_AsInt (v_:PV) (K:Int->Nat->Bool->Prop):Prop :=
 M_val_asInt v_ (fun (t50:Int) (m_t50:Nat) (t51:Bool) =>
 K t50 m_t50 t51)
def M_plist_span_has (r_from:Int) (m_r_from:Nat) (r_to:Int) (m_r_to:Nat) (r_step:Int) (m_r_step:Nat) (r_n:Int) (x:PV) (K:Bool->Prop):Prop :=
 M_val_AsInt x (fun (t150:Int) (m_t150:Nat) (t151:Bool) =>
 ((((!t151) || (decide (r_n=(0:Int))))=true->K false) /\
 (((!t151) || (decide (r_n=(0:Int))))=false->∃ J1:Int->Nat->Bool->Prop,(ks t150 m_t150 r_from m_r_from (fun (t33:Int) (m_t33:Nat) =>
 M_num_Num_Div t33 m_t33 r_step m_r_step (fun (t380:Int) (m_t380:Nat) (t381:Bool) =>
 J1 t380 m_t380 t381))) /\
 (∀ t380:Int,∀ m_t380:Nat,∀ t381:Bool,J1 t380 m_t380 t381->∃ J2:Int->Nat->Bool->Prop,(ks t150 m_t150 r_from m_r_from (fun (t47:Int) (m_t47:Nat) =>
 M_num_Num_Mod t47 m_t47 r_step m_r_step (fun (t520:Int) (m_t520:Nat) (t521:Bool) =>
 J2 t520 m_t520 t521))) /\
 (∀ t520:Int,∀ m_t520:Nat,∀ t521:Bool,J2 t520 m_t520 t521->M_num_Num_Int t380 m_t380 (fun (t570:Int) (t571:Bool) =>
 jJ t520 m_t520 0 0 (fun (t62:Int) =>
 K ((((decide (t62=(0:Int))) && t571) && (decide ((0:Int)<=t570))) && (decide (t570<r_n))))))))))
def M_list_Range (from_:Int) (m_from:Nat) (to_:Int) (m_to:Nat) (step_:Int) (m_step:Nat) (K0:Er->Prop) (K:Int->Nat->Int->Nat->Int->Nat->Int->Er->Prop):Prop :=
 jJ step_ m_step 0 0 (fun (t19:Int) =>
 ((t19=(0:Int)->K0 (Er.e 3)) /\
 (¬ (t19=(0:Int))->∃ J1:Int->Nat->Prop,(ks to_ m_to from_ m_from (fun (t24:Int) (m_t24:Nat) =>
 J1 t24 m_t24)) /\
 (∀ t24:Int,∀ m_t24:Nat,J1 t24 m_t24->∃ J2:Int->Nat->Int->Nat->Prop,(jJ step_ m_step 0 0 (fun (t28:Int) =>
 ((t28<(0:Int)->M_num_Num_Neg t24 m_t24 (fun (t31:Int) (m_t31:Nat) =>
 M_num_Num_Neg step_ m_step (fun (t33:Int) (m_t33:Nat) =>
 J2 t31 m_t31 t33 m_t33))) /\
 (¬ (t28<(0:Int))->J2 t24 m_t24 step_ m_step)))) /\
 (∀ way0:Int,∀ m_way0:Nat,∀ by_0:Int,∀ m_by_0:Nat,J2 way0 m_way0 by_0 m_by_0->jJ way0 m_way0 0 0 (fun (t41:Int) =>
 ((t41<=(0:Int)->K from_ m_from to_ m_to step_ m_step (0:Int) Er.ok) /\
 (¬ (t41<=(0:Int))->∃ J3:Int->Nat->Bool->Prop,(ki (1:Int) (fun (t47:Int) (m_t47:Nat) =>
 ks way0 m_way0 t47 m_t47 (fun (t48:Int) (m_t48:Nat) =>
 M_num_Num_Div t48 m_t48 by_0 m_by_0 (fun (t500:Int) (m_t500:Nat) (t501:Bool) =>
 J3 t500 m_t500 t501)))) /\
 (∀ t500:Int,∀ m_t500:Nat,∀ t501:Bool,J3 t500 m_t500 t501->ki (1:Int) (fun (t55:Int) (m_t55:Nat) =>
 M_num_Num_Add t500 m_t500 t55 m_t55 (fun (t56:Int) (m_t56:Nat) =>
 M_num_Num_Int t56 m_t56 (fun (t570:Int) (t571:Bool) =>
 ((((!t571) || (decide ((1099511627776:Int)<t570)))=true->K0 (Er.e 7)) /\
 (((!t571) || (decide ((1099511627776:Int)<t570)))=false->K from_ m_from to_ m_to step_ m_step t570 Er.ok))))))))))))))
def M_val_hold_span0 (v_from:Int) (m_v_from:Nat) (v_to:Int) (m_v_to:Nat) (v_step:Int) (m_v_step:Nat) (v_n:Int) (by_:Int) (K:Prop):Prop :=
 K
def kn (v_from:Int) (m_v_from:Nat) (v_to:Int) (m_v_to:Nat) (v_step:Int) (m_v_step:Nat) (v_n:Int) (by_:Int) (K:Prop):Prop :=
 M_val_hold_span0 v_from m_v_from v_to m_v_to v_step m_v_step v_n by_ (
 K)
def M_list_Each_span0 (v_from:Int) (m_v_from:Nat) (v_to:Int) (m_v_to:Nat) (v_step:Int) (m_v_step:Nat) (v_n:Int) (K0:Er->Prop) (K:(List PV)->Int->Bool->Bool->Er->Prop):Prop :=
 ∃ J1:Prop,(M_plist_span_Kind v_from m_v_from v_to m_v_to v_step m_v_step v_n (fun (t9:Int) =>
 ∃ J2:Bool->Prop,(((t9=(5:Int)->J2 (decide (t9=(5:Int)))) /\
 (¬ (t9=(5:Int))->((t9=(6:Int)->J2 (decide (t9=(6:Int)))) /\
 (¬ (t9=(6:Int))->J2 (decide (t9=(7:Int)))))))) /\
 (∀ t11:Bool,J2 t11->((t11=true->False) /\
 (t11=false->((t9=(11:Int)->J1) /\
 (¬ (t9=(11:Int))->K0 (Er.e 3)))))))) /\
 (J1->kn v_from m_v_from v_to m_v_to v_step m_v_step v_n (1:Int) (
 K [] (0:Int) false false Er.ok))
def j1 (o_v_from:Int) (m_o_v_from:Nat) (o_v_to:Int) (m_o_v_to:Nat) (o_v_step:Int) (m_o_v_step:Nat) (o_v_n:Int) (o_l:List PV) (o_at:Int) (o_ended:Bool) (o_Paid:Bool) (K:PV->Bool->Int->Bool->Bool->Prop):Prop :=
 (o_l.length<=maxLen ->
 ∃ J1:Prop,(J1) /\
 (J1->(((o_ended || (decide (o_v_n<=o_at)))=true->K PV.nil false o_at o_ended o_Paid) /\
 ((o_ended || (decide (o_v_n<=o_at)))=false->(In .i64 (o_at+(1:Int))) /\
 (In .i64 ((o_at+(1:Int)) - (1:Int))) /\
 kd o_v_from m_o_v_from o_v_to m_o_v_to o_v_step m_o_v_step o_v_n ((o_at+(1:Int)) - (1:Int)) (fun (t2:PV) =>
 K t2 true (o_at+(1:Int)) o_ended o_Paid)))))
def jr (o_v_from:Int) (m_o_v_from:Nat) (o_v_to:Int) (m_o_v_to:Nat) (o_v_step:Int) (m_o_v_step:Nat) (o_v_n:Int) (o_l:List PV) (o_at:Int) (o_ended:Bool) (o_Paid:Bool) (K:PV->Bool->Int->Bool->Bool->Prop):Prop :=
 (o_l.length<=maxLen ->
 j1 o_v_from m_o_v_from o_v_to m_o_v_to o_v_step m_o_v_step o_v_n o_l o_at o_ended o_Paid (fun (t50:PV) (t51:Bool) (o_:Int) (o_2:Bool) (o_3:Bool) =>
 K t50 t51 o_ o_2 o_3))
def j5 (o_v_from:Int) (m_o_v_from:Nat) (o_v_to:Int) (m_o_v_to:Nat) (o_v_step:Int) (m_o_v_step:Nat) (o_v_n:Int) (o_l:List PV) (o_at:Int) (o_ended:Bool) (o_Paid:Bool) (K:Int->Bool->Bool->Prop):Prop :=
 (o_l.length<=maxLen ->
 (((!o_ended)=true->kn o_v_from m_o_v_from o_v_to m_o_v_to o_v_step m_o_v_step o_v_n (-1:Int) (
 K o_at true o_Paid)) /\
 ((!o_ended)=false->K o_at o_ended o_Paid)))
def kv (v_from:Int) (m_v_from:Nat) (v_to:Int) (m_v_to:Nat) (v_step:Int) (m_v_step:Nat) (v_n:Int) (K:Bool->Prop):Prop :=
 M_plist_span_Many v_from m_v_from v_to m_v_to v_step m_v_step v_n (fun (t36:Int) =>
 K (decide ((0:Int)<t36)))
def M_val_Truth_span0 (v_from:Int) (m_v_from:Nat) (v_to:Int) (m_v_to:Nat) (v_step:Int) (m_v_step:Nat) (v_n:Int) (K:Bool->Prop):Prop :=
 kv v_from m_v_from v_to m_v_to v_step m_v_step v_n (fun (t2:Bool) =>
 K t2)
def M_list_size_span0 (v_from:Int) (m_v_from:Nat) (v_to:Int) (m_v_to:Nat) (v_step:Int) (m_v_step:Nat) (v_n:Int) (K:Int->Bool->Prop):Prop :=
 K v_n true
def M_list_place (i:Int) (m_i:Nat) (n:Int) (K:Int->Bool->Prop):Prop :=
 M_num_Num_Int i m_i (fun (t100:Int) (t101:Bool) =>
 ∃ J1:Int->Prop,((((t101 && (decide (t100<(0:Int))))=true->(In .i64 (t100+n)) /\
 J1 (t100+n)) /\
 ((t101 && (decide (t100<(0:Int))))=false->J1 t100))) /\
 (∀ k:Int,J1 k->K k ((t101 && (decide ((0:Int)<=k))) && (decide (k<n)))))
def M_list_item_span0 (v_from:Int) (m_v_from:Nat) (v_to:Int) (m_v_to:Nat) (v_step:Int) (m_v_step:Nat) (v_n:Int) (i:Int) (K:PV->Prop):Prop :=
 kd v_from m_v_from v_to m_v_to v_step m_v_step v_n i (fun (t4:PV) =>
 K t4)
def jQ (v_from:Int) (m_v_from:Nat) (v_to:Int) (m_v_to:Nat) (v_step:Int) (m_v_step:Nat) (v_n:Int) (i:Int) (m_i:Nat) (K:PV->Er->Prop):Prop :=
 M_list_size_span0 v_from m_v_from v_to m_v_to v_step m_v_step v_n (fun (t110:Int) (t111:Bool) =>
 (((!t111)=true->K PV.nil (Er.e 3)) /\
 ((!t111)=false->M_list_place i m_i t110 (fun (t200:Int) (t201:Bool) =>
 (((!t201)=true->K PV.nil (Er.e 3)) /\
 ((!t201)=false->M_list_item_span0 v_from m_v_from v_to m_v_to v_step m_v_step v_n t200 (fun (t4:PV) =>
 K t4 Er.ok)))))))
def ko (x:PV) (v_from:Int) (m_v_from:Nat) (v_to:Int) (m_v_to:Nat) (v_step:Int) (m_v_step:Nat) (v_n:Int) (K:Bool->Er->Prop):Prop :=
 M_plist_span_has v_from m_v_from v_to m_v_to v_step m_v_step v_n x (fun (t4:Bool) =>
 K t4 Er.ok)
def kt (x:PV) (v_from:Int) (m_v_from:Nat) (v_to:Int) (m_v_to:Nat) (v_step:Int) (m_v_step:Nat) (v_n:Int) (K:Bool->Er->Prop):Prop :=
 ko x v_from m_v_from v_to m_v_to v_step m_v_step v_n (fun (t80:Bool) (t81:Er) =>
 K t80 t81)
def kf (l:List Int) (n:Int) (K:Bool->Prop):Prop :=
 (l.length<=maxLen ->
 Lp1 (fun (i:Int) kont1=>((i<(l.length:Int)->(0<=i/\i<(l.length:Nat)) /\
 (((l.getD i.toNat 0)=n->K true) /\
 (¬ ((l.getD i.toNat 0)=n)->(In .i64 (i+(1:Int))) /\
 kont1 (i+(1:Int))))) /\
 (¬ (i<(l.length:Int))->K false))) (0:Int))
set_option maxHeartbeats 8000000 in
theorem W_plist_span_Kind {w:World} {g_r:Nat} {v_r_from:Value} {v_r_from2:Value} {r_from:Int} {m_r_from:Nat} {v_r_to:Value} {v_r_to2:Value} {r_to:Int} {m_r_to:Nat} {v_r_step:Value} {v_r_step2:Value} {r_step:Int} {m_r_step:Nat} {r_n:Int} {K:Int->Prop} (a7:Nm w (.agg ⟨[v_r_from,v_r_from2]⟩) r_from m_r_from) (d5:Nm w (.agg ⟨[v_r_to,v_r_to2]⟩) r_to m_r_to) (a3:Nm w (.agg ⟨[v_r_step,v_r_step2]⟩) r_step m_r_step) (hr:Bl w g_r 189 [v_r_from,v_r_from2,v_r_to,v_r_to2,v_r_step,v_r_step2,.int .i64 r_n]) (H:M_plist_span_Kind r_from m_r_from r_to m_r_to r_step m_r_step r_n K):Fn Tryz.prog 263 ⟨[.pointer (some ⟨g_r,0,none⟩)]⟩ w (fun v w'=>w=w'/\∃ (r:Int),v=.int .i64 r/\K r):=by
 unfold M_plist_span_Kind at H
 refine Fn.enter (by kernel_rfl) Tryz.func263 rfl Tryz.ntmps263 rfl ?_
 exact zg (zc (yp (h:=(zh (za (zg (zc (yp (h:=(zh (za (zx (zM rfl rfl ⟨rfl,(11:Int),rfl,H⟩)))))))))))))
set_option maxHeartbeats 8000000 in
theorem W_plist_span_Many {w:World} {g_r:Nat} {v_r_from:Value} {v_r_from2:Value} {r_from:Int} {m_r_from:Nat} {v_r_to:Value} {v_r_to2:Value} {r_to:Int} {m_r_to:Nat} {v_r_step:Value} {v_r_step2:Value} {r_step:Int} {m_r_step:Nat} {r_n:Int} {K:Int->Prop} (a7:Nm w (.agg ⟨[v_r_from,v_r_from2]⟩) r_from m_r_from) (d5:Nm w (.agg ⟨[v_r_to,v_r_to2]⟩) r_to m_r_to) (a3:Nm w (.agg ⟨[v_r_step,v_r_step2]⟩) r_step m_r_step) (hr:Bl w g_r 189 [v_r_from,v_r_from2,v_r_to,v_r_to2,v_r_step,v_r_step2,.int .i64 r_n]) (H:M_plist_span_Many r_from m_r_from r_to m_r_to r_step m_r_step r_n K):Fn Tryz.prog 264 ⟨[.pointer (some ⟨g_r,0,none⟩)]⟩ w (fun v w'=>w=w'/\∃ (r:Int),v=.int .i64 r/\K r):=by
 unfold M_plist_span_Many at H
 refine Fn.enter (by kernel_rfl) Tryz.func264 rfl Tryz.ntmps264 rfl ?_
 exact zg (zc (yp (h:=(zh (za (zg (zc (yp (h:=(yp (h:=(zd rfl (zX (o:=6) (by kernel_rfl) rfl) (zd rfl (zH qH hr rfl rfl rfl) (yp (h:=(zh (za (zx (zM rfl rfl ⟨rfl,r_n,rfl,H⟩)))))))))))))))))))
set_option maxHeartbeats 8000000 in
theorem W_val_asInt {w:World} {v_v:OV} {F_v:Nat->Prop} {v_:PV} {K:Int->Nat->Bool->Prop} (hv_:RelD deV w [(v_v,F_v)] [v_]) (H:M_val_asInt v_ K):Fn Tryz.prog 213 ⟨[v_v.1]⟩ w (fun v w'=>w.grownBy w' none/\∃ (v_r0:Value),∃ (v_r02:Value),∃ (r0:Int),∃ (m_r0:Nat),∃ (r1:Bool),v=.tuple #[.agg ⟨[v_r0,v_r02]⟩,.bool r1]/\Nm w' (.agg ⟨[v_r0,v_r02]⟩) r0 m_r0/\v_r0.oneCell'=true/\v_r02.oneCell'=true/\K r0 m_r0 r1):=by
 unfold M_val_asInt at H
 refine Fn.enter (by kernel_rfl) Tryz.func213 rfl Tryz.ntmps213 rfl ?_
 refine zg (zc (WL.alloc rfl qX (fun g1 w1 hB1 hg1 hl1=>?_)))
 have gr1:=hg1
 refine yp (h:=(zh (za (zg (zc (yp (h:=?_)))))))
 rcases PV.intCases v_ with ⟨z,he1⟩ | he1
 ·replace H:=H.1 z he1
  obtain ⟨a,b,hv1,hN1,one1,one2,hL1⟩:=VR.intOut (hv_.grown gr1) he1
  exact zd rfl (jc Tryz.underlying208 rfl rfl hv1) (yp (h:=(yp (h:=(yp (h:=(WL.alloc rfl zero208 (fun g2 w2 hB2 hg2 hl2=>zT (vs:=[a,b]) qH rfl rfl rfl (qO one1 (qO one2 jf)) hB2 rfl rfl (fun w3 hB3 hg3=>yp (h:=(zh (za (zg (zc (zd rfl (zX (o:=0) (by kernel_rfl) rfl) (zd rfl (zO (vs:=[a,b]) qH hB3 rfl rfl rfl rfl) (yp (h:=(zT (vs:=[a,b]) qH rfl rfl rfl (qO one1 (qO one2 jf)) ((hB1.g0 hg2).go hg3 (Dj.new hB1.lt' (Ge.box hl2))) rfl rfl (fun w4 hB4 hg4=>yp (h:=(zh (za (zx (WX.retct qH rfl rfl rfl hB4 rfl rfl ⟨(qT (qT (qI gr1 hg2) hg3 (Ge.le (Ge.box hl2) (qL gr1))) hg4 (Ge.le (Ge.box hl1) (Nat.le_refl _))),a,b,z,3,true,rfl,(Nm.goV (Nm.goV (hN1.grown hg2) hL1 (GrL.of1 hg3) (apC (DnD.one (hv_.new (Ge.le (Ge.box hl2) (qL gr1)))) apN)) hL1 (GrL.of1 hg4) (apC (DnD.one (hv_.new (Ge.le (Ge.box hl1) (Nat.le_refl _)))) apN)),one1,one2,H⟩)))))))))))))))))))))))))
 ·replace H:=H.2 he1
  exact zd rfl (qV (z:=.agg ⟨[.bool false,.slice none 0 0]⟩) Tryz.underlying208 rfl (fun _=>by kernel_rfl) (hv_.grown gr1) rfl (tyP_int he1)) (yp (h:=(yp (h:=(yp (h:=(WL.alloc rfl zero208 (fun g3 w5 hB5 hg5 hl3=>zT (vs:=[.bool false,.slice none 0 0]) qH rfl rfl rfl (qO rfl (qO rfl jf)) hB5 rfl rfl (fun w6 hB6 hg6=>yp (h:=(zh (za (zg (zc (zd rfl (zX (o:=0) (by kernel_rfl) rfl) (zd rfl (zO (vs:=[.bool false,.slice none 0 0]) qH hB6 rfl rfl rfl rfl) (yp (h:=(zT (vs:=[.bool false,.slice none 0 0]) qH rfl rfl rfl (qO rfl (qO rfl jf)) ((hB1.g0 hg5).go hg6 (Dj.new hB1.lt' (Ge.box hl3))) rfl rfl (fun w7 hB7 hg7=>yp (h:=(zh (za (zx (WX.retct qH rfl rfl rfl hB7 rfl rfl ⟨(qT (qT (qI gr1 hg5) hg6 (Ge.le (Ge.box hl3) (qL gr1))) hg7 (Ge.le (Ge.box hl1) (Nat.le_refl _))),(.bool false),(.slice none 0 0),0,0,false,rfl,(Nm.zero (w:=w7)),rfl,rfl,H⟩)))))))))))))))))))))))))
set_option maxHeartbeats 8000000 in
theorem W_val_AsInt {w:World} {v_v:OV} {F_v:Nat->Prop} {v_:PV} {K:Int->Nat->Bool->Prop} (hv_:RelD deV w [(v_v,F_v)] [v_]) (H:M_val_AsInt v_ K):Fn Tryz.prog 194 ⟨[v_v.1]⟩ w (fun v w'=>w.grownBy w' none/\∃ (v_r0:Value),∃ (v_r02:Value),∃ (r0:Int),∃ (m_r0:Nat),∃ (r1:Bool),v=.tuple #[.agg ⟨[v_r0,v_r02]⟩,.bool r1]/\Nm w' (.agg ⟨[v_r0,v_r02]⟩) r0 m_r0/\v_r0.oneCell'=true/\v_r02.oneCell'=true/\K r0 m_r0 r1):=by
 unfold M_val_AsInt at H
 refine Fn.enter (by kernel_rfl) Tryz.func194 rfl Tryz.ntmps194 rfl ?_
 refine zg (zc (WL.alloc rfl qX (fun g1 w1 hB1 hg1 hl1=>?_)))
 have gr1:=hg1
 refine yp (h:=(zh (za (zg (zc (yp (h:=(zK rfl rfl (W_val_asInt (hv_.grown gr1) H) ?_))))))))
 rintro _ w2 ⟨hg2,v_t50,v_t502,t50,m_t50,t51,rfl,ht50,one_v_t50,one_v_t502,H⟩
 have k1:=hB1.g0 hg2
 exact yp (h:=(yp (h:=(zT (vs:=[v_t50,v_t502]) qH rfl rfl rfl (qO one_v_t50 (qO one_v_t502 jf)) k1 rfl rfl (fun w3 hB2 hg3=>yp (h:=(zh (za (zx (WX.retct qH rfl rfl rfl hB2 rfl rfl ⟨(qT (qI gr1 hg2) hg3 (Ge.le (Ge.box hl1) (Nat.le_refl _))),v_t50,v_t502,t50,m_t50,t51,rfl,(ht50.stored k1 (noC (fun x h=>Value.noConfusion h) (noC (fun x h=>Value.noConfusion h) noN)) hg3),one_v_t50,one_v_t502,H⟩))))))))))
set_option maxHeartbeats 8000000 in
theorem W_plist_span_has {w:World} {g_r:Nat} {v_r_from:Value} {v_r_from2:Value} {r_from:Int} {m_r_from:Nat} {v_r_to:Value} {v_r_to2:Value} {r_to:Int} {m_r_to:Nat} {v_r_step:Value} {v_r_step2:Value} {r_step:Int} {m_r_step:Nat} {r_n:Int} {v_x:OV} {F_x:Nat->Prop} {x:PV} {K:Bool->Prop} (a7:Nm w (.agg ⟨[v_r_from,v_r_from2]⟩) r_from m_r_from) (d5:Nm w (.agg ⟨[v_r_to,v_r_to2]⟩) r_to m_r_to) (a3:Nm w (.agg ⟨[v_r_step,v_r_step2]⟩) r_step m_r_step) (hr:Bl w g_r 189 [v_r_from,v_r_from2,v_r_to,v_r_to2,v_r_step,v_r_step2,.int .i64 r_n]) (hx:RelD deV w [(v_x,F_x)] [x]) (H:M_plist_span_has r_from m_r_from r_to m_r_to r_step m_r_step r_n x K):Fn Tryz.prog 168 ⟨[.pointer (some ⟨g_r,0,none⟩),v_x.1]⟩ w (fun v w'=>w.grownBy w' none/\∃ (r:Bool),v=.bool r/\K r):=by
 unfold M_plist_span_has at H
 refine Fn.enter (by kernel_rfl) Tryz.func168 rfl Tryz.ntmps168 rfl ?_
 refine zg (zc (yp (h:=(zh (za (zg (zc (yp (h:=(zK rfl rfl (W_val_AsInt hx H) ?_))))))))))
 rintro _ w1 ⟨hg1,v_t150,v_t1502,t150,m_t150,t151,rfl,ht150,one_v_t150,one_v_t1502,H⟩
 have gr1:=hg1
 refine yp (h:=(yp (h:=(yp (h:=(WL.alloc rfl qX (fun g1 w2 hB1 hg2 hl1=>zT (vs:=[v_t150,v_t1502]) qH rfl rfl rfl (qO one_v_t150 (qO one_v_t1502 jf)) hB1 rfl rfl (fun w3 hB2 hg3=>?_))))))))
 have gr3:=qT (qI gr1 hg2) hg3 (Ge.le (Ge.box hl1) (qL gr1))
 have k2:=(ht150.grown hg2).stored hB1 (noC (fun x h=>Value.noConfusion h) (noC (fun x h=>Value.noConfusion h) noN)) hg3
 refine yp (h:=(zh (za (zg (zg (zc (yp (h:=(yp (h:=(yp (h:=(zV 6 (fun L' w'=>∃ q1:Bool,L'=[(26,.bool q1),(0,.pointer (some ⟨g_r,0,none⟩)),(5,.pointer (some ⟨g1,0,none⟩))]/\((!t151) || (decide (r_n=(0:Int))))=q1/\w3=w') ?_ (fun hQ=>?_))))))))))))))
 ·rintro _ _ ⟨q1,rfl,rfl,rfl⟩
  refine zh (za (zE rfl (fun b1=>?_) (fun b1=>?_)))
  ·replace H:=H.1 (b1)
   exact zg (zc (yp (h:=(zh (za (zx (zi (zM rfl rfl ⟨gr3,false,rfl,H⟩))))))))
  ·replace H:=H.2 (b1)
   refine zt (za (zg ?_))
   obtain ⟨J1,H,hJ1⟩:=H
   refine qG 16 (fun k => !(Nat.beq k 5 || Nat.beq k 10 || Nat.beq k 14 || Nat.beq k 15)) (fun w'=>w3.grownBy w' none) (fun L' w'=>∃ (v_t380:Value),∃ (v_t3802:Value),∃ (t380:Int),∃ (m_t380:Nat),∃ (t381:Bool),∃ (a6:Nat),L'=[(0,.pointer (some ⟨g_r,0,none⟩)),(5,.pointer (some ⟨g1,0,none⟩)),(7,.pointer (some ⟨a6,0,none⟩)),(40,.bool t381)]/\J1 t380 m_t380 t381/\w.grownBy w' none/\Nm w' (.agg ⟨[v_t150,v_t1502]⟩) t150 m_t150/\Bl w' g1 75 [v_t150,v_t1502]/\Nm w' (.agg ⟨[v_t380,v_t3802]⟩) t380 m_t380/\Bl w' a6 75 [v_t380,v_t3802]/\v_t380.oneCell'=true/\v_t3802.oneCell'=true/\Dj (some g1) (some a6)/\Ge (some a6) w.heap.size) jg (by kernel_rfl) (fun w' h=>qN (qR _ _) h) ?_ ?_
   ·clear H
    rintro _ w4 ⟨v_t380,v_t3802,t380,m_t380,t381,a6,rfl,H,gr4,k3,k4,k5,k6,one_v_t380,one_v_t3802,dj1,hge1⟩
    replace H:=hJ1 t380 m_t380 t381 H
    refine yp (h:=(zh (za (zg ?_))))
    obtain ⟨J2,H,hJ2⟩:=H
    refine qG 16 (fun k => !(Nat.beq k 5 || Nat.beq k 10 || Nat.beq k 14 || Nat.beq k 15)) (fun w'=>w4.grownBy w' none) (fun L' w'=>∃ (v_t520:Value),∃ (v_t5202:Value),∃ (t520:Int),∃ (m_t520:Nat),∃ (t521:Bool),∃ (b8:Nat),L'=[(0,.pointer (some ⟨g_r,0,none⟩)),(7,.pointer (some ⟨a6,0,none⟩)),(9,.pointer (some ⟨b8,0,none⟩)),(54,.bool t521)]/\J2 t520 m_t520 t521/\w.grownBy w' none/\Nm w' (.agg ⟨[v_t380,v_t3802]⟩) t380 m_t380/\Bl w' a6 75 [v_t380,v_t3802]/\Nm w' (.agg ⟨[v_t520,v_t5202]⟩) t520 m_t520/\Bl w' b8 75 [v_t520,v_t5202]/\v_t520.oneCell'=true/\v_t5202.oneCell'=true/\Dj (some a6) (some b8)/\Ge (some b8) w.heap.size) jg (by kernel_rfl) (fun w' h=>qN (qR _ _) h) ?_ ?_
    ·clear H
     rintro _ w5 ⟨v_t520,v_t5202,t520,m_t520,t521,b8,rfl,H,gr5,k7,k8,k9,k10,one_v_t520,one_v_t5202,dj2,hge2⟩
     replace H:=hJ2 t520 m_t520 t521 H
     refine yp (h:=(zh (za (zg (zc (zd rfl (zO (vs:=[v_t380,v_t3802]) qH k8 rfl rfl rfl rfl) (zK rfl rfl (W_num_Num_Int k7 H) ?_)))))))
     rintro _ w6 ⟨hg4,t570,t571,rfl,H⟩
     refine yp (h:=(yp (h:=(yp (h:=(yp (h:=(yp (h:=(zh (za (zg (zc (zd rfl (zO (vs:=[v_t520,v_t5202]) qH (k10.g0 hg4) rfl rfl rfl rfl) (zd rfl (z3 (us:=[.bool false,.slice none 0 0]) qX places75 rfl rfl) (zK rfl rfl (jS (k9.grown hg4) (Nm.zero (w:=w6)) H) ?_))))))))))))))))
     rintro _ w7 ⟨hg5,t62,rfl,H⟩
     have gr7:=qI (qI gr5 hg4) hg5
     refine yp (h:=(yp (h:=(zV 2 (fun L' w'=>∃ q2:Bool,L'=[(66,.bool q2),(0,.pointer (some ⟨g_r,0,none⟩)),(11,.int .i64 t570)]/\((decide (t62=(0:Int))) && t571)=q2/\w7=w') ?_ (fun hQ=>?_)))))
     ·rintro _ _ ⟨q2,rfl,rfl,rfl⟩
      refine yp (h:=(zV 3 (fun L' w'=>∃ q3:Bool,L'=[(70,.bool q3),(0,.pointer (some ⟨g_r,0,none⟩)),(11,.int .i64 t570)]/\(((decide (t62=(0:Int))) && t571) && (decide ((0:Int)<=t570)))=q3/\w7=w') ?_ (fun hQ=>?_)))
      ·rintro _ _ ⟨q3,rfl,rfl,rfl⟩
       refine yp (h:=(zV 7 (fun L' w'=>∃ q4:Bool,L'=[(78,.bool q4)]/\((((decide (t62=(0:Int))) && t571) && (decide ((0:Int)<=t570))) && (decide (t570<r_n)))=q4/\w7=w') ?_ (fun hQ=>?_)))
       ·rintro _ _ ⟨q4,rfl,rfl,rfl⟩
        exact yp (h:=(zh (za (zx (zM rfl rfl ⟨gr7,(((decide (t62=(0:Int))) && t571) && (decide ((0:Int)<=t570))) && (decide (t570<r_n)),rfl,H⟩)))))
       ·clear H
        rcases Bool.eq_false_or_eq_true (((decide (t62=(0:Int))) && t571) && (decide ((0:Int)<=t570))) with b2 | b2
        ·exact gp b2 (h:=(gp b2 (h:=(gp b2 (h:=(zb rfl rfl (okb b2) rfl (zX (o:=6) (by kernel_rfl) rfl) (zb rfl rfl (okb b2) rfl (zH qH (hr.g0 gr7) rfl rfl rfl) (gp b2 (h:=(zd rfl (zR (okb b2) rfl) (wk (hQ _ _ ⟨decide (t570<r_n),rfl,by rw [b2] <;> rfl,rfl⟩))))))))))))
        ·exact gn b2 (h:=(gn b2 (h:=(gn b2 (h:=(gn b2 (h:=(gn b2 (h:=(gn b2 (h:=(zd rfl (zN (okb b2) rfl) (wk (hQ _ _ ⟨false,rfl,by rw [b2] <;> rfl,rfl⟩))))))))))))))
      ·clear H
       rcases Bool.eq_false_or_eq_true ((decide (t62=(0:Int))) && t571) with b3 | b3
       ·exact gp b3 (h:=(gp b3 (h:=(zd rfl (zR (okb b3) rfl) (wk (hQ _ _ ⟨decide ((0:Int)<=t570),rfl,by rw [b3] <;> rfl,rfl⟩))))))
       ·exact gn b3 (h:=(gn b3 (h:=(zd rfl (zN (okb b3) rfl) (wk (hQ _ _ ⟨false,rfl,by rw [b3] <;> rfl,rfl⟩))))))
     ·clear H
      rcases Bool.eq_false_or_eq_true (decide (t62=(0:Int))) with b4 | b4
      ·exact gp b4 (h:=(zd rfl (zR (okb b4) rfl) (wk (hQ _ _ ⟨t571,rfl,by rw [b4] <;> rfl,rfl⟩))))
      ·exact gn b4 (h:=(zd rfl (zN (okb b4) rfl) (wk (hQ _ _ ⟨false,rfl,by rw [b4] <;> rfl,rfl⟩))))
    ·clear hJ2
     refine WA.y 0 rfl (by kernel_rfl) rfl (fun w' hw'=>zO (vs:=[v_t150,v_t1502]) qH (Bl.g0 k4 hw') rfl rfl rfl rfl) (WA.y 1 rfl (by kernel_rfl) rfl (fun w' hw'=>ze qH rfl) (WA.y 2 rfl (by kernel_rfl) rfl (fun w' hw'=>ze qH rfl) (WA.y 3 rfl (by kernel_rfl) rfl (fun w' hw'=>zX (o:=0) (by kernel_rfl) rfl) (WA.y 4 rfl (by kernel_rfl) rfl (fun w' hw'=>zO (vs:=[v_r_from,v_r_from2]) qH (Bl.g0 (hr.g0 gr4) hw') rfl rfl rfl rfl) (WA.y 6 rfl (by kernel_rfl) rfl (fun w' hw'=>ze qH rfl) (WA.y 7 rfl (by kernel_rfl) rfl (fun w' hw'=>ze qH rfl) (WA.y 8 rfl (by kernel_rfl) rfl (fun w' hw'=>zX (o:=4) (by kernel_rfl) rfl) (WA.y 9 rfl (by kernel_rfl) rfl (fun w' hw'=>zO (vs:=[v_r_step,v_r_step2]) qH (Bl.g0 (hr.g0 gr4) hw') rfl rfl rfl rfl) (WA.split [5,14] (by kernel_rfl) (by kernel_rfl) ⟨?_,?_⟩)))))))))
     ·refine WI.call rfl rfl qK rfl rfl (jl k3 (a7.grown gr4) H) (fun v w' h w2 e=>qN (qI (qR _ none) h.1) e) ?_
      rintro _ w8 ⟨hg6,v_t47,v_t472,t47,m_t47,rfl,ht47,one_v_t47,one_v_t472,H⟩
      have gr8:=qI gr4 hg6
      have k13:=k3.grown hg6
      have k14:=k4.g0 hg6
      have k15:=k5.grown hg6
      have k16:=k6.g0 hg6
      have gt1:=qI (qR _ none) hg6
      refine WA.split [10,14] (by kernel_rfl) (by kernel_rfl) ⟨?_,?_⟩
      ·refine WI.call rfl rfl qK rfl rfl (W_num_Num_Mod ht47 (a3.grown gr8) H) (fun v w' h w2 e=>qN (qI gt1 h.1) e) ?_
       rintro _ w9 ⟨hg7,v_t5203,v_t5204,t5202,m_t5202,t5212,rfl,ht5202,one_v_t5203,one_v_t5204,H⟩
       have gr9:=qI gr8 hg7
       have k18:=k14.g0 hg7
       have k20:=k16.g0 hg7
       have gt2:=qI gt1 hg7
       refine WA.y 11 rfl (by kernel_rfl) rfl (fun w' hw'=>ze qH rfl) (WA.y 12 rfl (by kernel_rfl) rfl (fun w' hw'=>ze qH rfl) (WA.y 13 rfl (by kernel_rfl) rfl (fun w' hw'=>ze qH rfl) (WA.split [14] (by kernel_rfl) (by kernel_rfl) ?_)))
       ·refine WI.put rfl rfl rfl (Eff.alloc qX) (fun v w' h=>qI gt2 h.2.2) ?_
        rintro _ w10 ⟨rfl,hB3,hg8⟩
        obtain ⟨d1,hl2⟩:∃ g,g=w9.heap.size:=⟨_,rfl⟩
        rw [<-hl2] at hB3
        rw [<-hl2]
        have gt3:=qI gt2 hg8
        refine WA.split [15] (by kernel_rfl) (by kernel_rfl) ?_
        ·refine WI.eff rfl rfl (zU (vs:=[v_t5203,v_t5204]) qH rfl rfl rfl (qO one_v_t5203 (qO one_v_t5204 jf)) hB3 rfl rfl) (fun w' h=>qT gt3 h.2 (Ge.le (Ge.box (Nat.le_of_eq hl2.symm)) (qL gt2))) ?_
         rintro w11 ⟨hB4,hg9⟩
         have k28:=((k13.grown hg7).grown hg8).stored hB3 (noC (fun x h=>Value.noConfusion h) (noC (fun x h=>Value.noConfusion h) noN)) hg9
         have k29:=(k18.g0 hg8).go hg9 (Dj.new k18.lt' (Ge.box (Nat.le_of_eq hl2.symm)))
         have k31:=(k20.g0 hg8).go hg9 (Dj.new k20.lt' (Ge.box (Nat.le_of_eq hl2.symm)))
         have k32:=((ht47.grown hg7).grown hg8).stored hB3 (noC (fun x h=>Value.noConfusion h) (noC (fun x h=>Value.noConfusion h) noN)) hg9
         have k33:=(ht5202.grown hg8).stored hB3 (noC (fun x h=>Value.noConfusion h) (noC (fun x h=>Value.noConfusion h) noN)) hg9
         have gt4:=qT gt3 hg9 (Ge.le (Ge.box (Nat.le_of_eq hl2.symm)) (qL gt2))
         exact WA.doneF _ (by kernel_rfl) ⟨v_t5203,v_t5204,t5202,m_t5202,t5212,d1,rfl,H,(qT (qI gr9 hg8) hg9 (Ge.le (Ge.box (Nat.le_of_eq hl2.symm)) (qL gr9))),(((k15.grown hg7).grown hg8).stored hB3 (noC (fun x h=>Value.noConfusion h) (noC (fun x h=>Value.noConfusion h) noN)) hg9),k31,k33,hB4,one_v_t5203,one_v_t5204,(Dj.new k20.lt' (Ge.box (Nat.le_of_eq hl2.symm))),(Ge.le (Ge.box (Nat.le_of_eq hl2.symm)) (qL gr9))⟩ sb
      ·refine WI.put rfl rfl rfl (Eff.alloc qX) (fun v w' h=>qI gt1 h.2.2) ?_
       rintro _ w12 ⟨rfl,hB5,hg10⟩
       obtain ⟨d2,hl3⟩:∃ g,g=w8.heap.size:=⟨_,rfl⟩
       rw [<-hl3] at hB5
       rw [<-hl3]
       have gr12:=qI gr8 hg10
       have k38:=ht47.grown hg10
       have gt5:=qI gt1 hg10
       refine WA.split [10] (by kernel_rfl) (by kernel_rfl) ?_
       ·refine WI.call rfl rfl qK rfl rfl (W_num_Num_Mod k38 (a3.grown gr12) H) (fun v w' h w2 e=>qN (qI gt5 h.1) e) ?_
        rintro _ w13 ⟨hg11,v_t5205,v_t5206,t5203,m_t5203,t5213,rfl,ht5203,one_v_t5205,one_v_t5206,H⟩
        have k44:=hB5.g0 hg11
        have gt6:=qI gt5 hg11
        refine WA.y 11 rfl (by kernel_rfl) rfl (fun w' hw'=>ze qH rfl) (WA.y 12 rfl (by kernel_rfl) rfl (fun w' hw'=>ze qH rfl) (WA.y 13 rfl (by kernel_rfl) rfl (fun w' hw'=>ze qH rfl) (WA.split [15] (by kernel_rfl) (by kernel_rfl) ?_)))
        ·refine WI.eff rfl rfl (zU (vs:=[v_t5205,v_t5206]) qH rfl rfl rfl (qO one_v_t5205 (qO one_v_t5206 jf)) k44 rfl rfl) (fun w' h=>qT gt6 h.2 (Ge.le (Ge.box (Nat.le_of_eq hl3.symm)) (qL gt1))) ?_
         rintro w14 ⟨hB6,hg12⟩
         have k45:=((k13.grown hg10).grown hg11).stored k44 (noC (fun x h=>Value.noConfusion h) (noC (fun x h=>Value.noConfusion h) noN)) hg12
         have k46:=((k14.g0 hg10).g0 hg11).go hg12 (Dj.new k14.lt' (Ge.box (Nat.le_of_eq hl3.symm)))
         have k48:=((k16.g0 hg10).g0 hg11).go hg12 (Dj.new k16.lt' (Ge.box (Nat.le_of_eq hl3.symm)))
         have k49:=(k38.grown hg11).stored k44 (noC (fun x h=>Value.noConfusion h) (noC (fun x h=>Value.noConfusion h) noN)) hg12
         have k50:=ht5203.stored k44 (noC (fun x h=>Value.noConfusion h) (noC (fun x h=>Value.noConfusion h) noN)) hg12
         have gt7:=qT gt6 hg12 (Ge.le (Ge.box (Nat.le_of_eq hl3.symm)) (qL gt1))
         exact WA.doneF _ (by kernel_rfl) ⟨v_t5205,v_t5206,t5203,m_t5203,t5213,d2,rfl,H,(qT (qI gr12 hg11) hg12 (Ge.le (Ge.box (Nat.le_of_eq hl3.symm)) (qL gr8))),(((k15.grown hg10).grown hg11).stored k44 (noC (fun x h=>Value.noConfusion h) (noC (fun x h=>Value.noConfusion h) noN)) hg12),k48,k50,hB6,one_v_t5205,one_v_t5206,(Dj.new k16.lt' (Ge.box (Nat.le_of_eq hl3.symm))),(Ge.le (Ge.box (Nat.le_of_eq hl3.symm)) (qL gr8))⟩ sb
     ·refine WI.put rfl rfl rfl (Eff.alloc qX) (fun v w' h=>qI (qR _ none) h.2.2) ?_
      rintro _ w15 ⟨rfl,hB7,hg13⟩
      obtain ⟨d3,hl4⟩:∃ g,g=w4.heap.size:=⟨_,rfl⟩
      rw [<-hl4] at hB7
      rw [<-hl4]
      have gr15:=qI gr4 hg13
      have k51:=k3.grown hg13
      have gt8:=qI (qR _ none) hg13
      refine WA.split [5] (by kernel_rfl) (by kernel_rfl) ?_
      ·refine WI.call rfl rfl qK rfl rfl (jl k51 (a7.grown gr15) H) (fun v w' h w2 e=>qN (qI gt8 h.1) e) ?_
       rintro _ w16 ⟨hg14,v_t473,v_t474,t472,m_t472,rfl,ht472,one_v_t473,one_v_t474,H⟩
       have gr16:=qI gr15 hg14
       have gt9:=qI gt8 hg14
       refine WA.split [10] (by kernel_rfl) (by kernel_rfl) ?_
       ·refine WI.call rfl rfl qK rfl rfl (W_num_Num_Mod ht472 (a3.grown gr16) H) (fun v w' h w2 e=>qN (qI gt9 h.1) e) ?_
        rintro _ w17 ⟨hg15,v_t5207,v_t5208,t5204,m_t5204,t5214,rfl,ht5204,one_v_t5207,one_v_t5208,H⟩
        have k64:=(hB7.g0 hg14).g0 hg15
        have gt10:=qI gt9 hg15
        refine WA.y 11 rfl (by kernel_rfl) rfl (fun w' hw'=>ze qH rfl) (WA.y 12 rfl (by kernel_rfl) rfl (fun w' hw'=>ze qH rfl) (WA.y 13 rfl (by kernel_rfl) rfl (fun w' hw'=>ze qH rfl) (WA.split [15] (by kernel_rfl) (by kernel_rfl) ?_)))
        ·refine WI.eff rfl rfl (zU (vs:=[v_t5207,v_t5208]) qH rfl rfl rfl (qO one_v_t5207 (qO one_v_t5208 jf)) k64 rfl rfl) (fun w' h=>qT gt10 h.2 (Ge.le (Ge.box (Nat.le_of_eq hl4.symm)) (qL (qR _ none)))) ?_
         rintro w18 ⟨hB8,hg16⟩
         have k66:=((k51.grown hg14).grown hg15).stored k64 (noC (fun x h=>Value.noConfusion h) (noC (fun x h=>Value.noConfusion h) noN)) hg16
         have k67:=(((k4.g0 hg13).g0 hg14).g0 hg15).go hg16 (Dj.new k4.lt' (Ge.box (Nat.le_of_eq hl4.symm)))
         have k69:=(((k6.g0 hg13).g0 hg14).g0 hg15).go hg16 (Dj.new k6.lt' (Ge.box (Nat.le_of_eq hl4.symm)))
         have k70:=(ht472.grown hg15).stored k64 (noC (fun x h=>Value.noConfusion h) (noC (fun x h=>Value.noConfusion h) noN)) hg16
         have k71:=ht5204.stored k64 (noC (fun x h=>Value.noConfusion h) (noC (fun x h=>Value.noConfusion h) noN)) hg16
         have gt11:=qT gt10 hg16 (Ge.le (Ge.box (Nat.le_of_eq hl4.symm)) (qL (qR _ none)))
         exact WA.doneF _ (by kernel_rfl) ⟨v_t5207,v_t5208,t5204,m_t5204,t5214,d3,rfl,H,(qT (qI gr16 hg15) hg16 (Ge.le (Ge.box (Nat.le_of_eq hl4.symm)) (qL gr4))),((((k5.grown hg13).grown hg14).grown hg15).stored k64 (noC (fun x h=>Value.noConfusion h) (noC (fun x h=>Value.noConfusion h) noN)) hg16),k69,k71,hB8,one_v_t5207,one_v_t5208,(Dj.new k6.lt' (Ge.box (Nat.le_of_eq hl4.symm))),(Ge.le (Ge.box (Nat.le_of_eq hl4.symm)) (qL gr4))⟩ sb
   ·clear hJ1
    refine WA.y 0 rfl (by kernel_rfl) rfl (fun w' hw'=>zO (vs:=[v_t150,v_t1502]) qH (Bl.g0 hB2 hw') rfl rfl rfl rfl) (WA.y 1 rfl (by kernel_rfl) rfl (fun w' hw'=>ze qH rfl) (WA.y 2 rfl (by kernel_rfl) rfl (fun w' hw'=>ze qH rfl) (WA.y 3 rfl (by kernel_rfl) rfl (fun w' hw'=>zX (o:=0) (by kernel_rfl) rfl) (WA.y 4 rfl (by kernel_rfl) rfl (fun w' hw'=>zO (vs:=[v_r_from,v_r_from2]) qH (Bl.g0 (hr.g0 gr3) hw') rfl rfl rfl rfl) (WA.y 6 rfl (by kernel_rfl) rfl (fun w' hw'=>ze qH rfl) (WA.y 7 rfl (by kernel_rfl) rfl (fun w' hw'=>ze qH rfl) (WA.y 8 rfl (by kernel_rfl) rfl (fun w' hw'=>zX (o:=4) (by kernel_rfl) rfl) (WA.y 9 rfl (by kernel_rfl) rfl (fun w' hw'=>zO (vs:=[v_r_step,v_r_step2]) qH (Bl.g0 (hr.g0 gr3) hw') rfl rfl rfl rfl) (WA.split [5,14] (by kernel_rfl) (by kernel_rfl) ⟨?_,?_⟩)))))))))
    ·refine WI.call rfl rfl qK rfl rfl (jl k2 (a7.grown gr3) H) (fun v w' h w2 e=>qN (qI (qR _ none) h.1) e) ?_
     rintro _ w19 ⟨hg17,v_t33,v_t332,t33,m_t33,rfl,ht33,one_v_t33,one_v_t332,H⟩
     have gr19:=qI gr3 hg17
     have k72:=k2.grown hg17
     have k73:=hB2.g0 hg17
     have gt12:=qI (qR _ none) hg17
     refine WA.split [10,14] (by kernel_rfl) (by kernel_rfl) ⟨?_,?_⟩
     ·refine WI.call rfl rfl qK rfl rfl (jT ht33 (a3.grown gr19) H) (fun v w' h w2 e=>qN (qI gt12 h.1) e) ?_
      rintro _ w20 ⟨hg18,v_t3803,v_t3804,t3802,m_t3802,t3812,rfl,ht3802,one_v_t3803,one_v_t3804,H⟩
      have gr20:=qI gr19 hg18
      have k75:=k73.g0 hg18
      have gt13:=qI gt12 hg18
      refine WA.y 11 rfl (by kernel_rfl) rfl (fun w' hw'=>ze qH rfl) (WA.y 12 rfl (by kernel_rfl) rfl (fun w' hw'=>ze qH rfl) (WA.y 13 rfl (by kernel_rfl) rfl (fun w' hw'=>ze qH rfl) (WA.split [14] (by kernel_rfl) (by kernel_rfl) ?_)))
      ·refine WI.put rfl rfl rfl (Eff.alloc qX) (fun v w' h=>qI gt13 h.2.2) ?_
       rintro _ w21 ⟨rfl,hB9,hg19⟩
       obtain ⟨c8,hl5⟩:∃ g,g=w20.heap.size:=⟨_,rfl⟩
       rw [<-hl5] at hB9
       rw [<-hl5]
       have gt14:=qI gt13 hg19
       refine WA.split [15] (by kernel_rfl) (by kernel_rfl) ?_
       ·refine WI.eff rfl rfl (zU (vs:=[v_t3803,v_t3804]) qH rfl rfl rfl (qO one_v_t3803 (qO one_v_t3804 jf)) hB9 rfl rfl) (fun w' h=>qT gt14 h.2 (Ge.le (Ge.box (Nat.le_of_eq hl5.symm)) (qL gt13))) ?_
        rintro w22 ⟨hB10,hg20⟩
        have k82:=(k75.g0 hg19).go hg20 (Dj.new k75.lt' (Ge.box (Nat.le_of_eq hl5.symm)))
        have k83:=((ht33.grown hg18).grown hg19).stored hB9 (noC (fun x h=>Value.noConfusion h) (noC (fun x h=>Value.noConfusion h) noN)) hg20
        have k84:=(ht3802.grown hg19).stored hB9 (noC (fun x h=>Value.noConfusion h) (noC (fun x h=>Value.noConfusion h) noN)) hg20
        have gt15:=qT gt14 hg20 (Ge.le (Ge.box (Nat.le_of_eq hl5.symm)) (qL gt13))
        exact WA.doneF _ (by kernel_rfl) ⟨v_t3803,v_t3804,t3802,m_t3802,t3812,c8,rfl,H,(qT (qI gr20 hg19) hg20 (Ge.le (Ge.box (Nat.le_of_eq hl5.symm)) (qL gr20))),(((k72.grown hg18).grown hg19).stored hB9 (noC (fun x h=>Value.noConfusion h) (noC (fun x h=>Value.noConfusion h) noN)) hg20),k82,k84,hB10,one_v_t3803,one_v_t3804,(Dj.new k75.lt' (Ge.box (Nat.le_of_eq hl5.symm))),(Ge.le (Ge.box (Nat.le_of_eq hl5.symm)) (qL gr20))⟩ sb
     ·refine WI.put rfl rfl rfl (Eff.alloc qX) (fun v w' h=>qI gt12 h.2.2) ?_
      rintro _ w23 ⟨rfl,hB11,hg21⟩
      obtain ⟨c9,hl6⟩:∃ g,g=w19.heap.size:=⟨_,rfl⟩
      rw [<-hl6] at hB11
      rw [<-hl6]
      have gr23:=qI gr19 hg21
      have k87:=ht33.grown hg21
      have gt16:=qI gt12 hg21
      refine WA.split [10] (by kernel_rfl) (by kernel_rfl) ?_
      ·refine WI.call rfl rfl qK rfl rfl (jT k87 (a3.grown gr23) H) (fun v w' h w2 e=>qN (qI gt16 h.1) e) ?_
       rintro _ w24 ⟨hg22,v_t3805,v_t3806,t3803,m_t3803,t3813,rfl,ht3803,one_v_t3805,one_v_t3806,H⟩
       have k91:=hB11.g0 hg22
       have gt17:=qI gt16 hg22
       refine WA.y 11 rfl (by kernel_rfl) rfl (fun w' hw'=>ze qH rfl) (WA.y 12 rfl (by kernel_rfl) rfl (fun w' hw'=>ze qH rfl) (WA.y 13 rfl (by kernel_rfl) rfl (fun w' hw'=>ze qH rfl) (WA.split [15] (by kernel_rfl) (by kernel_rfl) ?_)))
       ·refine WI.eff rfl rfl (zU (vs:=[v_t3805,v_t3806]) qH rfl rfl rfl (qO one_v_t3805 (qO one_v_t3806 jf)) k91 rfl rfl) (fun w' h=>qT gt17 h.2 (Ge.le (Ge.box (Nat.le_of_eq hl6.symm)) (qL gt12))) ?_
        rintro w25 ⟨hB12,hg23⟩
        have k93:=((k73.g0 hg21).g0 hg22).go hg23 (Dj.new k73.lt' (Ge.box (Nat.le_of_eq hl6.symm)))
        have k94:=(k87.grown hg22).stored k91 (noC (fun x h=>Value.noConfusion h) (noC (fun x h=>Value.noConfusion h) noN)) hg23
        have k95:=ht3803.stored k91 (noC (fun x h=>Value.noConfusion h) (noC (fun x h=>Value.noConfusion h) noN)) hg23
        have gt18:=qT gt17 hg23 (Ge.le (Ge.box (Nat.le_of_eq hl6.symm)) (qL gt12))
        exact WA.doneF _ (by kernel_rfl) ⟨v_t3805,v_t3806,t3803,m_t3803,t3813,c9,rfl,H,(qT (qI gr23 hg22) hg23 (Ge.le (Ge.box (Nat.le_of_eq hl6.symm)) (qL gr19))),(((k72.grown hg21).grown hg22).stored k91 (noC (fun x h=>Value.noConfusion h) (noC (fun x h=>Value.noConfusion h) noN)) hg23),k93,k95,hB12,one_v_t3805,one_v_t3806,(Dj.new k73.lt' (Ge.box (Nat.le_of_eq hl6.symm))),(Ge.le (Ge.box (Nat.le_of_eq hl6.symm)) (qL gr19))⟩ sb
    ·refine WI.put rfl rfl rfl (Eff.alloc qX) (fun v w' h=>qI (qR _ none) h.2.2) ?_
     rintro _ w26 ⟨rfl,hB13,hg24⟩
     obtain ⟨d0,hl7⟩:∃ g,g=w3.heap.size:=⟨_,rfl⟩
     rw [<-hl7] at hB13
     rw [<-hl7]
     have gr26:=qI gr3 hg24
     have k96:=k2.grown hg24
     have gt19:=qI (qR _ none) hg24
     refine WA.split [5] (by kernel_rfl) (by kernel_rfl) ?_
     ·refine WI.call rfl rfl qK rfl rfl (jl k96 (a7.grown gr26) H) (fun v w' h w2 e=>qN (qI gt19 h.1) e) ?_
      rintro _ w27 ⟨hg25,v_t333,v_t334,t332,m_t332,rfl,ht332,one_v_t333,one_v_t334,H⟩
      have gr27:=qI gr26 hg25
      have gt20:=qI gt19 hg25
      refine WA.split [10] (by kernel_rfl) (by kernel_rfl) ?_
      ·refine WI.call rfl rfl qK rfl rfl (jT ht332 (a3.grown gr27) H) (fun v w' h w2 e=>qN (qI gt20 h.1) e) ?_
       rintro _ w28 ⟨hg26,v_t3807,v_t3808,t3804,m_t3804,t3814,rfl,ht3804,one_v_t3807,one_v_t3808,H⟩
       have k103:=(hB13.g0 hg25).g0 hg26
       have gt21:=qI gt20 hg26
       refine WA.y 11 rfl (by kernel_rfl) rfl (fun w' hw'=>ze qH rfl) (WA.y 12 rfl (by kernel_rfl) rfl (fun w' hw'=>ze qH rfl) (WA.y 13 rfl (by kernel_rfl) rfl (fun w' hw'=>ze qH rfl) (WA.split [15] (by kernel_rfl) (by kernel_rfl) ?_)))
       ·refine WI.eff rfl rfl (zU (vs:=[v_t3807,v_t3808]) qH rfl rfl rfl (qO one_v_t3807 (qO one_v_t3808 jf)) k103 rfl rfl) (fun w' h=>qT gt21 h.2 (Ge.le (Ge.box (Nat.le_of_eq hl7.symm)) (qL (qR _ none)))) ?_
        rintro w29 ⟨hB14,hg27⟩
        have k106:=(((hB2.g0 hg24).g0 hg25).g0 hg26).go hg27 (Dj.new hB2.lt' (Ge.box (Nat.le_of_eq hl7.symm)))
        have k107:=(ht332.grown hg26).stored k103 (noC (fun x h=>Value.noConfusion h) (noC (fun x h=>Value.noConfusion h) noN)) hg27
        have k108:=ht3804.stored k103 (noC (fun x h=>Value.noConfusion h) (noC (fun x h=>Value.noConfusion h) noN)) hg27
        have gt22:=qT gt21 hg27 (Ge.le (Ge.box (Nat.le_of_eq hl7.symm)) (qL (qR _ none)))
        exact WA.doneF _ (by kernel_rfl) ⟨v_t3807,v_t3808,t3804,m_t3804,t3814,d0,rfl,H,(qT (qI gr27 hg26) hg27 (Ge.le (Ge.box (Nat.le_of_eq hl7.symm)) (qL gr3))),(((k96.grown hg25).grown hg26).stored k103 (noC (fun x h=>Value.noConfusion h) (noC (fun x h=>Value.noConfusion h) noN)) hg27),k106,k108,hB14,one_v_t3807,one_v_t3808,(Dj.new hB2.lt' (Ge.box (Nat.le_of_eq hl7.symm))),(Ge.le (Ge.box (Nat.le_of_eq hl7.symm)) (qL gr3))⟩ sb
 ·clear H
  rcases Bool.eq_false_or_eq_true (!t151) with b5 | b5
  ·exact gn b5 (h:=(gn b5 (h:=(gn b5 (h:=(gn b5 (h:=(gn b5 (h:=(zd rfl (zR (okb b5) rfl) (wk (hQ _ _ ⟨true,rfl,by rw [b5] <;> rfl,rfl⟩))))))))))))
  ·exact gp b5 (h:=(gp b5 (h:=(zb rfl rfl (okb b5) rfl (zX (o:=6) (by kernel_rfl) rfl) (zb rfl rfl (okb b5) rfl (zH qH (hr.g0 gr3) rfl rfl rfl) (gp b5 (h:=(zd rfl (zN (okb b5) rfl) (wk (hQ _ _ ⟨decide (r_n=(0:Int)),rfl,by rw [b5] <;> rfl,rfl⟩))))))))))
set_option maxHeartbeats 8000000 in
theorem W_list_Range {S:List Nat} {w:World} {v_from:Value} {v_from2:Value} {from_:Int} {m_from:Nat} {v_to:Value} {v_to2:Value} {to_:Int} {m_to:Nat} {v_step:Value} {v_step2:Value} {step_:Int} {m_step:Nat} {K0:Er->Prop} {K:Int->Nat->Int->Nat->Int->Nat->Int->Er->Prop} (hG:GOK S w) (hS3:3∈S) (hS7:7∈S) (hfrom_:Nm w (.agg ⟨[v_from,v_from2]⟩) from_ m_from) (hto_:Nm w (.agg ⟨[v_to,v_to2]⟩) to_ m_to) (hstep_:Nm w (.agg ⟨[v_step,v_step2]⟩) step_ m_step) (H:M_list_Range from_ m_from to_ m_to step_ m_step K0 K):Fn Tryz.prog 45 ⟨[.agg ⟨[v_from,v_from2]⟩,.agg ⟨[v_to,v_to2]⟩,.agg ⟨[v_step,v_step2]⟩]⟩ w (fun v w'=>w.grownBy w' none/\((∃ (v_r12:Value),∃ (r12:Er),v=.tuple #[.nilIface,v_r12]/\ErrR S w' v_r12 r12/\K0 r12)∨(∃ (c0:Nat),∃ (v_r0_from:Value),∃ (v_r0_from2:Value),∃ (c4:Int),∃ (m_r0_from:Nat),∃ (v_r0_to:Value),∃ (v_r0_to2:Value),∃ (d7:Int),∃ (m_r0_to:Nat),∃ (v_r0_step:Value),∃ (v_r0_step2:Value),∃ (c5:Int),∃ (m_r0_step:Nat),∃ (e7:Int),∃ (v_r1:Value),∃ (r1:Er),v=.tuple #[.iface 187 (.pointer (some ⟨c0,0,none⟩)),v_r1]/\Nm w' (.agg ⟨[v_r0_from,v_r0_from2]⟩) c4 m_r0_from/\Nm w' (.agg ⟨[v_r0_to,v_r0_to2]⟩) d7 m_r0_to/\Nm w' (.agg ⟨[v_r0_step,v_r0_step2]⟩) c5 m_r0_step/\ErrR S w' v_r1 r1/\v_r0_from.oneCell'=true/\v_r0_from2.oneCell'=true/\v_r0_to.oneCell'=true/\v_r0_to2.oneCell'=true/\v_r0_step.oneCell'=true/\v_r0_step2.oneCell'=true/\Bl w' c0 189 [v_r0_from,v_r0_from2,v_r0_to,v_r0_to2,v_r0_step,v_r0_step2,.int .i64 e7]/\Ge (some c0) w.heap.size/\K c4 m_r0_from d7 m_r0_to c5 m_r0_step e7 r1))):=by
 unfold M_list_Range at H
 refine Fn.enter (by kernel_rfl) Tryz.func45 rfl Tryz.ntmps45 rfl ?_
 refine zg (zc (z4 (us:=[v_from,v_from2]) rfl rfl rfl (fun g1 w1 hB1 hg1 hl1=>z4 (us:=[v_to,v_to2]) rfl rfl rfl (fun g2 w2 hB2 hg2 hl2=>z4 (us:=[v_step,v_step2]) rfl rfl rfl (fun g3 w3 hB3 hg3 hl3=>?_)))))
 have gr3:=qI (qI hg1 hg2) hg3
 have k2:=(hB1.g0 hg2).g0 hg3
 have k3:=hB2.g0 hg3
 have hv1:RelD deV w3 [(vnil,noF)] [PV.nil]:=j0
 refine yp (h:=(yp (h:=(zh (za (zg (zc (zd rfl (z3 (us:=[.bool false,.slice none 0 0]) qX places75 rfl rfl) (WL.alloc rfl qX (fun g4 w4 hB4 hg4 hl4=>zT (vs:=[.bool false,.slice none 0 0]) qH rfl rfl rfl (qO rfl (qO rfl jf)) hB4 rfl rfl (fun w5 hB5 hg5=>?_)))))))))))
 have gr5:=qT (qI gr3 hg4) hg5 (Ge.le (Ge.box hl4) (qL gr3))
 have k9:=(hB3.g0 hg4).go hg5 (Dj.new hB3.lt' (Ge.box hl4))
 refine zh (za (zg (zg (zc (zd rfl (zO (vs:=[v_step,v_step2]) qH k9 rfl rfl rfl rfl) (zd rfl (zO (vs:=[.bool false,.slice none 0 0]) qH hB5 rfl rfl rfl rfl) (zK rfl rfl (jS (hstep_.grown gr5) (Nm.zero (w:=w5)) H) ?_)))))))
 rintro _ w6 ⟨hg6,t19,rfl,H⟩
 have gr6:=qI gr5 hg6
 have k10:=((k2.g0 hg4).go hg5 (Dj.new k2.lt' (Ge.box hl4))).g0 hg6
 have k11:=((k3.g0 hg4).go hg5 (Dj.new k3.lt' (Ge.box hl4))).g0 hg6
 have k12:=k9.g0 hg6
 have k13:=hB5.g0 hg6
 refine yp (h:=(zh (za (zE rfl (fun b1=>?_) (fun b1=>?_)))))
 ·replace H:=H.1 (of_decide_eq_true b1)
  refine zg (ql jg (by kernel_rfl) ?_)
  obtain ⟨vE1,_,hE1⟩:=GOK.get (hG.grown gr6) 3 0 hS3 rfl rfl
  refine z8 rfl (Yld.cell qH (ErrR.cell hE1 rfl) rfl rfl) ?_
  have hv2:RelD deV w6 [(vnil,noF)] [PV.nil]:=j0
  exact z8 rfl (ze qH rfl) (z8 rfl (ze qH rfl) (qu (za (zx (zi (zW rfl rfl rfl ⟨gr6,Or.inl ⟨vE1,(Er.e 3),rfl,hE1,H⟩⟩))))))
 ·replace H:=H.2 (of_decide_eq_false b1)
  refine zt (za (zg ?_))
  obtain ⟨J1,H,hJ1⟩:=H
  refine qG 7 (fun k => !(Nat.beq k 2 || Nat.beq k 4 || Nat.beq k 5 || Nat.beq k 6)) (fun w'=>w6.grownBy w' none) (fun L' w'=>∃ (v_t24:Value),∃ (v_t242:Value),∃ (t24:Int),∃ (m_t24:Nat),∃ (a5:Nat),∃ (b6:Nat),L'=[(3,.pointer (some ⟨g1,0,none⟩)),(4,.pointer (some ⟨g2,0,none⟩)),(5,.pointer (some ⟨g3,0,none⟩)),(8,.pointer (some ⟨g4,0,none⟩)),(9,.pointer (some ⟨a5,0,none⟩)),(10,.pointer (some ⟨b6,0,none⟩)),(25,.agg ⟨[v_step,v_step2]⟩)]/\J1 t24 m_t24/\w.grownBy w' none/\Bl w' g1 75 [v_from,v_from2]/\Bl w' g2 75 [v_to,v_to2]/\Bl w' g3 75 [v_step,v_step2]/\Bl w' g4 75 [.bool false,.slice none 0 0]/\Nm w' (.agg ⟨[v_t24,v_t242]⟩) t24 m_t24/\Bl w' a5 75 [v_t24,v_t242]/\Bl w' b6 75 [.bool false,.slice none 0 0]/\v_t24.oneCell'=true/\v_t242.oneCell'=true/\Dj (some g1) (some a5)/\Dj (some g1) (some b6)/\Dj (some g2) (some a5)/\Dj (some g2) (some b6)/\Dj (some g3) (some a5)/\Dj (some g3) (some b6)/\Dj (some g4) (some a5)/\Dj (some g4) (some b6)/\Dj (some a5) (some b6)/\Ge (some a5) w.heap.size/\Ge (some b6) w.heap.size) jg (by kernel_rfl) (fun w' h=>qN (qR _ _) h) ?_ ?_
  ·clear H
   rintro _ w7 ⟨v_t24,v_t242,t24,m_t24,a5,b6,rfl,H,gr7,k14,k15,k16,k17,k18,k19,k20,one_v_t24,one_v_t242,dj1,dj2,dj3,dj4,dj5,dj6,dj7,dj8,dj9,hge1,hge2⟩
   replace H:=hJ1 t24 m_t24 H
   refine zT (vs:=[v_step,v_step2]) qH rfl rfl rfl (qO (Nm.one1 hstep_) (qO (Nm.one2 hstep_) jf)) k20 rfl rfl (fun w8 hB6 hg7=>?_)
   have gr8:=qT gr7 hg7 hge2
   have k23:=k16.go hg7 dj6
   have k24:=k17.go hg7 dj8
   refine zh (za (zg ?_))
   obtain ⟨J2,H,hJ2⟩:=H
   refine qk (fun L' w'=>∃ (v_way0:Value),∃ (v_way02:Value),∃ (way0:Int),∃ (m_way0:Nat),∃ (v_by_0:Value),∃ (v_by_02:Value),∃ (by_0:Int),∃ (m_by_0:Nat),L'=[(3,.pointer (some ⟨g1,0,none⟩)),(4,.pointer (some ⟨g2,0,none⟩)),(5,.pointer (some ⟨g3,0,none⟩)),(8,.pointer (some ⟨g4,0,none⟩)),(9,.pointer (some ⟨a5,0,none⟩)),(10,.pointer (some ⟨b6,0,none⟩))]/\J2 way0 m_way0 by_0 m_by_0/\v_way0.oneCell'=true/\v_way02.oneCell'=true/\v_by_0.oneCell'=true/\v_by_02.oneCell'=true/\w.grownBy w' none/\Bl w' g1 75 [v_from,v_from2]/\Bl w' g2 75 [v_to,v_to2]/\Bl w' g3 75 [v_step,v_step2]/\Bl w' g4 75 [.bool false,.slice none 0 0]/\Bl w' a5 75 [v_way0,v_way02]/\Bl w' b6 75 [v_by_0,v_by_02]/\Nm w' (.agg ⟨[v_way0,v_way02]⟩) way0 m_way0/\Nm w' (.agg ⟨[v_by_0,v_by_02]⟩) by_0 m_by_0) ?_ (fun hQ=>?_)
   ·clear H
    rintro _ w9 ⟨v_way0,v_way02,way0,m_way0,v_by_0,v_by_02,by_0,m_by_0,rfl,H,one_v_way0,one_v_way02,one_v_by_0,one_v_by_02,gr9,k27,k28,k29,k30,k31,k32,k33,k34⟩
    replace H:=hJ2 way0 m_way0 by_0 m_by_0 H
    refine za (zg (zc (zd rfl (zO (vs:=[v_from,v_from2]) qH k27 rfl rfl rfl rfl) (zd rfl (zO (vs:=[v_to,v_to2]) qH k28 rfl rfl rfl rfl) (zd rfl (zO (vs:=[v_step,v_step2]) qH k29 rfl rfl rfl rfl) (zd rfl (z3 (us:=[v_from,v_from2,v_to,v_to2,v_step,v_step2,.int .i64 (0:Int)]) (vs:=[(1,.agg ⟨[v_from,v_from2]⟩),(2,.agg ⟨[v_to,v_to2]⟩),(3,.agg ⟨[v_step,v_step2]⟩)]) zero189 places189 rfl (by simp only [fillL,cells1 (Nm.one1 hfrom_),cells1 (Nm.one2 hfrom_),cells1 (Nm.one1 hto_),cells1 (Nm.one2 hto_),cells1 (Nm.one1 hstep_),cells1 (Nm.one2 hstep_)]; rfl)) (z4 (us:=[v_from,v_from2,v_to,v_to2,v_step,v_step2,.int .i64 (0:Int)]) rfl rfl rfl (fun g5 w10 hB7 hg8 hl5=>?_))))))))
    have k36:=k31.g0 hg8
    have k38:=k33.grown hg8
    refine yp (h:=(zh (za (zg (zg (zc (zd rfl (zO (vs:=[v_way0,v_way02]) qH k36 rfl rfl rfl rfl) (zd rfl (zO (vs:=[.bool false,.slice none 0 0]) qH (k30.g0 hg8) rfl rfl rfl rfl) (zK rfl rfl (jS k38 (Nm.zero (w:=w10)) H) ?_)))))))))
    rintro _ w11 ⟨hg9,t41,rfl,H⟩
    have gr11:=qI (qI gr9 hg8) hg9
    have k40:=k36.g0 hg9
    have k41:=(k32.g0 hg8).g0 hg9
    have k42:=k38.grown hg9
    have k43:=(k34.grown hg8).grown hg9
    have k44:=hB7.g0 hg9
    refine yp (h:=(zh (za (zE rfl (fun b2=>?_) (fun b2=>?_)))))
    ·replace H:=H.1 (of_decide_eq_true b2)
     exact zg (zc (yp (h:=(zd rfl (Yld.mki Tryz.underlying187 rfl rfl) (yp (h:=(yp (h:=(zh (za (zx (zi (zW rfl rfl rfl ⟨gr11,Or.inr ⟨g5,v_from,v_from2,from_,m_from,v_to,v_to2,to_,m_to,v_step,v_step2,step_,m_step,(0:Int),.nilIface,Er.ok,rfl,(hfrom_.grown gr11),(hto_.grown gr11),(hstep_.grown gr11),(ErrR.okR (S:=S) (w:=w11)),(Nm.one1 hfrom_),(Nm.one2 hfrom_),(Nm.one1 hto_),(Nm.one2 hto_),(Nm.one1 hstep_),(Nm.one2 hstep_),k44,(Ge.le (Ge.box hl5) (qL gr9)),H⟩⟩)))))))))))))
    ·replace H:=H.2 (of_decide_eq_false b2)
     refine zt (za (zg ?_))
     obtain ⟨J3,H,hJ3⟩:=H
     refine qG 10 (fun k => !(Nat.beq k 1 || Nat.beq k 2 || Nat.beq k 4 || Nat.beq k 8 || Nat.beq k 9)) (fun w'=>w11.grownBy w' none) (fun L' w'=>∃ (v_t500:Value),∃ (v_t5002:Value),∃ (t500:Int),∃ (m_t500:Nat),∃ (t501:Bool),∃ (g_n:Nat),L'=[(11,.pointer (some ⟨g5,0,none⟩)),(12,.pointer (some ⟨g_n,0,none⟩)),(52,.bool t501)]/\J3 t500 m_t500 t501/\w.grownBy w' none/\Bl w' g5 189 [v_from,v_from2,v_to,v_to2,v_step,v_step2,.int .i64 (0:Int)]/\Nm w' (.agg ⟨[v_t500,v_t5002]⟩) t500 m_t500/\Bl w' g_n 75 [v_t500,v_t5002]/\v_t500.oneCell'=true/\v_t5002.oneCell'=true/\Dj (some g5) (some g_n)/\Ge (some g_n) w.heap.size) jg (by kernel_rfl) (fun w' h=>qN (qR _ _) h) ?_ ?_
     ·clear H
      rintro _ w12 ⟨v_t500,v_t5002,t500,m_t500,t501,g_n,rfl,H,gr12,k45,k46,k47,one_v_t500,one_v_t5002,dj10,hge3⟩
      replace H:=hJ3 t500 m_t500 t501 H
      refine yp (h:=(zh (za (zg (zY (fun k => !(Nat.beq k 1 || Nat.beq k 2 || Nat.beq k 3)) (LD [0] (fun w'=>Bl w' g_n 75 [v_t500,v_t5002])) jg (by kernel_rfl) (fun k w' h _=>(jz h k47)) (zL rfl rfl (fun w' hw'=>zO (vs:=[v_t500,v_t5002]) qH (hw' rfl) rfl rfl rfl rfl) (z9 rfl (qK) rfl rfl (W_num_Of H) (fun v w' h w2 e=>DD.keep (Bl.g0 k47 (qN h.1 e))) ?_)))))))
      rintro _ w13 ⟨hg10,v_t55,v_t552,t55,m_t55,rfl,ht55,one_v_t55,one_v_t552,H⟩
      have k50:=k47.g0 hg10
      refine z9 rfl (qK) rfl rfl (W_num_Num_Add (k46.grown hg10) ht55 H) (fun v w' h w2 e=>DD.keep (Bl.g0 k50 (qN h.1 e))) ?_
      rintro _ w14 ⟨hg11,v_t56,v_t562,t56,m_t56,rfl,ht56,one_v_t56,one_v_t562,H⟩
      have k52:=k50.g0 hg11
      refine z9 rfl (qK) rfl rfl (W_num_Num_Int ht56 H) (fun v w' h w2 e=>DD.keep (Bl.g0 k52 (qN h.1 e))) ?_
      rintro _ w15 ⟨hg12,t570,t571,rfl,H⟩
      have gr15:=qI (qI (qI gr12 hg10) hg11) hg12
      have k54:=k52.g0 hg12
      refine zL rfl rfl (fun w' hw'=>ze qH rfl) (zL rfl rfl (fun w' hw'=>ze qH rfl) (zL rfl rfl (fun w' hw'=>ze qH rfl) (zL rfl rfl (fun w' hw'=>ze qH rfl) (zL rfl rfl (fun w' hw'=>ze qH rfl) (qh (za (zg (zg (zc (yp (h:=(yp (h:=(yp (h:=(zV 3 (fun L' w'=>∃ q1:Bool,L'=[(65,.bool q1),(11,.pointer (some ⟨g5,0,none⟩)),(14,.int .i64 t570)]/\((!t571) || (decide ((1099511627776:Int)<t570)))=q1/\w15=w') ?_ (fun hQ=>?_)))))))))))))))))
      ·rintro _ _ ⟨q1,rfl,rfl,rfl⟩
       refine zh (za (zE rfl (fun b3=>?_) (fun b3=>?_)))
       ·replace H:=H.1 (b3)
        refine zg (ql jg (by kernel_rfl) ?_)
        obtain ⟨vE2,_,hE2⟩:=GOK.get (hG.grown gr15) 7 1 hS7 rfl rfl
        refine z8 rfl (Yld.cell qH (ErrR.cell hE2 rfl) rfl rfl) ?_
        have hv3:RelD deV w15 [(vnil,noF)] [PV.nil]:=j0
        exact z8 rfl (ze qH rfl) (z8 rfl (ze qH rfl) (qu (za (zx (zi (zW rfl rfl rfl ⟨gr15,Or.inl ⟨vE2,(Er.e 7),rfl,hE2,H⟩⟩))))))
       ·replace H:=H.2 (b3)
        refine zt (za (zg (zc (yp (h:=(yp (h:=(yp (h:=(zd rfl (zX (o:=6) (by kernel_rfl) rfl) (qp one2 rfl rfl rfl (((k45.g0 hg10).g0 hg11).g0 hg12) (by simp) (fun w16 hB9 hg13=>?_))))))))))))
        have hB8:Bl w16 g5 189 [v_from,v_from2,v_to,v_to2,v_step,v_step2,.int .i64 t570]:=hB9
        have gr16:=qT gr15 hg13 (Ge.le (Ge.box hl5) (qL gr9))
        exact zh (za (zg (zc (yp (h:=(zd rfl (Yld.mki Tryz.underlying187 rfl rfl) (yp (h:=(yp (h:=(zh (za (zx (zW rfl rfl rfl ⟨gr16,Or.inr ⟨g5,v_from,v_from2,from_,m_from,v_to,v_to2,to_,m_to,v_step,v_step2,step_,m_step,t570,.nilIface,Er.ok,rfl,(hfrom_.grown gr16),(hto_.grown gr16),(hstep_.grown gr16),(ErrR.okR (S:=S) (w:=w16)),(Nm.one1 hfrom_),(Nm.one2 hfrom_),(Nm.one1 hto_),(Nm.one2 hto_),(Nm.one1 hstep_),(Nm.one2 hstep_),hB8,(Ge.le (Ge.box hl5) (qL gr9)),H⟩⟩))))))))))))))
      ·clear H
       rcases Bool.eq_false_or_eq_true (!t571) with b4 | b4
       ·exact gn b4 (h:=(gn b4 (h:=(zd rfl (zR (okb b4) rfl) (wk (hQ _ _ ⟨true,rfl,by rw [b4] <;> rfl,rfl⟩))))))
       ·exact gp b4 (h:=(gp b4 (h:=(zd rfl (zN (okb b4) rfl) (wk (hQ _ _ ⟨decide ((1099511627776:Int)<t570),rfl,by rw [b4] <;> rfl,rfl⟩))))))
     ·clear hJ3
      refine WA.y 0 rfl (by kernel_rfl) rfl (fun w' hw'=>zO (vs:=[v_way0,v_way02]) qH (Bl.g0 k40 hw') rfl rfl rfl rfl) (WA.y 3 rfl (by kernel_rfl) rfl (fun w' hw'=>zO (vs:=[v_by_0,v_by_02]) qH (Bl.g0 k41 hw') rfl rfl rfl rfl) (WA.split [1,8] (by kernel_rfl) (by kernel_rfl) ⟨?_,?_⟩))
      ·refine WI.call rfl rfl qK rfl rfl (W_num_Of H) (fun v w' h w2 e=>qN (qI (qR _ none) h.1) e) ?_
       rintro _ w17 ⟨hg14,v_t47,v_t472,t47,m_t47,rfl,ht47,one_v_t47,one_v_t472,H⟩
       have gr17:=qI gr11 hg14
       have k55:=k40.g0 hg14
       have k56:=k41.g0 hg14
       have k57:=k42.grown hg14
       have k58:=k43.grown hg14
       have k59:=k44.g0 hg14
       have gt1:=qI (qR _ none) hg14
       refine WA.split [2,8] (by kernel_rfl) (by kernel_rfl) ⟨?_,?_⟩
       ·refine WI.call rfl rfl qK rfl rfl (jl k57 ht47 H) (fun v w' h w2 e=>qN (qI gt1 h.1) e) ?_
        rintro _ w18 ⟨hg15,v_t48,v_t482,t48,m_t48,rfl,ht48,one_v_t48,one_v_t482,H⟩
        have gr18:=qI gr17 hg15
        have k60:=k55.g0 hg15
        have k61:=k56.g0 hg15
        have k62:=k57.grown hg15
        have k63:=k58.grown hg15
        have k64:=k59.g0 hg15
        have k65:=ht47.grown hg15
        have gt2:=qI gt1 hg15
        refine WA.split [4,8] (by kernel_rfl) (by kernel_rfl) ⟨?_,?_⟩
        ·refine WI.call rfl rfl qK rfl rfl (jT ht48 k63 H) (fun v w' h w2 e=>qN (qI gt2 h.1) e) ?_
         rintro _ w19 ⟨hg16,v_t5003,v_t5004,t5002,m_t5002,t5012,rfl,ht5002,one_v_t5003,one_v_t5004,H⟩
         have gr19:=qI gr18 hg16
         have k66:=k60.g0 hg16
         have k67:=k61.g0 hg16
         have k70:=k64.g0 hg16
         have gt3:=qI gt2 hg16
         refine WA.y 5 rfl (by kernel_rfl) rfl (fun w' hw'=>ze qH rfl) (WA.y 6 rfl (by kernel_rfl) rfl (fun w' hw'=>ze qH rfl) (WA.y 7 rfl (by kernel_rfl) rfl (fun w' hw'=>ze qH rfl) (WA.split [8] (by kernel_rfl) (by kernel_rfl) ?_)))
         ·refine WI.put rfl rfl rfl (Eff.alloc qX) (fun v w' h=>qI gt3 h.2.2) ?_
          rintro _ w20 ⟨rfl,hB10,hg17⟩
          obtain ⟨e8,hl6⟩:∃ g,g=w19.heap.size:=⟨_,rfl⟩
          rw [<-hl6] at hB10
          rw [<-hl6]
          have gt4:=qI gt3 hg17
          refine WA.split [9] (by kernel_rfl) (by kernel_rfl) ?_
          ·refine WI.eff rfl rfl (zU (vs:=[v_t5003,v_t5004]) qH rfl rfl rfl (qO one_v_t5003 (qO one_v_t5004 jf)) hB10 rfl rfl) (fun w' h=>qT gt4 h.2 (Ge.le (Ge.box (Nat.le_of_eq hl6.symm)) (qL gt3))) ?_
           rintro w21 ⟨hB11,hg18⟩
           have k81:=(k66.g0 hg17).go hg18 (Dj.new k66.lt' (Ge.box (Nat.le_of_eq hl6.symm)))
           have k82:=(k67.g0 hg17).go hg18 (Dj.new k67.lt' (Ge.box (Nat.le_of_eq hl6.symm)))
           have k83:=((k62.grown hg16).grown hg17).stored hB10 (noC (fun x h=>Value.noConfusion h) (noC (fun x h=>Value.noConfusion h) noN)) hg18
           have k84:=((k63.grown hg16).grown hg17).stored hB10 (noC (fun x h=>Value.noConfusion h) (noC (fun x h=>Value.noConfusion h) noN)) hg18
           have k86:=((k65.grown hg16).grown hg17).stored hB10 (noC (fun x h=>Value.noConfusion h) (noC (fun x h=>Value.noConfusion h) noN)) hg18
           have k87:=((ht48.grown hg16).grown hg17).stored hB10 (noC (fun x h=>Value.noConfusion h) (noC (fun x h=>Value.noConfusion h) noN)) hg18
           have gt5:=qT gt4 hg18 (Ge.le (Ge.box (Nat.le_of_eq hl6.symm)) (qL gt3))
           exact WA.doneF _ (by kernel_rfl) ⟨v_t5003,v_t5004,t5002,m_t5002,t5012,e8,rfl,H,(qT (qI gr19 hg17) hg18 (Ge.le (Ge.box (Nat.le_of_eq hl6.symm)) (qL gr19))),((k70.g0 hg17).go hg18 (Dj.new k70.lt' (Ge.box (Nat.le_of_eq hl6.symm)))),((ht5002.grown hg17).stored hB10 (noC (fun x h=>Value.noConfusion h) (noC (fun x h=>Value.noConfusion h) noN)) hg18),hB11,one_v_t5003,one_v_t5004,(Dj.new k70.lt' (Ge.box (Nat.le_of_eq hl6.symm))),(Ge.le (Ge.box (Nat.le_of_eq hl6.symm)) (qL gr19))⟩ sb
        ·refine WI.put rfl rfl rfl (Eff.alloc qX) (fun v w' h=>qI gt2 h.2.2) ?_
         rintro _ w22 ⟨rfl,hB12,hg19⟩
         obtain ⟨e9,hl7⟩:∃ g,g=w18.heap.size:=⟨_,rfl⟩
         rw [<-hl7] at hB12
         rw [<-hl7]
         have k92:=k63.grown hg19
         have k95:=ht48.grown hg19
         have gt6:=qI gt2 hg19
         refine WA.split [4] (by kernel_rfl) (by kernel_rfl) ?_
         ·refine WI.call rfl rfl qK rfl rfl (jT k95 k92 H) (fun v w' h w2 e=>qN (qI gt6 h.1) e) ?_
          rintro _ w23 ⟨hg20,v_t5005,v_t5006,t5003,m_t5003,t5013,rfl,ht5003,one_v_t5005,one_v_t5006,H⟩
          have k103:=hB12.g0 hg20
          have gt7:=qI gt6 hg20
          refine WA.y 5 rfl (by kernel_rfl) rfl (fun w' hw'=>ze qH rfl) (WA.y 6 rfl (by kernel_rfl) rfl (fun w' hw'=>ze qH rfl) (WA.y 7 rfl (by kernel_rfl) rfl (fun w' hw'=>ze qH rfl) (WA.split [9] (by kernel_rfl) (by kernel_rfl) ?_)))
          ·refine WI.eff rfl rfl (zU (vs:=[v_t5005,v_t5006]) qH rfl rfl rfl (qO one_v_t5005 (qO one_v_t5006 jf)) k103 rfl rfl) (fun w' h=>qT gt7 h.2 (Ge.le (Ge.box (Nat.le_of_eq hl7.symm)) (qL gt2))) ?_
           rintro w24 ⟨hB13,hg21⟩
           have k104:=((k60.g0 hg19).g0 hg20).go hg21 (Dj.new k60.lt' (Ge.box (Nat.le_of_eq hl7.symm)))
           have k105:=((k61.g0 hg19).g0 hg20).go hg21 (Dj.new k61.lt' (Ge.box (Nat.le_of_eq hl7.symm)))
           have k106:=((k62.grown hg19).grown hg20).stored k103 (noC (fun x h=>Value.noConfusion h) (noC (fun x h=>Value.noConfusion h) noN)) hg21
           have k107:=(k92.grown hg20).stored k103 (noC (fun x h=>Value.noConfusion h) (noC (fun x h=>Value.noConfusion h) noN)) hg21
           have k109:=((k65.grown hg19).grown hg20).stored k103 (noC (fun x h=>Value.noConfusion h) (noC (fun x h=>Value.noConfusion h) noN)) hg21
           have k110:=(k95.grown hg20).stored k103 (noC (fun x h=>Value.noConfusion h) (noC (fun x h=>Value.noConfusion h) noN)) hg21
           have gt8:=qT gt7 hg21 (Ge.le (Ge.box (Nat.le_of_eq hl7.symm)) (qL gt2))
           exact WA.doneF _ (by kernel_rfl) ⟨v_t5005,v_t5006,t5003,m_t5003,t5013,e9,rfl,H,(qT (qI (qI gr18 hg19) hg20) hg21 (Ge.le (Ge.box (Nat.le_of_eq hl7.symm)) (qL gr18))),(((k64.g0 hg19).g0 hg20).go hg21 (Dj.new k64.lt' (Ge.box (Nat.le_of_eq hl7.symm)))),(ht5003.stored k103 (noC (fun x h=>Value.noConfusion h) (noC (fun x h=>Value.noConfusion h) noN)) hg21),hB13,one_v_t5005,one_v_t5006,(Dj.new k64.lt' (Ge.box (Nat.le_of_eq hl7.symm))),(Ge.le (Ge.box (Nat.le_of_eq hl7.symm)) (qL gr18))⟩ sb
       ·refine WI.put rfl rfl rfl (Eff.alloc qX) (fun v w' h=>qI gt1 h.2.2) ?_
        rintro _ w25 ⟨rfl,hB14,hg22⟩
        obtain ⟨f0,hl8⟩:∃ g,g=w17.heap.size:=⟨_,rfl⟩
        rw [<-hl8] at hB14
        rw [<-hl8]
        have k114:=k57.grown hg22
        have k117:=ht47.grown hg22
        have gt9:=qI gt1 hg22
        refine WA.split [2] (by kernel_rfl) (by kernel_rfl) ?_
        ·refine WI.call rfl rfl qK rfl rfl (jl k114 k117 H) (fun v w' h w2 e=>qN (qI gt9 h.1) e) ?_
         rintro _ w26 ⟨hg23,v_t483,v_t484,t482,m_t482,rfl,ht482,one_v_t483,one_v_t484,H⟩
         have k121:=(k58.grown hg22).grown hg23
         have gt10:=qI gt9 hg23
         refine WA.split [4] (by kernel_rfl) (by kernel_rfl) ?_
         ·refine WI.call rfl rfl qK rfl rfl (jT ht482 k121 H) (fun v w' h w2 e=>qN (qI gt10 h.1) e) ?_
          rintro _ w27 ⟨hg24,v_t5007,v_t5008,t5004,m_t5004,t5014,rfl,ht5004,one_v_t5007,one_v_t5008,H⟩
          have k131:=(hB14.g0 hg23).g0 hg24
          have gt11:=qI gt10 hg24
          refine WA.y 5 rfl (by kernel_rfl) rfl (fun w' hw'=>ze qH rfl) (WA.y 6 rfl (by kernel_rfl) rfl (fun w' hw'=>ze qH rfl) (WA.y 7 rfl (by kernel_rfl) rfl (fun w' hw'=>ze qH rfl) (WA.split [9] (by kernel_rfl) (by kernel_rfl) ?_)))
          ·refine WI.eff rfl rfl (zU (vs:=[v_t5007,v_t5008]) qH rfl rfl rfl (qO one_v_t5007 (qO one_v_t5008 jf)) k131 rfl rfl) (fun w' h=>qT gt11 h.2 (Ge.le (Ge.box (Nat.le_of_eq hl8.symm)) (qL gt1))) ?_
           rintro w28 ⟨hB15,hg25⟩
           have k133:=(((k55.g0 hg22).g0 hg23).g0 hg24).go hg25 (Dj.new k55.lt' (Ge.box (Nat.le_of_eq hl8.symm)))
           have k134:=(((k56.g0 hg22).g0 hg23).g0 hg24).go hg25 (Dj.new k56.lt' (Ge.box (Nat.le_of_eq hl8.symm)))
           have k135:=((k114.grown hg23).grown hg24).stored k131 (noC (fun x h=>Value.noConfusion h) (noC (fun x h=>Value.noConfusion h) noN)) hg25
           have k136:=(k121.grown hg24).stored k131 (noC (fun x h=>Value.noConfusion h) (noC (fun x h=>Value.noConfusion h) noN)) hg25
           have k138:=((k117.grown hg23).grown hg24).stored k131 (noC (fun x h=>Value.noConfusion h) (noC (fun x h=>Value.noConfusion h) noN)) hg25
           have k139:=(ht482.grown hg24).stored k131 (noC (fun x h=>Value.noConfusion h) (noC (fun x h=>Value.noConfusion h) noN)) hg25
           have gt12:=qT gt11 hg25 (Ge.le (Ge.box (Nat.le_of_eq hl8.symm)) (qL gt1))
           exact WA.doneF _ (by kernel_rfl) ⟨v_t5007,v_t5008,t5004,m_t5004,t5014,f0,rfl,H,(qT (qI (qI (qI gr17 hg22) hg23) hg24) hg25 (Ge.le (Ge.box (Nat.le_of_eq hl8.symm)) (qL gr17))),((((k59.g0 hg22).g0 hg23).g0 hg24).go hg25 (Dj.new k59.lt' (Ge.box (Nat.le_of_eq hl8.symm)))),(ht5004.stored k131 (noC (fun x h=>Value.noConfusion h) (noC (fun x h=>Value.noConfusion h) noN)) hg25),hB15,one_v_t5007,one_v_t5008,(Dj.new k59.lt' (Ge.box (Nat.le_of_eq hl8.symm))),(Ge.le (Ge.box (Nat.le_of_eq hl8.symm)) (qL gr17))⟩ sb
      ·refine WI.put rfl rfl rfl (Eff.alloc qX) (fun v w' h=>qI (qR _ none) h.2.2) ?_
       rintro _ w29 ⟨rfl,hB16,hg26⟩
       obtain ⟨f1,hl9⟩:∃ g,g=w11.heap.size:=⟨_,rfl⟩
       rw [<-hl9] at hB16
       rw [<-hl9]
       have gt13:=qI (qR _ none) hg26
       refine WA.split [1] (by kernel_rfl) (by kernel_rfl) ?_
       ·refine WI.call rfl rfl qK rfl rfl (W_num_Of H) (fun v w' h w2 e=>qN (qI gt13 h.1) e) ?_
        rintro _ w30 ⟨hg27,v_t473,v_t474,t472,m_t472,rfl,ht472,one_v_t473,one_v_t474,H⟩
        have k148:=(k42.grown hg26).grown hg27
        have gt14:=qI gt13 hg27
        refine WA.split [2] (by kernel_rfl) (by kernel_rfl) ?_
        ·refine WI.call rfl rfl qK rfl rfl (jl k148 ht472 H) (fun v w' h w2 e=>qN (qI gt14 h.1) e) ?_
         rintro _ w31 ⟨hg28,v_t485,v_t486,t483,m_t483,rfl,ht483,one_v_t485,one_v_t486,H⟩
         have k155:=((k43.grown hg26).grown hg27).grown hg28
         have gt15:=qI gt14 hg28
         refine WA.split [4] (by kernel_rfl) (by kernel_rfl) ?_
         ·refine WI.call rfl rfl qK rfl rfl (jT ht483 k155 H) (fun v w' h w2 e=>qN (qI gt15 h.1) e) ?_
          rintro _ w32 ⟨hg29,v_t5009,v_t50010,t5005,m_t5005,t5015,rfl,ht5005,one_v_t5009,one_v_t50010,H⟩
          have k164:=((hB16.g0 hg27).g0 hg28).g0 hg29
          have gt16:=qI gt15 hg29
          refine WA.y 5 rfl (by kernel_rfl) rfl (fun w' hw'=>ze qH rfl) (WA.y 6 rfl (by kernel_rfl) rfl (fun w' hw'=>ze qH rfl) (WA.y 7 rfl (by kernel_rfl) rfl (fun w' hw'=>ze qH rfl) (WA.split [9] (by kernel_rfl) (by kernel_rfl) ?_)))
          ·refine WI.eff rfl rfl (zU (vs:=[v_t5009,v_t50010]) qH rfl rfl rfl (qO one_v_t5009 (qO one_v_t50010 jf)) k164 rfl rfl) (fun w' h=>qT gt16 h.2 (Ge.le (Ge.box (Nat.le_of_eq hl9.symm)) (qL (qR _ none)))) ?_
           rintro w33 ⟨hB17,hg30⟩
           have k167:=((((k40.g0 hg26).g0 hg27).g0 hg28).g0 hg29).go hg30 (Dj.new k40.lt' (Ge.box (Nat.le_of_eq hl9.symm)))
           have k168:=((((k41.g0 hg26).g0 hg27).g0 hg28).g0 hg29).go hg30 (Dj.new k41.lt' (Ge.box (Nat.le_of_eq hl9.symm)))
           have k169:=((k148.grown hg28).grown hg29).stored k164 (noC (fun x h=>Value.noConfusion h) (noC (fun x h=>Value.noConfusion h) noN)) hg30
           have k170:=(k155.grown hg29).stored k164 (noC (fun x h=>Value.noConfusion h) (noC (fun x h=>Value.noConfusion h) noN)) hg30
           have k172:=((ht472.grown hg28).grown hg29).stored k164 (noC (fun x h=>Value.noConfusion h) (noC (fun x h=>Value.noConfusion h) noN)) hg30
           have k173:=(ht483.grown hg29).stored k164 (noC (fun x h=>Value.noConfusion h) (noC (fun x h=>Value.noConfusion h) noN)) hg30
           have gt17:=qT gt16 hg30 (Ge.le (Ge.box (Nat.le_of_eq hl9.symm)) (qL (qR _ none)))
           exact WA.doneF _ (by kernel_rfl) ⟨v_t5009,v_t50010,t5005,m_t5005,t5015,f1,rfl,H,(qT (qI (qI (qI (qI gr11 hg26) hg27) hg28) hg29) hg30 (Ge.le (Ge.box (Nat.le_of_eq hl9.symm)) (qL gr11))),(((((k44.g0 hg26).g0 hg27).g0 hg28).g0 hg29).go hg30 (Dj.new k44.lt' (Ge.box (Nat.le_of_eq hl9.symm)))),(ht5005.stored k164 (noC (fun x h=>Value.noConfusion h) (noC (fun x h=>Value.noConfusion h) noN)) hg30),hB17,one_v_t5009,one_v_t50010,(Dj.new k44.lt' (Ge.box (Nat.le_of_eq hl9.symm))),(Ge.le (Ge.box (Nat.le_of_eq hl9.symm)) (qL gr11))⟩ sb
   ·clear hJ2
    refine zg (zc (zd rfl (zO (vs:=[v_step,v_step2]) qH k23 rfl rfl rfl rfl) (zd rfl (zO (vs:=[.bool false,.slice none 0 0]) qH k24 rfl rfl rfl rfl) (zK rfl rfl (jS (hstep_.grown gr8) (Nm.zero (w:=w8)) H) ?_))))
    rintro _ w34 ⟨hg31,t28,rfl,H⟩
    have gr34:=qI gr8 hg31
    have k175:=(k14.go hg7 dj2).g0 hg31
    have k176:=(k15.go hg7 dj4).g0 hg31
    have k177:=k23.g0 hg31
    have k178:=k24.g0 hg31
    have k179:=(k18.stored k20 (noC (fun x h=>Value.noConfusion h) (noC (fun x h=>Value.noConfusion h) noN)) hg7).grown hg31
    have k180:=(k19.go hg7 dj9).g0 hg31
    have k181:=hB6.g0 hg31
    refine yp (h:=(zh (za (zE rfl (fun b5=>?_) (fun b5=>?_)))))
    ·replace H:=H.1 (of_decide_eq_true b5)
     refine zY (fun k => !(Nat.beq k 1 || Nat.beq k 3 || Nat.beq k 4 || Nat.beq k 5)) (LD [0,2] (fun w'=>Bl w' a5 75 [v_t24,v_t242]/\Bl w' b6 75 [v_step,v_step2])) jg (by kernel_rfl) (fun k w' h _=>⟨(jz h k180),(jz h k181)⟩) (zL rfl rfl (fun w' hw'=>zO (vs:=[v_t24,v_t242]) qH (hw' rfl).1 rfl rfl rfl rfl) (z9 rfl (qK) rfl rfl (W_num_Num_Neg k179 H) (fun v w' h w2 e=>DD.keep (⟨(Bl.g0 k180 (qN h.1 e)),(Bl.g0 k181 (qN h.1 e))⟩)) ?_))
     rintro _ w35 ⟨hg32,v_t31,v_t312,t31,m_t31,rfl,ht31,one_v_t31,one_v_t312,H⟩
     have gr35:=qI gr34 hg32
     have k187:=k180.g0 hg32
     have k188:=k181.g0 hg32
     refine zL rfl rfl (fun w' hw'=>zO (vs:=[v_step,v_step2]) qH (hw' rfl).2 rfl rfl rfl rfl) (z9 rfl (qK) rfl rfl (W_num_Num_Neg (hstep_.grown gr35) H) (fun v w' h w2 e=>DD.keep (⟨(Bl.g0 k187 (qN h.1 e)),(Bl.g0 k188 (qN h.1 e))⟩)) ?_)
     rintro _ w36 ⟨hg33,v_t33,v_t332,t33,m_t33,rfl,ht33,one_v_t33,one_v_t332,H⟩
     have k193:=(k179.grown hg32).grown hg33
     have k194:=k187.g0 hg33
     refine qt rfl (zU (vs:=[v_t31,v_t312]) qH rfl rfl rfl (qO one_v_t31 (qO one_v_t312 jf)) k194 rfl rfl) (fun w' h=>qi (by kernel_rfl)) ?_
     rintro w37 ⟨hB18,hg34⟩
     have k201:=(k188.g0 hg33).go hg34 dj9.symm
     refine qt rfl (zU (vs:=[v_t33,v_t332]) qH rfl rfl rfl (qO one_v_t33 (qO one_v_t332 jf)) k201 rfl rfl) (fun w' h=>qi (by kernel_rfl)) ?_
     rintro w38 ⟨hB19,hg35⟩
     exact qh (WX.weaken sb (hQ _ _ ⟨v_t31,v_t312,t31,m_t31,v_t33,v_t332,t33,m_t33,rfl,H,one_v_t31,one_v_t312,one_v_t33,one_v_t332,(qT (qT (qI gr35 hg33) hg34 hge1) hg35 hge2),((((k175.g0 hg32).g0 hg33).go hg34 dj1).go hg35 dj2),((((k176.g0 hg32).g0 hg33).go hg34 dj3).go hg35 dj4),((((k177.g0 hg32).g0 hg33).go hg34 dj5).go hg35 dj6),((((k178.g0 hg32).g0 hg33).go hg34 dj7).go hg35 dj8),(hB18.go hg35 dj9),hB19,(((ht31.grown hg33).stored k194 (noC (k193.no _ (List.Mem.head _)) (noC (k193.no _ (List.Mem.tail _ (List.Mem.head _))) noN)) hg34).stored k201 (noC (hstep_.no _ (List.Mem.head _)) (noC (hstep_.no _ (List.Mem.tail _ (List.Mem.head _))) noN)) hg35),((ht33.stored k194 (noC (k193.no _ (List.Mem.head _)) (noC (k193.no _ (List.Mem.tail _ (List.Mem.head _))) noN)) hg34).stored k201 (noC (hstep_.no _ (List.Mem.head _)) (noC (hstep_.no _ (List.Mem.tail _ (List.Mem.head _))) noN)) hg35)⟩))
    ·replace H:=H.2 (of_decide_eq_false b5)
     exact zt (WX.weaken sb (hQ _ _ ⟨v_t24,v_t242,t24,m_t24,v_step,v_step2,step_,m_step,rfl,H,one_v_t24,one_v_t242,(Nm.one1 hstep_),(Nm.one2 hstep_),gr34,k175,k176,k177,k178,k180,k181,k179,(hstep_.grown gr34)⟩))
  ·clear hJ1
   refine WA.y 0 rfl (by kernel_rfl) rfl (fun w' hw'=>zO (vs:=[v_to,v_to2]) qH (Bl.g0 k11 hw') rfl rfl rfl rfl) (WA.y 1 rfl (by kernel_rfl) rfl (fun w' hw'=>zO (vs:=[v_from,v_from2]) qH (Bl.g0 k10 hw') rfl rfl rfl rfl) (WA.y 3 rfl (by kernel_rfl) rfl (fun w' hw'=>zO (vs:=[v_step,v_step2]) qH (Bl.g0 k12 hw') rfl rfl rfl rfl) (WA.split [2,4,5] (by kernel_rfl) (by kernel_rfl) ⟨?_,?_,?_⟩)))
   ·refine WI.call rfl rfl qK rfl rfl (jl (hto_.grown gr6) (hfrom_.grown gr6) H) (fun v w' h w2 e=>qN (qI (qR _ none) h.1) e) ?_
    rintro _ w39 ⟨hg36,v_t243,v_t244,t242,m_t242,rfl,ht242,one_v_t243,one_v_t244,H⟩
    have gr39:=qI gr6 hg36
    have k211:=k10.g0 hg36
    have k212:=k11.g0 hg36
    have k213:=k12.g0 hg36
    have k214:=k13.g0 hg36
    have gt18:=qI (qR _ none) hg36
    refine WA.split [4,5] (by kernel_rfl) (by kernel_rfl) ⟨?_,?_⟩
    ·refine WI.put rfl rfl rfl (Eff.alloc qX) (fun v w' h=>qI gt18 h.2.2) ?_
     rintro _ w40 ⟨rfl,hB20,hg37⟩
     obtain ⟨d8,hl10⟩:∃ g,g=w39.heap.size:=⟨_,rfl⟩
     rw [<-hl10] at hB20
     rw [<-hl10]
     have gr40:=qI gr39 hg37
     have k215:=k211.g0 hg37
     have k216:=k212.g0 hg37
     have k217:=k213.g0 hg37
     have k218:=k214.g0 hg37
     have gt19:=qI gt18 hg37
     refine WA.split [5] (by kernel_rfl) (by kernel_rfl) ?_
     ·refine WI.put rfl rfl rfl (Eff.alloc qX) (fun v w' h=>qI gt19 h.2.2) ?_
      rintro _ w41 ⟨rfl,hB21,hg38⟩
      obtain ⟨e2,hl11⟩:∃ g,g=w40.heap.size:=⟨_,rfl⟩
      rw [<-hl11] at hB21
      rw [<-hl11]
      have k225:=hB20.g0 hg38
      have gt20:=qI gt19 hg38
      refine WA.split [6] (by kernel_rfl) (by kernel_rfl) ?_
      ·refine WI.eff rfl rfl (zU (vs:=[v_t243,v_t244]) qH rfl rfl rfl (qO one_v_t243 (qO one_v_t244 jf)) k225 rfl rfl) (fun w' h=>qT gt20 h.2 (Ge.le (Ge.box (Nat.le_of_eq hl10.symm)) (qL gt18))) ?_
       rintro w42 ⟨hB22,hg39⟩
       have k231:=hB21.go hg39 ((Dj.new hB20.lt' (Ge.box (Nat.le_of_eq hl11.symm))).symm)
       have gt21:=qT gt20 hg39 (Ge.le (Ge.box (Nat.le_of_eq hl10.symm)) (qL gt18))
       exact WA.doneF _ (by kernel_rfl) ⟨v_t243,v_t244,t242,m_t242,d8,e2,rfl,H,(qT (qI gr40 hg38) hg39 (Ge.le (Ge.box (Nat.le_of_eq hl10.symm)) (qL gr39))),((k215.g0 hg38).go hg39 (Dj.new k211.lt' (Ge.box (Nat.le_of_eq hl10.symm)))),((k216.g0 hg38).go hg39 (Dj.new k212.lt' (Ge.box (Nat.le_of_eq hl10.symm)))),((k217.g0 hg38).go hg39 (Dj.new k213.lt' (Ge.box (Nat.le_of_eq hl10.symm)))),((k218.g0 hg38).go hg39 (Dj.new k214.lt' (Ge.box (Nat.le_of_eq hl10.symm)))),(((ht242.grown hg37).grown hg38).stored k225 (noC (fun x h=>Value.noConfusion h) (noC (fun x h=>Value.noConfusion h) noN)) hg39),hB22,k231,one_v_t243,one_v_t244,(Dj.new k211.lt' (Ge.box (Nat.le_of_eq hl10.symm))),(Dj.new k215.lt' (Ge.box (Nat.le_of_eq hl11.symm))),(Dj.new k212.lt' (Ge.box (Nat.le_of_eq hl10.symm))),(Dj.new k216.lt' (Ge.box (Nat.le_of_eq hl11.symm))),(Dj.new k213.lt' (Ge.box (Nat.le_of_eq hl10.symm))),(Dj.new k217.lt' (Ge.box (Nat.le_of_eq hl11.symm))),(Dj.new k214.lt' (Ge.box (Nat.le_of_eq hl10.symm))),(Dj.new k218.lt' (Ge.box (Nat.le_of_eq hl11.symm))),(Dj.new hB20.lt' (Ge.box (Nat.le_of_eq hl11.symm))),(Ge.le (Ge.box (Nat.le_of_eq hl10.symm)) (qL gr39)),(Ge.le (Ge.box (Nat.le_of_eq hl11.symm)) (qL gr40))⟩ sb
    ·refine WI.put rfl rfl rfl (Eff.alloc qX) (fun v w' h=>qI gt18 h.2.2) ?_
     rintro _ w43 ⟨rfl,hB23,hg40⟩
     obtain ⟨e3,hl12⟩:∃ g,g=w39.heap.size:=⟨_,rfl⟩
     rw [<-hl12] at hB23
     rw [<-hl12]
     have gr43:=qI gr39 hg40
     have k232:=k211.g0 hg40
     have k233:=k212.g0 hg40
     have k234:=k213.g0 hg40
     have k235:=k214.g0 hg40
     have gt22:=qI gt18 hg40
     refine WA.split [4] (by kernel_rfl) (by kernel_rfl) ?_
     ·refine WI.put rfl rfl rfl (Eff.alloc qX) (fun v w' h=>qI gt22 h.2.2) ?_
      rintro _ w44 ⟨rfl,hB24,hg41⟩
      obtain ⟨d9,hl13⟩:∃ g,g=w43.heap.size:=⟨_,rfl⟩
      rw [<-hl13] at hB24
      rw [<-hl13]
      have gt23:=qI gt22 hg41
      refine WA.split [6] (by kernel_rfl) (by kernel_rfl) ?_
      ·refine WI.eff rfl rfl (zU (vs:=[v_t243,v_t244]) qH rfl rfl rfl (qO one_v_t243 (qO one_v_t244 jf)) hB24 rfl rfl) (fun w' h=>qT gt23 h.2 (Ge.le (Ge.box (Nat.le_of_eq hl13.symm)) (qL gt22))) ?_
       rintro w45 ⟨hB25,hg42⟩
       have k248:=(hB23.g0 hg41).go hg42 (Dj.new hB23.lt' (Ge.box (Nat.le_of_eq hl13.symm)))
       have gt24:=qT gt23 hg42 (Ge.le (Ge.box (Nat.le_of_eq hl13.symm)) (qL gt22))
       exact WA.doneF _ (by kernel_rfl) ⟨v_t243,v_t244,t242,m_t242,d9,e3,rfl,H,(qT (qI gr43 hg41) hg42 (Ge.le (Ge.box (Nat.le_of_eq hl13.symm)) (qL gr43))),((k232.g0 hg41).go hg42 (Dj.new k232.lt' (Ge.box (Nat.le_of_eq hl13.symm)))),((k233.g0 hg41).go hg42 (Dj.new k233.lt' (Ge.box (Nat.le_of_eq hl13.symm)))),((k234.g0 hg41).go hg42 (Dj.new k234.lt' (Ge.box (Nat.le_of_eq hl13.symm)))),((k235.g0 hg41).go hg42 (Dj.new k235.lt' (Ge.box (Nat.le_of_eq hl13.symm)))),(((ht242.grown hg40).grown hg41).stored hB24 (noC (fun x h=>Value.noConfusion h) (noC (fun x h=>Value.noConfusion h) noN)) hg42),hB25,k248,one_v_t243,one_v_t244,(Dj.new k232.lt' (Ge.box (Nat.le_of_eq hl13.symm))),(Dj.new k211.lt' (Ge.box (Nat.le_of_eq hl12.symm))),(Dj.new k233.lt' (Ge.box (Nat.le_of_eq hl13.symm))),(Dj.new k212.lt' (Ge.box (Nat.le_of_eq hl12.symm))),(Dj.new k234.lt' (Ge.box (Nat.le_of_eq hl13.symm))),(Dj.new k213.lt' (Ge.box (Nat.le_of_eq hl12.symm))),(Dj.new k235.lt' (Ge.box (Nat.le_of_eq hl13.symm))),(Dj.new k214.lt' (Ge.box (Nat.le_of_eq hl12.symm))),(Dj.new hB23.lt' (Ge.box (Nat.le_of_eq hl13.symm))).symm,(Ge.le (Ge.box (Nat.le_of_eq hl13.symm)) (qL gr43)),(Ge.le (Ge.box (Nat.le_of_eq hl12.symm)) (qL gr39))⟩ sb
   ·refine WI.put rfl rfl rfl (Eff.alloc qX) (fun v w' h=>qI (qR _ none) h.2.2) ?_
    rintro _ w46 ⟨rfl,hB26,hg43⟩
    obtain ⟨c7,hl14⟩:∃ g,g=w6.heap.size:=⟨_,rfl⟩
    rw [<-hl14] at hB26
    rw [<-hl14]
    have gr46:=qI gr6 hg43
    have k249:=k10.g0 hg43
    have k250:=k11.g0 hg43
    have k251:=k12.g0 hg43
    have k252:=k13.g0 hg43
    have gt25:=qI (qR _ none) hg43
    refine WA.split [2,5] (by kernel_rfl) (by kernel_rfl) ⟨?_,?_⟩
    ·refine WI.call rfl rfl qK rfl rfl (jl (hto_.grown gr46) (hfrom_.grown gr46) H) (fun v w' h w2 e=>qN (qI gt25 h.1) e) ?_
     rintro _ w47 ⟨hg44,v_t245,v_t246,t243,m_t243,rfl,ht243,one_v_t245,one_v_t246,H⟩
     have gr47:=qI gr46 hg44
     have k253:=k249.g0 hg44
     have k254:=k250.g0 hg44
     have k255:=k251.g0 hg44
     have k256:=k252.g0 hg44
     have k257:=hB26.g0 hg44
     have gt26:=qI gt25 hg44
     refine WA.split [5] (by kernel_rfl) (by kernel_rfl) ?_
     ·refine WI.put rfl rfl rfl (Eff.alloc qX) (fun v w' h=>qI gt26 h.2.2) ?_
      rintro _ w48 ⟨rfl,hB27,hg45⟩
      obtain ⟨e4,hl15⟩:∃ g,g=w47.heap.size:=⟨_,rfl⟩
      rw [<-hl15] at hB27
      rw [<-hl15]
      have k262:=k257.g0 hg45
      have gt27:=qI gt26 hg45
      refine WA.split [6] (by kernel_rfl) (by kernel_rfl) ?_
      ·refine WI.eff rfl rfl (zU (vs:=[v_t245,v_t246]) qH rfl rfl rfl (qO one_v_t245 (qO one_v_t246 jf)) k262 rfl rfl) (fun w' h=>qT gt27 h.2 (Ge.le (Ge.box (Nat.le_of_eq hl14.symm)) (qL (qR _ none)))) ?_
       rintro w49 ⟨hB28,hg46⟩
       have k269:=hB27.go hg46 ((Dj.new k257.lt' (Ge.box (Nat.le_of_eq hl15.symm))).symm)
       have gt28:=qT gt27 hg46 (Ge.le (Ge.box (Nat.le_of_eq hl14.symm)) (qL (qR _ none)))
       exact WA.doneF _ (by kernel_rfl) ⟨v_t245,v_t246,t243,m_t243,c7,e4,rfl,H,(qT (qI gr47 hg45) hg46 (Ge.le (Ge.box (Nat.le_of_eq hl14.symm)) (qL gr6))),((k253.g0 hg45).go hg46 (Dj.new k10.lt' (Ge.box (Nat.le_of_eq hl14.symm)))),((k254.g0 hg45).go hg46 (Dj.new k11.lt' (Ge.box (Nat.le_of_eq hl14.symm)))),((k255.g0 hg45).go hg46 (Dj.new k12.lt' (Ge.box (Nat.le_of_eq hl14.symm)))),((k256.g0 hg45).go hg46 (Dj.new k13.lt' (Ge.box (Nat.le_of_eq hl14.symm)))),((ht243.grown hg45).stored k262 (noC (fun x h=>Value.noConfusion h) (noC (fun x h=>Value.noConfusion h) noN)) hg46),hB28,k269,one_v_t245,one_v_t246,(Dj.new k10.lt' (Ge.box (Nat.le_of_eq hl14.symm))),(Dj.new k253.lt' (Ge.box (Nat.le_of_eq hl15.symm))),(Dj.new k11.lt' (Ge.box (Nat.le_of_eq hl14.symm))),(Dj.new k254.lt' (Ge.box (Nat.le_of_eq hl15.symm))),(Dj.new k12.lt' (Ge.box (Nat.le_of_eq hl14.symm))),(Dj.new k255.lt' (Ge.box (Nat.le_of_eq hl15.symm))),(Dj.new k13.lt' (Ge.box (Nat.le_of_eq hl14.symm))),(Dj.new k256.lt' (Ge.box (Nat.le_of_eq hl15.symm))),(Dj.new k257.lt' (Ge.box (Nat.le_of_eq hl15.symm))),(Ge.le (Ge.box (Nat.le_of_eq hl14.symm)) (qL gr6)),(Ge.le (Ge.box (Nat.le_of_eq hl15.symm)) (qL gr47))⟩ sb
    ·refine WI.put rfl rfl rfl (Eff.alloc qX) (fun v w' h=>qI gt25 h.2.2) ?_
     rintro _ w50 ⟨rfl,hB29,hg47⟩
     obtain ⟨e5,hl16⟩:∃ g,g=w46.heap.size:=⟨_,rfl⟩
     rw [<-hl16] at hB29
     rw [<-hl16]
     have gr50:=qI gr46 hg47
     have gt29:=qI gt25 hg47
     refine WA.split [2] (by kernel_rfl) (by kernel_rfl) ?_
     ·refine WI.call rfl rfl qK rfl rfl (jl (hto_.grown gr50) (hfrom_.grown gr50) H) (fun v w' h w2 e=>qN (qI gt29 h.1) e) ?_
      rintro _ w51 ⟨hg48,v_t247,v_t248,t244,m_t244,rfl,ht244,one_v_t247,one_v_t248,H⟩
      have k279:=(hB26.g0 hg47).g0 hg48
      have gt30:=qI gt29 hg48
      refine WA.split [6] (by kernel_rfl) (by kernel_rfl) ?_
      ·refine WI.eff rfl rfl (zU (vs:=[v_t247,v_t248]) qH rfl rfl rfl (qO one_v_t247 (qO one_v_t248 jf)) k279 rfl rfl) (fun w' h=>qT gt30 h.2 (Ge.le (Ge.box (Nat.le_of_eq hl14.symm)) (qL (qR _ none)))) ?_
       rintro w52 ⟨hB30,hg49⟩
       have gt31:=qT gt30 hg49 (Ge.le (Ge.box (Nat.le_of_eq hl14.symm)) (qL (qR _ none)))
       exact WA.doneF _ (by kernel_rfl) ⟨v_t247,v_t248,t244,m_t244,c7,e5,rfl,H,(qT (qI gr50 hg48) hg49 (Ge.le (Ge.box (Nat.le_of_eq hl14.symm)) (qL gr6))),(((k249.g0 hg47).g0 hg48).go hg49 (Dj.new k10.lt' (Ge.box (Nat.le_of_eq hl14.symm)))),(((k250.g0 hg47).g0 hg48).go hg49 (Dj.new k11.lt' (Ge.box (Nat.le_of_eq hl14.symm)))),(((k251.g0 hg47).g0 hg48).go hg49 (Dj.new k12.lt' (Ge.box (Nat.le_of_eq hl14.symm)))),(((k252.g0 hg47).g0 hg48).go hg49 (Dj.new k13.lt' (Ge.box (Nat.le_of_eq hl14.symm)))),(ht244.stored k279 (noC (fun x h=>Value.noConfusion h) (noC (fun x h=>Value.noConfusion h) noN)) hg49),hB30,((hB29.g0 hg48).go hg49 ((Dj.new hB26.lt' (Ge.box (Nat.le_of_eq hl16.symm))).symm)),one_v_t247,one_v_t248,(Dj.new k10.lt' (Ge.box (Nat.le_of_eq hl14.symm))),(Dj.new k249.lt' (Ge.box (Nat.le_of_eq hl16.symm))),(Dj.new k11.lt' (Ge.box (Nat.le_of_eq hl14.symm))),(Dj.new k250.lt' (Ge.box (Nat.le_of_eq hl16.symm))),(Dj.new k12.lt' (Ge.box (Nat.le_of_eq hl14.symm))),(Dj.new k251.lt' (Ge.box (Nat.le_of_eq hl16.symm))),(Dj.new k13.lt' (Ge.box (Nat.le_of_eq hl14.symm))),(Dj.new k252.lt' (Ge.box (Nat.le_of_eq hl16.symm))),(Dj.new hB26.lt' (Ge.box (Nat.le_of_eq hl16.symm))),(Ge.le (Ge.box (Nat.le_of_eq hl14.symm)) (qL gr6)),(Ge.le (Ge.box (Nat.le_of_eq hl16.symm)) (qL gr46))⟩ sb
   ·refine WI.put rfl rfl rfl (Eff.alloc qX) (fun v w' h=>qI (qR _ none) h.2.2) ?_
    rintro _ w53 ⟨rfl,hB31,hg50⟩
    obtain ⟨d4,hl17⟩:∃ g,g=w6.heap.size:=⟨_,rfl⟩
    rw [<-hl17] at hB31
    rw [<-hl17]
    have gr53:=qI gr6 hg50
    have k287:=k10.g0 hg50
    have k288:=k11.g0 hg50
    have k289:=k12.g0 hg50
    have k290:=k13.g0 hg50
    have gt32:=qI (qR _ none) hg50
    refine WA.split [2,4] (by kernel_rfl) (by kernel_rfl) ⟨?_,?_⟩
    ·refine WI.call rfl rfl qK rfl rfl (jl (hto_.grown gr53) (hfrom_.grown gr53) H) (fun v w' h w2 e=>qN (qI gt32 h.1) e) ?_
     rintro _ w54 ⟨hg51,v_t249,v_t2410,t245,m_t245,rfl,ht245,one_v_t249,one_v_t2410,H⟩
     have gr54:=qI gr53 hg51
     have k291:=k287.g0 hg51
     have k292:=k288.g0 hg51
     have k293:=k289.g0 hg51
     have k294:=k290.g0 hg51
     have k295:=hB31.g0 hg51
     have gt33:=qI gt32 hg51
     refine WA.split [4] (by kernel_rfl) (by kernel_rfl) ?_
     ·refine WI.put rfl rfl rfl (Eff.alloc qX) (fun v w' h=>qI gt33 h.2.2) ?_
      rintro _ w55 ⟨rfl,hB32,hg52⟩
      obtain ⟨e0,hl18⟩:∃ g,g=w54.heap.size:=⟨_,rfl⟩
      rw [<-hl18] at hB32
      rw [<-hl18]
      have gt34:=qI gt33 hg52
      refine WA.split [6] (by kernel_rfl) (by kernel_rfl) ?_
      ·refine WI.eff rfl rfl (zU (vs:=[v_t249,v_t2410]) qH rfl rfl rfl (qO one_v_t249 (qO one_v_t2410 jf)) hB32 rfl rfl) (fun w' h=>qT gt34 h.2 (Ge.le (Ge.box (Nat.le_of_eq hl18.symm)) (qL gt33))) ?_
       rintro w56 ⟨hB33,hg53⟩
       have gt35:=qT gt34 hg53 (Ge.le (Ge.box (Nat.le_of_eq hl18.symm)) (qL gt33))
       exact WA.doneF _ (by kernel_rfl) ⟨v_t249,v_t2410,t245,m_t245,e0,d4,rfl,H,(qT (qI gr54 hg52) hg53 (Ge.le (Ge.box (Nat.le_of_eq hl18.symm)) (qL gr54))),((k291.g0 hg52).go hg53 (Dj.new k291.lt' (Ge.box (Nat.le_of_eq hl18.symm)))),((k292.g0 hg52).go hg53 (Dj.new k292.lt' (Ge.box (Nat.le_of_eq hl18.symm)))),((k293.g0 hg52).go hg53 (Dj.new k293.lt' (Ge.box (Nat.le_of_eq hl18.symm)))),((k294.g0 hg52).go hg53 (Dj.new k294.lt' (Ge.box (Nat.le_of_eq hl18.symm)))),((ht245.grown hg52).stored hB32 (noC (fun x h=>Value.noConfusion h) (noC (fun x h=>Value.noConfusion h) noN)) hg53),hB33,((k295.g0 hg52).go hg53 (Dj.new k295.lt' (Ge.box (Nat.le_of_eq hl18.symm)))),one_v_t249,one_v_t2410,(Dj.new k291.lt' (Ge.box (Nat.le_of_eq hl18.symm))),(Dj.new k10.lt' (Ge.box (Nat.le_of_eq hl17.symm))),(Dj.new k292.lt' (Ge.box (Nat.le_of_eq hl18.symm))),(Dj.new k11.lt' (Ge.box (Nat.le_of_eq hl17.symm))),(Dj.new k293.lt' (Ge.box (Nat.le_of_eq hl18.symm))),(Dj.new k12.lt' (Ge.box (Nat.le_of_eq hl17.symm))),(Dj.new k294.lt' (Ge.box (Nat.le_of_eq hl18.symm))),(Dj.new k13.lt' (Ge.box (Nat.le_of_eq hl17.symm))),(Dj.new k295.lt' (Ge.box (Nat.le_of_eq hl18.symm))).symm,(Ge.le (Ge.box (Nat.le_of_eq hl18.symm)) (qL gr54)),(Ge.le (Ge.box (Nat.le_of_eq hl17.symm)) (qL gr6))⟩ sb
    ·refine WI.put rfl rfl rfl (Eff.alloc qX) (fun v w' h=>qI gt32 h.2.2) ?_
     rintro _ w57 ⟨rfl,hB34,hg54⟩
     obtain ⟨e1,hl19⟩:∃ g,g=w53.heap.size:=⟨_,rfl⟩
     rw [<-hl19] at hB34
     rw [<-hl19]
     have gr57:=qI gr53 hg54
     have gt36:=qI gt32 hg54
     refine WA.split [2] (by kernel_rfl) (by kernel_rfl) ?_
     ·refine WI.call rfl rfl qK rfl rfl (jl (hto_.grown gr57) (hfrom_.grown gr57) H) (fun v w' h w2 e=>qN (qI gt36 h.1) e) ?_
      rintro _ w58 ⟨hg55,v_t2411,v_t2412,t246,m_t246,rfl,ht246,one_v_t2411,one_v_t2412,H⟩
      have k318:=hB34.g0 hg55
      have gt37:=qI gt36 hg55
      refine WA.split [6] (by kernel_rfl) (by kernel_rfl) ?_
      ·refine WI.eff rfl rfl (zU (vs:=[v_t2411,v_t2412]) qH rfl rfl rfl (qO one_v_t2411 (qO one_v_t2412 jf)) k318 rfl rfl) (fun w' h=>qT gt37 h.2 (Ge.le (Ge.box (Nat.le_of_eq hl19.symm)) (qL gt32))) ?_
       rintro w59 ⟨hB35,hg56⟩
       have gt38:=qT gt37 hg56 (Ge.le (Ge.box (Nat.le_of_eq hl19.symm)) (qL gt32))
       exact WA.doneF _ (by kernel_rfl) ⟨v_t2411,v_t2412,t246,m_t246,e1,d4,rfl,H,(qT (qI gr57 hg55) hg56 (Ge.le (Ge.box (Nat.le_of_eq hl19.symm)) (qL gr53))),(((k287.g0 hg54).g0 hg55).go hg56 (Dj.new k287.lt' (Ge.box (Nat.le_of_eq hl19.symm)))),(((k288.g0 hg54).g0 hg55).go hg56 (Dj.new k288.lt' (Ge.box (Nat.le_of_eq hl19.symm)))),(((k289.g0 hg54).g0 hg55).go hg56 (Dj.new k289.lt' (Ge.box (Nat.le_of_eq hl19.symm)))),(((k290.g0 hg54).g0 hg55).go hg56 (Dj.new k290.lt' (Ge.box (Nat.le_of_eq hl19.symm)))),(ht246.stored k318 (noC (fun x h=>Value.noConfusion h) (noC (fun x h=>Value.noConfusion h) noN)) hg56),hB35,(((hB31.g0 hg54).g0 hg55).go hg56 (Dj.new hB31.lt' (Ge.box (Nat.le_of_eq hl19.symm)))),one_v_t2411,one_v_t2412,(Dj.new k287.lt' (Ge.box (Nat.le_of_eq hl19.symm))),(Dj.new k10.lt' (Ge.box (Nat.le_of_eq hl17.symm))),(Dj.new k288.lt' (Ge.box (Nat.le_of_eq hl19.symm))),(Dj.new k11.lt' (Ge.box (Nat.le_of_eq hl17.symm))),(Dj.new k289.lt' (Ge.box (Nat.le_of_eq hl19.symm))),(Dj.new k12.lt' (Ge.box (Nat.le_of_eq hl17.symm))),(Dj.new k290.lt' (Ge.box (Nat.le_of_eq hl19.symm))),(Dj.new k13.lt' (Ge.box (Nat.le_of_eq hl17.symm))),(Dj.new hB31.lt' (Ge.box (Nat.le_of_eq hl19.symm))).symm,(Ge.le (Ge.box (Nat.le_of_eq hl19.symm)) (qL gr53)),(Ge.le (Ge.box (Nat.le_of_eq hl17.symm)) (qL gr6))⟩ sb
set_option maxHeartbeats 8000000 in
theorem W_val_hold_span0 {w:World} {g_v:Nat} {v_v_from:Value} {v_v_from2:Value} {v_from:Int} {m_v_from:Nat} {v_v_to:Value} {v_v_to2:Value} {v_to:Int} {m_v_to:Nat} {v_v_step:Value} {v_v_step2:Value} {v_step:Int} {m_v_step:Nat} {v_n:Int} {by_:Int} {K:Prop} (hv_from:Nm w (.agg ⟨[v_v_from,v_v_from2]⟩) v_from m_v_from) (hv_to:Nm w (.agg ⟨[v_v_to,v_v_to2]⟩) v_to m_v_to) (hv_step:Nm w (.agg ⟨[v_v_step,v_v_step2]⟩) v_step m_v_step) (hv:Bl w g_v 189 [v_v_from,v_v_from2,v_v_to,v_v_to2,v_v_step,v_v_step2,.int .i64 v_n]) (H:M_val_hold_span0 v_from m_v_from v_to m_v_to v_step m_v_step v_n by_ K):Fn Tryz.prog 152 ⟨[.iface 187 (.pointer (some ⟨g_v,0,none⟩)),.int .i64 by_]⟩ w (fun v w'=>w.grownBy w' none/\v=.tuple #[]/\K ):=by
 unfold M_val_hold_span0 at H
 refine Fn.enter (by kernel_rfl) Tryz.func152 rfl Tryz.ntmps152 rfl ?_
 exact zg (zc (yp (h:=(zh (za (WC.block (zg (zc (zd rfl (assertNoX (z:=.pointer none) Tryz.underlying61 rfl (fun _=>by kernel_rfl) rfl rfl) (yp (h:=(yp (h:=(zh (za (zE rfl (fun h=>by cases h) (fun _=>zg (zc (zd rfl (assertNoX (z:=.pointer none) Tryz.underlying242 rfl (fun _=>by kernel_rfl) rfl rfl) (yp (h:=(yp (h:=(zh (za (zE rfl (fun h=>by cases h) (fun _=>zt (zf (qa rfl ⟨(qR _ _),rfl,H⟩)))))))))))))))))))))))))))))
set_option maxHeartbeats 8000000 in
theorem W_val_Hold_span0 {w:World} {g_v:Nat} {v_v_from:Value} {v_v_from2:Value} {v_from:Int} {m_v_from:Nat} {v_v_to:Value} {v_v_to2:Value} {v_to:Int} {m_v_to:Nat} {v_v_step:Value} {v_v_step2:Value} {v_step:Int} {m_v_step:Nat} {v_n:Int} {by_:Int} {K:Prop} (hv_from:Nm w (.agg ⟨[v_v_from,v_v_from2]⟩) v_from m_v_from) (hv_to:Nm w (.agg ⟨[v_v_to,v_v_to2]⟩) v_to m_v_to) (hv_step:Nm w (.agg ⟨[v_v_step,v_v_step2]⟩) v_step m_v_step) (hv:Bl w g_v 189 [v_v_from,v_v_from2,v_v_to,v_v_to2,v_v_step,v_v_step2,.int .i64 v_n]) (H:kn v_from m_v_from v_to m_v_to v_step m_v_step v_n by_ K):Fn Tryz.prog 87 ⟨[.iface 187 (.pointer (some ⟨g_v,0,none⟩)),.int .i64 by_]⟩ w (fun v w'=>w.grownBy w' none/\v=.tuple #[]/\K ):=by
 unfold kn at H
 refine Fn.enter (by kernel_rfl) Tryz.func87 rfl Tryz.ntmps87 rfl ?_
 refine zc (yp (h:=(yp (h:=(zK rfl rfl (W_val_hold_span0 hv_from hv_to hv_step hv H) ?_)))))
 rintro _ w1 ⟨hg1,rfl,H⟩
 exact zh (qa rfl ⟨hg1,rfl,H⟩)
set_option maxHeartbeats 8000000 in
theorem W_list_Each_span0 {S:List Nat} {w:World} {g_v:Nat} {v_v_from:Value} {v_v_from2:Value} {v_from:Int} {m_v_from:Nat} {v_v_to:Value} {v_v_to2:Value} {v_to:Int} {m_v_to:Nat} {v_v_step:Value} {v_v_step2:Value} {v_step:Int} {m_v_step:Nat} {v_n:Int} {K0:Er->Prop} {K:(List PV)->Int->Bool->Bool->Er->Prop} (hG:GOK S w) (hS3:3∈S) (hv_from:Nm w (.agg ⟨[v_v_from,v_v_from2]⟩) v_from m_v_from) (hv_to:Nm w (.agg ⟨[v_v_to,v_v_to2]⟩) v_to m_v_to) (hv_step:Nm w (.agg ⟨[v_v_step,v_v_step2]⟩) v_step m_v_step) (hv:Bl w g_v 189 [v_v_from,v_v_from2,v_v_to,v_v_to2,v_v_step,v_v_step2,.int .i64 v_n]) (H:M_list_Each_span0 v_from m_v_from v_to m_v_to v_step m_v_step v_n K0 K):Fn Tryz.prog 30 ⟨[.iface 187 (.pointer (some ⟨g_v,0,none⟩))]⟩ w (fun v w'=>w.grownBy w' none/\((∃ (v_r12:Value),∃ (r12:Er),v=.tuple #[.pointer none,v_r12]/\ErrR S w' v_r12 r12/\K0 r12)∨(∃ (c0:Nat),∃ (c2:List PV),∃ (b7:Option Addr),∃ (c6:Nat),∃ (a8:List VH),∃ (d6:Int),∃ (c1:Bool),∃ (c3:Bool),∃ (v_r1:Value),∃ (r1:Er),v=.tuple #[.pointer (some ⟨c0,0,none⟩),v_r1]/\Own vv w' w.heap.size 32 b7 c6 a8/\RelD deV w' a8 c2/\(∀ p:Option Nat,Lt p w.heap.size->DnD deV a8 c2 p)/\DnD deV a8 c2 (blk b7)/\ErrR S w' v_r1 r1/\Bl w' c0 168 [.iface 187 (.pointer (some ⟨g_v,0,none⟩)),.slice b7 c2.length c6,.int .i64 d6,.bool c1,.bool c3]/\Ge (some c0) w.heap.size/\DnD deV a8 c2 (blk b7)/\DnD deV a8 c2 (some c0)/\Dj (blk b7) (some c0)/\K c2 d6 c1 c3 r1))):=by
 unfold M_list_Each_span0 at H
 refine Fn.enter (by kernel_rfl) Tryz.func30 rfl Tryz.ntmps30 rfl ?_
 refine zg (zc (yp (h:=(yp (h:=(zh (za (zg (zc (yp (h:=?_)))))))))))
 have hv1:RelD deV w [(vnil,noF)] [PV.nil]:=j0
 refine zd rfl (z3 (us:=[.iface 187 (.pointer (some ⟨g_v,0,none⟩)),.slice none 0 0,.int .i64 (0:Int),.bool false,.bool false]) zero168 places168 rfl rfl) (z4 (us:=[.iface 187 (.pointer (some ⟨g_v,0,none⟩)),.slice none 0 0,.int .i64 (0:Int),.bool false,.bool false]) rfl rfl rfl (fun g1 w1 hB1 hg1 hl1=>?_))
 have gr1:=hg1
 refine yp (h:=(zh (za (zg ?_))))
 obtain ⟨J1,H,hJ1⟩:=H
 refine qk (fun L' w'=>L'=[(0,.iface 187 (.pointer (some ⟨g_v,0,none⟩))),(4,.pointer (some ⟨g1,0,none⟩))]/\J1/\w1=w') ?_ (fun hQ=>?_)
 ·clear H
  rintro _ _ ⟨rfl,H,rfl⟩
  replace H:=hJ1  H
  refine za (zg (zc (yp (h:=(zK rfl rfl (W_val_Hold_span0 (hv_from.grown gr1) (hv_to.grown gr1) (hv_step.grown gr1) (hv.g0 gr1) H) ?_)))))
  rintro _ w2 ⟨hg2,rfl,H⟩
  exact zh (za (zg (zc (yp (h:=(yp (h:=(yp (h:=(zh (za (zx (zW rfl rfl rfl ⟨(qI gr1 hg2),Or.inr ⟨g1,[],none,0,[],(0:Int),false,false,.nilIface,Er.ok,rfl,(Own.nil vv w2 w.heap.size 32),(RelD.nil (d:=deV) (w:=w2)),(NewD.nil (d:=deV)),DnD.nil,(ErrR.okR (S:=S) (w:=w2)),(hB1.g0 hg2),(Ge.le (Ge.box hl1) (Nat.le_refl _)),DnD.nil,DnD.nil,Dj.nl,H⟩⟩)))))))))))))
 ·clear hJ1
  refine zg (zc (yp (h:=(qy rfl rfl (fun w=>by kernel_rfl) rfl (W_plist_span_Kind (hv_from.grown gr1) (hv_to.grown gr1) (hv_step.grown gr1) (hv.g0 gr1) H) ?_))))
  rintro _ _ ⟨rfl,t9,rfl,H⟩
  refine zh (za (WC.block (zg ?_)))
  obtain ⟨J2,H,hJ2⟩:=H
  refine qk (fun L' w'=>∃ (t11:Bool),L'=[(0,.iface 187 (.pointer (some ⟨g_v,0,none⟩))),(4,.pointer (some ⟨g1,0,none⟩)),(9,.int .i64 t9),(11,.bool t11)]/\J2 t11/\w1=w') ?_ (fun hQ1=>?_)
  ·clear H
   rintro _ _ ⟨t11,rfl,H,rfl⟩
   replace H:=hJ2 t11 H
   refine za (zE rfl (fun b1=>?_) (fun b1=>?_))
   ·replace H:=H.1 (b1)
    exact zc (yp (h:=(yp (h:=(False.elim H)))))
   ·replace H:=H.2 (b1)
    refine zg (zc (yp (h:=(yp (h:=(zh (za (zE rfl (fun b2=>?_) (fun b2=>?_)))))))))
    ·replace H:=H.1 (of_decide_eq_true b2)
     exact zt (zf (WX.weaken sb (hQ _ _ ⟨rfl,H,rfl⟩)))
    ·replace H:=H.2 (of_decide_eq_false b2)
     refine zg (ql jg (by kernel_rfl) ?_)
     obtain ⟨vE1,_,hE1⟩:=GOK.get (hG.grown gr1) 3 0 hS3 rfl rfl
     exact z8 rfl (Yld.cell qH (ErrR.cell hE1 rfl) rfl rfl) (z8 rfl (ze qH rfl) (z8 rfl (ze qH rfl) (qu (za (zx (zn (zi (zW rfl rfl rfl ⟨gr1,Or.inl ⟨vE1,(Er.e 3),rfl,hE1,H⟩⟩))))))))
  ·clear hJ2
   refine zg (zc (yp (h:=(yp (h:=(zh (za (zE rfl (fun b3=>?_) (fun b3=>?_)))))))))
   ·replace H:=H.1 (of_decide_eq_true b3)
    exact zt (WX.weaken sb (hQ1 _ _ ⟨decide (t9=(5:Int)),rfl,H,rfl⟩))
   ·replace H:=H.2 (of_decide_eq_false b3)
    refine zg (zc (yp (h:=(yp (h:=(zh (za (zE rfl (fun b4=>?_) (fun b4=>?_)))))))))
    ·replace H:=H.1 (of_decide_eq_true b4)
     exact zt (WX.weaken sb (hQ1 _ _ ⟨decide (t9=(6:Int)),rfl,H,rfl⟩))
    ·replace H:=H.2 (of_decide_eq_false b4)
     exact zc (yp (h:=(yp (h:=(zh (WX.weaken sb (hQ1 _ _ ⟨decide (t9=(7:Int)),rfl,H,rfl⟩)))))))
set_option maxHeartbeats 8000000 in
theorem W_plist_Over_next_span0 {w:World} {g_o:Nat} {a1:Nat} {v_o_v_from:Value} {v_o_v_from2:Value} {o_v_from:Int} {m_o_v_from:Nat} {v_o_v_to:Value} {v_o_v_to2:Value} {o_v_to:Int} {m_o_v_to:Nat} {v_o_v_step:Value} {v_o_v_step2:Value} {o_v_step:Int} {m_o_v_step:Nat} {o_v_n:Int} {o_l:List PV} {a2:Option Addr} {a4:Nat} {a0:List VH} {o_at:Int} {o_ended:Bool} {o_Paid:Bool} {b0:Nat} {K:PV->Bool->Int->Bool->Bool->Prop} (ho_v_from:Nm w (.agg ⟨[v_o_v_from,v_o_v_from2]⟩) o_v_from m_o_v_from) (ho_v_to:Nm w (.agg ⟨[v_o_v_to,v_o_v_to2]⟩) o_v_to m_o_v_to) (ho_v_step:Nm w (.agg ⟨[v_o_v_step,v_o_v_step2]⟩) o_v_step m_o_v_step) (ho_v:Bl w a1 189 [v_o_v_from,v_o_v_from2,v_o_v_to,v_o_v_to2,v_o_v_step,v_o_v_step2,.int .i64 o_v_n]) (ho_l:Rd vv w a2 a4 a0) (b9:b0=o_l.length) (a9:RelD deV w a0 o_l) (ho:Bl w g_o 168 [.iface 187 (.pointer (some ⟨a1,0,none⟩)),.slice a2 b0 a4,.int .i64 o_at,.bool o_ended,.bool o_Paid]) (hap0:AllP (Dj (some a1)) [(some g_o)]) (hap1:AllP (Dn a0 (blk a2)) [(some g_o)]) (hap2:AllP (DnD deV a0 o_l) [(some g_o)]) (H:j1 o_v_from m_o_v_from o_v_to m_o_v_to o_v_step m_o_v_step o_v_n o_l o_at o_ended o_Paid K):Fn Tryz.prog 88 ⟨[.pointer (some ⟨g_o,0,none⟩)]⟩ w (fun v w'=>GrL [(some g_o)] w w'/\∃ (v_r0:OV),∃ (F_r0:Nat->Prop),∃ (r0:PV),∃ (r1:Bool),∃ (o_at2:Int),∃ (o_ended2:Bool),∃ (o_Paid2:Bool),v=.tuple #[v_r0.1,.bool r1]/\RelD deV w' [(v_r0,F_r0)] [r0]/\(∀ p:Option Nat,Lt p w.heap.size->DnD deV a0 o_l p->DnD deV [(v_r0,F_r0)] [r0] p)/\Bl w' g_o 168 [.iface 187 (.pointer (some ⟨a1,0,none⟩)),.slice a2 o_l.length a4,.int .i64 o_at2,.bool o_ended2,.bool o_Paid2]/\DnD deV [(v_r0,F_r0)] [r0] (some g_o)/\K r0 r1 o_at2 o_ended2 o_Paid2):=by
 subst b9
 unfold j1 at H
 refine Fn.enter (by kernel_rfl) Tryz.func88 rfl Tryz.ntmps88 rfl ?_
 replace H:=H (by rw [<-a9.1]; exact Nat.le_trans ho_l.cap ho_l.max)
 have hNoAt:AllP (NoAt w) [(some g_o)]:=(apC (NoAt.bl ho rfl) apN)
 refine zg (zc ?_)
 have hv1:RelD deV w [(vnil,noF)] [PV.nil]:=j0
 refine yp (h:=(yp (h:=(zh (za (zg (zc (yp (h:=(yp (h:=(yp (h:=(zd rfl (zH qH ho rfl rfl rfl) (yp (h:=(yp (h:=(zh (za (zg (zc (yp (h:=(yp (h:=(yp (h:=(zd rfl (zH qH ho rfl rfl rfl) (zd rfl (jc (v:=⟨.iface 187 (.pointer (some ⟨a1,0,none⟩)),rfl⟩) Tryz.underlying187 rfl rfl rfl) (yp (h:=(yp (h:=(yp (h:=(yp (h:=(yp (h:=(zh (za (zg ?_)))))))))))))))))))))))))))))))))))))))))))
 obtain ⟨J1,H,hJ1⟩:=H
 refine qk (fun L' w'=>L'=[(0,.pointer (some ⟨g_o,0,none⟩)),(4,.int .i64 o_v_n),(5,.pointer (some ⟨a1,0,none⟩)),(6,.bool true)]/\J1/\w=w') ?_ (fun hQ=>?_)
 ·clear H
  rintro _ _ ⟨rfl,H,rfl⟩
  replace H:=hJ1  H
  refine za (zg (zg (zc (yp (h:=(yp (h:=(yp (h:=(zd rfl (zH qH ho rfl rfl rfl) (yp (h:=(zV 7 (fun L' w'=>∃ q1:Bool,L'=[(36,.bool q1),(0,.pointer (some ⟨g_o,0,none⟩)),(5,.pointer (some ⟨a1,0,none⟩)),(6,.bool true)]/\(o_ended || (decide (o_v_n<=o_at)))=q1/\w=w') ?_ (fun hQ=>?_))))))))))))))
  ·rintro _ _ ⟨q1,rfl,rfl,rfl⟩
   refine zh (za (zE rfl (fun b1=>?_) (fun b1=>?_)))
   ·replace H:=H.1 (b1)
    refine zg (zc ?_)
    have hv2:RelD deV w [(vnil,noF)] [PV.nil]:=j0
    exact yp (h:=(yp (h:=(zh (za (zx (zi (zW rfl rfl rfl ⟨(GrL.refl _),vnil,noF,PV.nil,false,o_at,o_ended,o_Paid,rfl,hv2,(fun p_ hp_ v0_=>deV_nilD),ho,deV_nilD,H⟩))))))))
   ·replace H:=H.2 (b1)
    refine zt (za (zg (zc (yp (h:=(yp (h:=(yp (h:=(zd rfl (zH qH ho rfl rfl rfl) ?_))))))))))
    obtain ⟨h1,H⟩:=H
    refine zd rfl (Yld.add rfl rfl h1) (yp (h:=(yp (h:=(qp one2 rfl rfl rfl ho (by simp) (fun w1 hB2 hg1=>?_))))))
    have hB1:Bl w1 g_o 168 [.iface 187 (.pointer (some ⟨a1,0,none⟩)),.slice a2 o_l.length a4,.int .i64 (o_at+(1:Int)),.bool o_ended,.bool o_Paid]:=hB2
    have gr1:GrL [(some g_o)] w w1:=GrL.mod (GrL.refl _) hg1 (InP.mem (List.Mem.head _))
    have k1:=ho_v_from.stored ho (noC (fun x h=>Value.noConfusion h) (noC (fun x h=>Value.noConfusion h) (noC (fun x h=>by injection h with h1 _; cases h1) (noC (fun x h=>Value.noConfusion h) (noC (fun x h=>Value.noConfusion h) noN))))) hg1
    have k2:=ho_v_to.stored ho (noC (fun x h=>Value.noConfusion h) (noC (fun x h=>Value.noConfusion h) (noC (fun x h=>by injection h with h1 _; cases h1) (noC (fun x h=>Value.noConfusion h) (noC (fun x h=>Value.noConfusion h) noN))))) hg1
    have k3:=ho_v_step.stored ho (noC (fun x h=>Value.noConfusion h) (noC (fun x h=>Value.noConfusion h) (noC (fun x h=>by injection h with h1 _; cases h1) (noC (fun x h=>Value.noConfusion h) (noC (fun x h=>Value.noConfusion h) noN))))) hg1
    refine zh (za (zg (zg (zc (yp (h:=(zh (za (zE rfl (fun _=>zg (zc (yp (h:=(yp (h:=(yp (h:=(yp (h:=(zd rfl (zH qH hB1 rfl rfl rfl) ?_))))))))))) (fun h=>by cases h))))))))))
    obtain ⟨h2,H⟩:=H
    refine zd rfl (Yld.sub rfl rfl h2) (zK rfl rfl (W_plist_span_item k1 k2 k3 (ho_v.goL gr1 hap0) H) ?_)
    rintro _ w2 ⟨hg2,v_t2,F_t2,t2,rfl,ht2,ho1,H⟩
    have k4:=k1.grown hg2
    have k5:=k2.grown hg2
    have k6:=k3.grown hg2
    exact yp (h:=(yp (h:=(zh (za (zx (zi (zW rfl rfl rfl ⟨(GrL.add0 gr1 hg2),v_t2,F_t2,t2,true,o_at+(1:Int),o_ended,o_Paid,rfl,ht2,(fun p_ hp_ v0_=>have q_:=v0_; ho1 p_ (fun g_ e_=>Nat.lt_of_lt_of_le (hp_ g_ e_) (GrL.sizeL gr1))),(hB1.g0 hg2),(ho1 _ hB1.lt'),H⟩))))))))
  ·clear H
   rcases Bool.eq_false_or_eq_true (o_ended) with b2 | b2
   ·exact gn b2 (h:=(gn b2 (h:=(gn b2 (h:=(gn b2 (h:=(gn b2 (h:=(gn b2 (h:=(zd rfl (zR (okb b2) rfl) (wk (hQ _ _ ⟨true,rfl,by rw [b2] <;> rfl,rfl⟩))))))))))))))
   ·exact gp b2 (h:=(gp b2 (h:=(gp b2 (h:=(zb rfl rfl (okb b2) rfl (zH qH ho rfl rfl rfl) (gp b2 (h:=(gp b2 (h:=(zd rfl (zN (okb b2) rfl) (wk (hQ _ _ ⟨decide (o_v_n<=o_at),rfl,by rw [b2] <;> rfl,rfl⟩)))))))))))))
 ·clear hJ1
  exact zg (zc (yp (h:=(zh (za (zE rfl (fun _=>zc (yp (h:=(yp (h:=(zd rfl (zX (o:=6) (by kernel_rfl) rfl) (zd rfl (zH qH ho_v rfl rfl rfl) (yp (h:=(zh (WX.weaken sb (hQ _ _ ⟨rfl,H,rfl⟩)))))))))))) (fun h=>by cases h)))))))
set_option maxHeartbeats 8000000 in
theorem kx {w:World} {g_o:Nat} {a1:Nat} {v_o_v_from:Value} {v_o_v_from2:Value} {o_v_from:Int} {m_o_v_from:Nat} {v_o_v_to:Value} {v_o_v_to2:Value} {o_v_to:Int} {m_o_v_to:Nat} {v_o_v_step:Value} {v_o_v_step2:Value} {o_v_step:Int} {m_o_v_step:Nat} {o_v_n:Int} {o_l:List PV} {a2:Option Addr} {a4:Nat} {a0:List VH} {o_at:Int} {o_ended:Bool} {o_Paid:Bool} {b0:Nat} {K:PV->Bool->Int->Bool->Bool->Prop} (ho_v_from:Nm w (.agg ⟨[v_o_v_from,v_o_v_from2]⟩) o_v_from m_o_v_from) (ho_v_to:Nm w (.agg ⟨[v_o_v_to,v_o_v_to2]⟩) o_v_to m_o_v_to) (ho_v_step:Nm w (.agg ⟨[v_o_v_step,v_o_v_step2]⟩) o_v_step m_o_v_step) (ho_v:Bl w a1 189 [v_o_v_from,v_o_v_from2,v_o_v_to,v_o_v_to2,v_o_v_step,v_o_v_step2,.int .i64 o_v_n]) (ho_l:Rd vv w a2 a4 a0) (b9:b0=o_l.length) (a9:RelD deV w a0 o_l) (ho:Bl w g_o 168 [.iface 187 (.pointer (some ⟨a1,0,none⟩)),.slice a2 b0 a4,.int .i64 o_at,.bool o_ended,.bool o_Paid]) (hap0:AllP (Dj (some a1)) [(some g_o)]) (hap1:AllP (Dn a0 (blk a2)) [(some g_o)]) (hap2:AllP (DnD deV a0 o_l) [(some g_o)]) (H:jr o_v_from m_o_v_from o_v_to m_o_v_to o_v_step m_o_v_step o_v_n o_l o_at o_ended o_Paid K):Fn Tryz.prog 31 ⟨[.pointer (some ⟨g_o,0,none⟩)]⟩ w (fun v w'=>GrL [(some g_o)] w w'/\∃ (v_r0:OV),∃ (F_r0:Nat->Prop),∃ (r0:PV),∃ (r1:Bool),∃ (o_at2:Int),∃ (o_ended2:Bool),∃ (o_Paid2:Bool),v=.tuple #[v_r0.1,.bool r1]/\RelD deV w' [(v_r0,F_r0)] [r0]/\(∀ p:Option Nat,Lt p w.heap.size->DnD deV a0 o_l p->DnD deV [(v_r0,F_r0)] [r0] p)/\Bl w' g_o 168 [.iface 187 (.pointer (some ⟨a1,0,none⟩)),.slice a2 o_l.length a4,.int .i64 o_at2,.bool o_ended2,.bool o_Paid2]/\DnD deV [(v_r0,F_r0)] [r0] (some g_o)/\K r0 r1 o_at2 o_ended2 o_Paid2):=by
 subst b9
 unfold jr at H
 refine Fn.enter (by kernel_rfl) Tryz.func31 rfl Tryz.ntmps31 rfl ?_
 replace H:=H (by rw [<-a9.1]; exact Nat.le_trans ho_l.cap ho_l.max)
 have hNoAt:AllP (NoAt w) [(some g_o)]:=(apC (NoAt.bl ho rfl) apN)
 refine zg (zc ?_)
 have hv1:RelD deV w [(vnil,noF)] [PV.nil]:=j0
 refine yp (h:=(yp (h:=(zh (za (zg (zc (yp (h:=(zK rfl rfl (W_plist_Over_next_span0 ho_v_from ho_v_to ho_v_step ho_v ho_l rfl a9 ho (apC (InP.dj (InP.mem (List.Mem.head _)) ho_v.lt' hap0).symm apN) (apC (InP.dn (InP.mem (List.Mem.head _)) (fun hx_=>ho_l.lt' hx_) hap1) apN) (apC (a9.inp hap2 (InP.mem (List.Mem.head _))) apN) H) ?_))))))))))
 rintro _ w1 ⟨hgl1,v_t50,F_t50,t50,t51,o_,o_2,o_3,rfl,ht50,ho1,hB1,dj1,H⟩
 have gr1:GrL [(some g_o)] w w1:=GrL.modL (GrL.refl _) hgl1 (apC (InP.mem (List.Mem.head _)) apN)
 exact yp (h:=(yp (h:=(yp (h:=(yp (h:=(zh (za (zx (zW rfl rfl rfl ⟨gr1,v_t50,F_t50,t50,t51,o_,o_2,o_3,rfl,ht50,(fun p_ hp_ v0_=>have q_:=v0_; ho1 p_ (fun g_ e_=>Nat.lt_of_lt_of_le (hp_ g_ e_) (Nat.le_refl _)) (q_)),hB1,dj1,H⟩)))))))))))
set_option maxHeartbeats 8000000 in
theorem WQ_plist_Over_End_span0 {w:World} {g_o:Nat} {a1:Nat} {v_o_v_from:Value} {v_o_v_from2:Value} {o_v_from:Int} {m_o_v_from:Nat} {v_o_v_to:Value} {v_o_v_to2:Value} {o_v_to:Int} {m_o_v_to:Nat} {v_o_v_step:Value} {v_o_v_step2:Value} {o_v_step:Int} {m_o_v_step:Nat} {o_v_n:Int} {o_l:List PV} {a2:Option Addr} {a4:Nat} {a0:List VH} {o_at:Int} {o_ended:Bool} {o_Paid:Bool} {b0:Nat} {K:Int->Bool->Bool->Prop} (ho_v_from:Nm w (.agg ⟨[v_o_v_from,v_o_v_from2]⟩) o_v_from m_o_v_from) (ho_v_to:Nm w (.agg ⟨[v_o_v_to,v_o_v_to2]⟩) o_v_to m_o_v_to) (ho_v_step:Nm w (.agg ⟨[v_o_v_step,v_o_v_step2]⟩) o_v_step m_o_v_step) (ho_v:Bl w a1 189 [v_o_v_from,v_o_v_from2,v_o_v_to,v_o_v_to2,v_o_v_step,v_o_v_step2,.int .i64 o_v_n]) (ho_l:Rd vv w a2 a4 a0) (b9:b0=o_l.length) (a9:RelD deV w a0 o_l) (ho:Bl w g_o 168 [.iface 187 (.pointer (some ⟨a1,0,none⟩)),.slice a2 b0 a4,.int .i64 o_at,.bool o_ended,.bool o_Paid]) (hap0:AllP (Dj (some a1)) [(some g_o)]) (hap1:AllP (Dn a0 (blk a2)) [(some g_o)]) (hap2:AllP (DnD deV a0 o_l) [(some g_o)]) (H:j5 o_v_from m_o_v_from o_v_to m_o_v_to o_v_step m_o_v_step o_v_n o_l o_at o_ended o_Paid K):FnQ Tryz.prog 34 ⟨[.pointer (some ⟨g_o,0,none⟩)]⟩ w (fun v w'=>GrL [(some g_o)] w w'/\∃ (o_at2:Int),∃ (o_ended2:Bool),∃ (o_Paid2:Bool),v=.tuple #[]/\Bl w' g_o 168 [.iface 187 (.pointer (some ⟨a1,0,none⟩)),.slice a2 o_l.length a4,.int .i64 o_at2,.bool o_ended2,.bool o_Paid2]/\K o_at2 o_ended2 o_Paid2):=by
 subst b9
 unfold j5 at H
 refine FnQ.enter (by kernel_rfl) Tryz.func34 rfl Tryz.ntmps34 rfl ?_
 replace H:=H (by rw [<-a9.1]; exact Nat.le_trans ho_l.cap ho_l.max)
 have hNoAt:AllP (NoAt w) [(some g_o)]:=(apC (NoAt.bl ho rfl) apN)
 refine zg (zc (yp (h:=(yp (h:=(yp (h:=(zd rfl (zH qH ho rfl rfl rfl) (yp (h:=(zh (za (zE rfl (fun b1=>?_) (fun b1=>?_))))))))))))))
 ·replace H:=H.1 (b1)
  refine zg (zc (yp (h:=(yp (h:=(yp (h:=(qp one4 rfl rfl rfl ho (by simp) (fun w1 hB2 hg1=>?_)))))))))
  have hB1:Bl w1 g_o 168 [.iface 187 (.pointer (some ⟨a1,0,none⟩)),.slice a2 o_l.length a4,.int .i64 o_at,.bool true,.bool o_Paid]:=hB2
  have gr1:GrL [(some g_o)] w w1:=GrL.mod (GrL.refl _) hg1 (InP.mem (List.Mem.head _))
  have k1:=ho_v_from.stored ho (noC (fun x h=>Value.noConfusion h) (noC (fun x h=>Value.noConfusion h) (noC (fun x h=>by injection h with h1 _; cases h1) (noC (fun x h=>Value.noConfusion h) (noC (fun x h=>Value.noConfusion h) noN))))) hg1
  have k2:=ho_v_to.stored ho (noC (fun x h=>Value.noConfusion h) (noC (fun x h=>Value.noConfusion h) (noC (fun x h=>by injection h with h1 _; cases h1) (noC (fun x h=>Value.noConfusion h) (noC (fun x h=>Value.noConfusion h) noN))))) hg1
  have k3:=ho_v_step.stored ho (noC (fun x h=>Value.noConfusion h) (noC (fun x h=>Value.noConfusion h) (noC (fun x h=>by injection h with h1 _; cases h1) (noC (fun x h=>Value.noConfusion h) (noC (fun x h=>Value.noConfusion h) noN))))) hg1
  refine zh (za (zc (yp (h:=(yp (h:=(yp (h:=(zd rfl (zH qH hB1 rfl rfl rfl) (zK rfl rfl (W_val_Hold_span0 k1 k2 k3 (ho_v.goL gr1 hap0) H) ?_))))))))))
  rintro _ w2 ⟨hg2,rfl,H⟩
  have k4:=k1.grown hg2
  have k5:=k2.grown hg2
  have k6:=k3.grown hg2
  exact zh (qa rfl ⟨(GrL.add0 gr1 hg2),o_at,true,o_Paid,rfl,(hB1.g0 hg2),H⟩)
 ·replace H:=H.2 (b1)
  exact zt (qa rfl ⟨(GrL.refl _),o_at,o_ended,o_Paid,rfl,ho,H⟩)
set_option maxHeartbeats 8000000 in
theorem W_val_counts_span0 {w:World} {g_v:Nat} {v_v_from:Value} {v_v_from2:Value} {v_from:Int} {m_v_from:Nat} {v_v_to:Value} {v_v_to2:Value} {v_to:Int} {m_v_to:Nat} {v_v_step:Value} {v_v_step2:Value} {v_step:Int} {m_v_step:Nat} {v_n:Int} {K:Bool->Prop} (hv_from:Nm w (.agg ⟨[v_v_from,v_v_from2]⟩) v_from m_v_from) (hv_to:Nm w (.agg ⟨[v_v_to,v_v_to2]⟩) v_to m_v_to) (hv_step:Nm w (.agg ⟨[v_v_step,v_v_step2]⟩) v_step m_v_step) (hv:Bl w g_v 189 [v_v_from,v_v_from2,v_v_to,v_v_to2,v_v_step,v_v_step2,.int .i64 v_n]) (H:kv v_from m_v_from v_to m_v_to v_step m_v_step v_n K):Fn Tryz.prog 111 ⟨[.iface 187 (.pointer (some ⟨g_v,0,none⟩))]⟩ w (fun v w'=>w.grownBy w' none/\∃ (r:Bool),v=.bool r/\K r):=by
 unfold kv at H
 refine Fn.enter (by kernel_rfl) Tryz.func111 rfl Tryz.ntmps111 rfl ?_
 refine zg (zc (yp (h:=(zh (za (zg (zg (zc (yp (h:=(zh (za (WC.block (zg (zc (zd rfl (assertNoX (z:=.agg ⟨[]⟩) Tryz.underlying221 rfl (fun _=>by kernel_rfl) rfl rfl) (yp (h:=(yp (h:=(zh (za (zE rfl (fun h=>by cases h) (fun _=>zg (zc (zd rfl (assertNoX (z:=.bool false) Tryz.underlying223 rfl (fun _=>by kernel_rfl) rfl rfl) (yp (h:=(yp (h:=(zh (za (zE rfl (fun h=>by cases h) (fun _=>zg (zc (zd rfl (assertNoX (z:=.agg ⟨[.bool false,.slice none 0 0]⟩) Tryz.underlying208 rfl (fun _=>by kernel_rfl) rfl rfl) (yp (h:=(yp (h:=(zh (za (zE rfl (fun h=>by cases h) (fun _=>zg (zc (zd rfl (assertNoIX (z:=.nilIface) Tryz.underlying232 (fun _=>by kernel_rfl) (by decide +kernel) rfl) (yp (h:=(yp (h:=(zh (za (zE rfl (fun h=>by cases h) (fun _=>zg (zc (zd rfl (assertYesIX Tryz.underlying229 (by decide +kernel) rfl) (yp (h:=(yp (h:=(zh (za (zE rfl (fun _=>zg (zc (yp (h:=(zh (za (zg (zc (yp (h:=?_)))))))))) (fun h=>by cases h))))))))))))))))))))))))))))))))))))))))))))))))))))))))))))))))
 refine qy rfl rfl (fun w=>by kernel_rfl) rfl (W_plist_span_Many hv_from hv_to hv_step hv H) ?_
 rintro _ _ ⟨rfl,t36,rfl,H⟩
 exact yp (h:=(yp (h:=(zh (za (zx (zn (zi (zM rfl rfl ⟨(qR _ _),decide ((0:Int)<t36),rfl,H⟩)))))))))
set_option maxHeartbeats 8000000 in
theorem W_val_Truth_span0 {w:World} {g_v:Nat} {v_v_from:Value} {v_v_from2:Value} {v_from:Int} {m_v_from:Nat} {v_v_to:Value} {v_v_to2:Value} {v_to:Int} {m_v_to:Nat} {v_v_step:Value} {v_v_step2:Value} {v_step:Int} {m_v_step:Nat} {v_n:Int} {K:Bool->Prop} (hv_from:Nm w (.agg ⟨[v_v_from,v_v_from2]⟩) v_from m_v_from) (hv_to:Nm w (.agg ⟨[v_v_to,v_v_to2]⟩) v_to m_v_to) (hv_step:Nm w (.agg ⟨[v_v_step,v_v_step2]⟩) v_step m_v_step) (hv:Bl w g_v 189 [v_v_from,v_v_from2,v_v_to,v_v_to2,v_v_step,v_v_step2,.int .i64 v_n]) (H:M_val_Truth_span0 v_from m_v_from v_to m_v_to v_step m_v_step v_n K):Fn Tryz.prog 46 ⟨[.iface 187 (.pointer (some ⟨g_v,0,none⟩))]⟩ w (fun v w'=>w.grownBy w' none/\∃ (r:Bool),v=.bool r/\K r):=by
 unfold M_val_Truth_span0 at H
 refine Fn.enter (by kernel_rfl) Tryz.func46 rfl Tryz.ntmps46 rfl ?_
 refine zg (zc (yp (h:=(zh (za (zg (zc (yp (h:=(zK rfl rfl (W_val_counts_span0 hv_from hv_to hv_step hv H) ?_))))))))))
 rintro _ w1 ⟨hg1,t2,rfl,H⟩
 exact yp (h:=(zh (za (zx (zM rfl rfl ⟨hg1,t2,rfl,H⟩)))))
set_option maxHeartbeats 8000000 in
theorem W_list_size_span0 {w:World} {g_v:Nat} {v_v_from:Value} {v_v_from2:Value} {v_from:Int} {m_v_from:Nat} {v_v_to:Value} {v_v_to2:Value} {v_to:Int} {m_v_to:Nat} {v_v_step:Value} {v_v_step2:Value} {v_step:Int} {m_v_step:Nat} {v_n:Int} {K:Int->Bool->Prop} (hv_from:Nm w (.agg ⟨[v_v_from,v_v_from2]⟩) v_from m_v_from) (hv_to:Nm w (.agg ⟨[v_v_to,v_v_to2]⟩) v_to m_v_to) (hv_step:Nm w (.agg ⟨[v_v_step,v_v_step2]⟩) v_step m_v_step) (hv:Bl w g_v 189 [v_v_from,v_v_from2,v_v_to,v_v_to2,v_v_step,v_v_step2,.int .i64 v_n]) (H:M_list_size_span0 v_from m_v_from v_to m_v_to v_step m_v_step v_n K):Fn Tryz.prog 90 ⟨[.iface 187 (.pointer (some ⟨g_v,0,none⟩))]⟩ w (fun v w'=>w.grownBy w' none/\∃ (r0:Int),∃ (r1:Bool),v=.tuple #[.int .i64 r0,.bool r1]/\K r0 r1):=by
 unfold M_list_size_span0 at H
 refine Fn.enter (by kernel_rfl) Tryz.func90 rfl Tryz.ntmps90 rfl ?_
 exact zg (zc (yp (h:=(yp (h:=(zh (za (zg (zg (zc (yp (h:=(zd rfl (jc (v:=⟨.iface 187 (.pointer (some ⟨g_v,0,none⟩)),rfl⟩) Tryz.underlying187 rfl rfl rfl) (yp (h:=(yp (h:=(yp (h:=(yp (h:=(yp (h:=(zh (za (zg (zc (yp (h:=(zh (za (zE rfl (fun _=>zg (zc (yp (h:=(yp (h:=(zd rfl (zX (o:=6) (by kernel_rfl) rfl) (zd rfl (zH qH hv rfl rfl rfl) (yp (h:=(yp (h:=(zh (za (zx (zi (zW rfl rfl rfl ⟨(qR _ _),v_n,true,rfl,H⟩))))))))))))))))) (fun h=>by cases h)))))))))))))))))))))))))))))))))
set_option maxHeartbeats 8000000 in
theorem W_list_place {w:World} {v_i:Value} {v_i2:Value} {i:Int} {m_i:Nat} {n:Int} {K:Int->Bool->Prop} (hi:Nm w (.agg ⟨[v_i,v_i2]⟩) i m_i) (H:M_list_place i m_i n K):Fn Tryz.prog 103 ⟨[.agg ⟨[v_i,v_i2]⟩,.int .i64 n]⟩ w (fun v w'=>w.grownBy w' none/\∃ (r0:Int),∃ (r1:Bool),v=.tuple #[.int .i64 r0,.bool r1]/\K r0 r1):=by
 unfold M_list_place at H
 refine Fn.enter (by kernel_rfl) Tryz.func103 rfl Tryz.ntmps103 rfl ?_
 refine zg (zc (z4 (us:=[v_i,v_i2]) rfl rfl rfl (fun g1 w1 hB1 hg1 hl1=>?_)))
 have gr1:=hg1
 refine yp (h:=(yp (h:=(zh (za (zg (zc (zd rfl (zO (vs:=[v_i,v_i2]) qH hB1 rfl rfl rfl rfl) (zK rfl rfl (W_num_Num_Int (hi.grown gr1) H) ?_)))))))))
 rintro _ w2 ⟨hg2,t100,t101,rfl,H⟩
 refine yp (h:=(yp (h:=(yp (h:=(yp (h:=(yp (h:=(zh (za (zg ?_))))))))))))
 obtain ⟨J1,H,hJ1⟩:=H
 refine qk (fun L' w'=>∃ (k:Int),L'=[(1,.int .i64 n),(6,.int .i64 k),(7,.bool t101)]/\J1 k/\w2=w') ?_ (fun hQ=>?_)
 ·clear H
  rintro _ _ ⟨k,rfl,H,rfl⟩
  replace H:=hJ1 k H
  refine za (zg (zc (yp (h:=(yp (h:=(yp (h:=(zV 3 (fun L' w'=>∃ q1:Bool,L'=[(26,.bool q1),(1,.int .i64 n),(6,.int .i64 k),(21,.int .i64 k)]/\(t101 && (decide ((0:Int)<=k)))=q1/\w2=w') ?_ (fun hQ=>?_))))))))))
  ·rintro _ _ ⟨q1,rfl,rfl,rfl⟩
   refine yp (h:=(zV 4 (fun L' w'=>∃ q2:Bool,L'=[(31,.bool q2),(21,.int .i64 k)]/\((t101 && (decide ((0:Int)<=k))) && (decide (k<n)))=q2/\w2=w') ?_ (fun hQ=>?_)))
   ·rintro _ _ ⟨q2,rfl,rfl,rfl⟩
    exact yp (h:=(yp (h:=(zh (za (zx (zW rfl rfl rfl ⟨(qI gr1 hg2),k,(t101 && (decide ((0:Int)<=k))) && (decide (k<n)),rfl,H⟩)))))))
   ·clear H
    rcases Bool.eq_false_or_eq_true (t101 && (decide ((0:Int)<=k))) with b1 | b1
    ·exact gp b1 (h:=(gp b1 (h:=(gp b1 (h:=(zd rfl (zR (okb b1) rfl) (wk (hQ _ _ ⟨decide (k<n),rfl,by rw [b1] <;> rfl,rfl⟩))))))))
    ·exact gn b1 (h:=(gn b1 (h:=(gn b1 (h:=(zd rfl (zN (okb b1) rfl) (wk (hQ _ _ ⟨false,rfl,by rw [b1] <;> rfl,rfl⟩))))))))
  ·clear H
   rcases Bool.eq_false_or_eq_true (t101) with b2 | b2
   ·exact gp b2 (h:=(gp b2 (h:=(zd rfl (zR (okb b2) rfl) (wk (hQ _ _ ⟨decide ((0:Int)<=k),rfl,by rw [b2] <;> rfl,rfl⟩))))))
   ·exact gn b2 (h:=(gn b2 (h:=(zd rfl (zN (okb b2) rfl) (wk (hQ _ _ ⟨false,rfl,by rw [b2] <;> rfl,rfl⟩))))))
 ·clear hJ1
  refine zg (zc (yp (h:=(yp (h:=(zV 3 (fun L' w'=>∃ q3:Bool,L'=[(17,.bool q3),(1,.int .i64 n),(6,.int .i64 t100),(7,.bool t101)]/\(t101 && (decide (t100<(0:Int))))=q3/\w2=w') ?_ (fun hQ=>?_)))))))
  ·rintro _ _ ⟨q3,rfl,rfl,rfl⟩
   refine zh (za (zE rfl (fun b3=>?_) (fun b3=>?_)))
   ·replace H:=H.1 (b3)
    refine zc (yp (h:=(yp (h:=?_))))
    obtain ⟨h1,H⟩:=H
    exact zd rfl (Yld.add rfl rfl h1) (yp (h:=(zh (WX.weaken sb (hQ _ _ ⟨t100+n,rfl,H,rfl⟩)))))
   ·replace H:=H.2 (b3)
    exact zt (WX.weaken sb (hQ _ _ ⟨t100,rfl,H,rfl⟩))
  ·clear H
   rcases Bool.eq_false_or_eq_true (t101) with b4 | b4
   ·exact gp b4 (h:=(gp b4 (h:=(zd rfl (zR (okb b4) rfl) (wk (hQ _ _ ⟨decide (t100<(0:Int)),rfl,by rw [b4] <;> rfl,rfl⟩))))))
   ·exact gn b4 (h:=(gn b4 (h:=(zd rfl (zN (okb b4) rfl) (wk (hQ _ _ ⟨false,rfl,by rw [b4] <;> rfl,rfl⟩))))))
set_option maxHeartbeats 8000000 in
theorem W_list_item_span0 {w:World} {g_v:Nat} {v_v_from:Value} {v_v_from2:Value} {v_from:Int} {m_v_from:Nat} {v_v_to:Value} {v_v_to2:Value} {v_to:Int} {m_v_to:Nat} {v_v_step:Value} {v_v_step2:Value} {v_step:Int} {m_v_step:Nat} {v_n:Int} {i:Int} {K:PV->Prop} (hv_from:Nm w (.agg ⟨[v_v_from,v_v_from2]⟩) v_from m_v_from) (hv_to:Nm w (.agg ⟨[v_v_to,v_v_to2]⟩) v_to m_v_to) (hv_step:Nm w (.agg ⟨[v_v_step,v_v_step2]⟩) v_step m_v_step) (hv:Bl w g_v 189 [v_v_from,v_v_from2,v_v_to,v_v_to2,v_v_step,v_v_step2,.int .i64 v_n]) (H:M_list_item_span0 v_from m_v_from v_to m_v_to v_step m_v_step v_n i K):Fn Tryz.prog 94 ⟨[.iface 187 (.pointer (some ⟨g_v,0,none⟩)),.int .i64 i]⟩ w (fun v w'=>w.grownBy w' none/\∃ (v_r:OV),∃ (F_r:Nat->Prop),∃ (r:PV),v=v_r.1/\RelD deV w' [(v_r,F_r)] [r]/\(∀ p:Option Nat,Lt p w.heap.size->DnD deV [(v_r,F_r)] [r] p)/\K r):=by
 unfold M_list_item_span0 at H
 refine Fn.enter (by kernel_rfl) Tryz.func94 rfl Tryz.ntmps94 rfl ?_
 refine zg (zc ?_)
 have hv1:RelD deV w [(vnil,noF)] [PV.nil]:=j0
 refine yp (h:=(zh (za (zg (zg (zc (yp (h:=(zh (za (WC.block (zg (zc (zd rfl (jc (v:=⟨.iface 187 (.pointer (some ⟨g_v,0,none⟩)),rfl⟩) Tryz.underlying187 rfl rfl rfl) (yp (h:=(yp (h:=(zh (za (zE rfl (fun _=>zg (zc (yp (h:=(zh (za (zg (zc (yp (h:=(yp (h:=(zK rfl rfl (W_plist_span_item hv_from hv_to hv_step hv H) ?_))))))))))))) (fun h=>by cases h))))))))))))))))))))))
 rintro _ w1 ⟨hg1,v_t4,F_t4,t4,rfl,ht4,ho1,H⟩
 exact yp (h:=(zh (za (zx (zn (zi (zM rfl rfl ⟨hg1,v_t4,F_t4,t4,rfl,ht4,(fun p_ hp_=>ho1 p_ (fun g_ e_=>Nat.lt_of_lt_of_le (hp_ g_ e_) (Nat.le_refl _))),H⟩)))))))
set_option maxHeartbeats 8000000 in
theorem W_list_At_span0 {S:List Nat} {w:World} {g_v:Nat} {v_v_from:Value} {v_v_from2:Value} {v_from:Int} {m_v_from:Nat} {v_v_to:Value} {v_v_to2:Value} {v_to:Int} {m_v_to:Nat} {v_v_step:Value} {v_v_step2:Value} {v_step:Int} {m_v_step:Nat} {v_n:Int} {v_i:Value} {v_i2:Value} {i:Int} {m_i:Nat} {K:PV->Er->Prop} (hG:GOK S w) (hS3:3∈S) (hv_from:Nm w (.agg ⟨[v_v_from,v_v_from2]⟩) v_from m_v_from) (hv_to:Nm w (.agg ⟨[v_v_to,v_v_to2]⟩) v_to m_v_to) (hv_step:Nm w (.agg ⟨[v_v_step,v_v_step2]⟩) v_step m_v_step) (hv:Bl w g_v 189 [v_v_from,v_v_from2,v_v_to,v_v_to2,v_v_step,v_v_step2,.int .i64 v_n]) (hi:Nm w (.agg ⟨[v_i,v_i2]⟩) i m_i) (H:jQ v_from m_v_from v_to m_v_to v_step m_v_step v_n i m_i K):Fn Tryz.prog 47 ⟨[.iface 187 (.pointer (some ⟨g_v,0,none⟩)),.agg ⟨[v_i,v_i2]⟩]⟩ w (fun v w'=>w.grownBy w' none/\∃ (v_r0:OV),∃ (F_r0:Nat->Prop),∃ (r0:PV),∃ (v_r1:Value),∃ (r1:Er),v=.tuple #[v_r0.1,v_r1]/\RelD deV w' [(v_r0,F_r0)] [r0]/\(∀ p:Option Nat,Lt p w.heap.size->DnD deV [(v_r0,F_r0)] [r0] p)/\ErrR S w' v_r1 r1/\K r0 r1):=by
 unfold jQ at H
 refine Fn.enter (by kernel_rfl) Tryz.func47 rfl Tryz.ntmps47 rfl ?_
 refine zg (zc (z4 (us:=[v_i,v_i2]) rfl rfl rfl (fun g1 w1 hB1 hg1 hl1=>?_)))
 have gr1:=hg1
 have hv1:RelD deV w1 [(vnil,noF)] [PV.nil]:=j0
 refine yp (h:=(yp (h:=(zh (za (zg (zc (yp (h:=(zK rfl rfl (W_list_size_span0 (hv_from.grown gr1) (hv_to.grown gr1) (hv_step.grown gr1) (hv.g0 gr1) H) ?_))))))))))
 rintro _ w2 ⟨hg2,t110,t111,rfl,H⟩
 have gr2:=qI gr1 hg2
 refine yp (h:=(yp (h:=(yp (h:=(yp (h:=(yp (h:=(zh (za (zg (zg (zc (yp (h:=(yp (h:=(zh (za (zE rfl (fun b1=>?_) (fun b1=>?_))))))))))))))))))))))
 ·replace H:=H.1 (b1)
  refine zg (ql jg (by kernel_rfl) ?_)
  obtain ⟨vE1,_,hE1⟩:=GOK.get (hG.grown gr2) 3 0 hS3 rfl rfl
  refine z8 rfl (Yld.cell qH (ErrR.cell hE1 rfl) rfl rfl) ?_
  have hv2:RelD deV w2 [(vnil,noF)] [PV.nil]:=j0
  exact z8 rfl (ze qH rfl) (z8 rfl (ze qH rfl) (qu (za (zx (zi (zW rfl rfl rfl ⟨gr2,vnil,noF,PV.nil,vE1,(Er.e 3),rfl,hv2,(deV_nilN (n:=w.heap.size)),hE1,H⟩))))))
 ·replace H:=H.2 (b1)
  refine zt (za (zg (zc (zd rfl (zO (vs:=[v_i,v_i2]) qH (hB1.g0 hg2) rfl rfl rfl rfl) (yp (h:=(zK rfl rfl (W_list_place (hi.grown gr2) H) ?_)))))))
  rintro _ w3 ⟨hg3,t200,t201,rfl,H⟩
  have gr3:=qI gr2 hg3
  refine yp (h:=(yp (h:=(yp (h:=(yp (h:=(yp (h:=(zh (za (zg (zg (zc (yp (h:=(yp (h:=(zh (za (zE rfl (fun b2=>?_) (fun b2=>?_))))))))))))))))))))))
  ·replace H:=H.1 (b2)
   refine zg (ql jg (by kernel_rfl) ?_)
   obtain ⟨vE2,_,hE2⟩:=GOK.get (hG.grown gr3) 3 0 hS3 rfl rfl
   refine z8 rfl (Yld.cell qH (ErrR.cell hE2 rfl) rfl rfl) ?_
   have hv3:RelD deV w3 [(vnil,noF)] [PV.nil]:=j0
   exact z8 rfl (ze qH rfl) (z8 rfl (ze qH rfl) (qu (za (zx (zi (zW rfl rfl rfl ⟨gr3,vnil,noF,PV.nil,vE2,(Er.e 3),rfl,hv3,(deV_nilN (n:=w.heap.size)),hE2,H⟩))))))
  ·replace H:=H.2 (b2)
   refine zt (za (zg (zc (yp (h:=(yp (h:=(zK rfl rfl (W_list_item_span0 (hv_from.grown gr3) (hv_to.grown gr3) (hv_step.grown gr3) (hv.g0 gr3) H) ?_))))))))
   rintro _ w4 ⟨hg4,v_t4,F_t4,t4,rfl,ht4,ho1,H⟩
   exact yp (h:=(yp (h:=(zh (za (zx (zW rfl rfl rfl ⟨(qI gr3 hg4),v_t4,F_t4,t4,.nilIface,Er.ok,rfl,ht4,(fun p_ hp_=>ho1 p_ (fun g_ e_=>Nat.lt_of_lt_of_le (hp_ g_ e_) (qL gr3))),(ErrR.okR (S:=S) (w:=w4)),H⟩)))))))
set_option maxHeartbeats 8000000 in
theorem W_list_within_span1 {S:List Nat} {w:World} {v_x:OV} {F_x:Nat->Prop} {x:PV} {g_v:Nat} {v_v_from:Value} {v_v_from2:Value} {v_from:Int} {m_v_from:Nat} {v_v_to:Value} {v_v_to2:Value} {v_to:Int} {m_v_to:Nat} {v_v_step:Value} {v_v_step2:Value} {v_step:Int} {m_v_step:Nat} {v_n:Int} {K:Bool->Er->Prop} (hx:RelD deV w [(v_x,F_x)] [x]) (hv_from:Nm w (.agg ⟨[v_v_from,v_v_from2]⟩) v_from m_v_from) (hv_to:Nm w (.agg ⟨[v_v_to,v_v_to2]⟩) v_to m_v_to) (hv_step:Nm w (.agg ⟨[v_v_step,v_v_step2]⟩) v_step m_v_step) (hv:Bl w g_v 189 [v_v_from,v_v_from2,v_v_to,v_v_to2,v_v_step,v_v_step2,.int .i64 v_n]) (H:ko x v_from m_v_from v_to m_v_to v_step m_v_step v_n K):Fn Tryz.prog 113 ⟨[v_x.1,.iface 187 (.pointer (some ⟨g_v,0,none⟩))]⟩ w (fun v w'=>w.grownBy w' none/\∃ (r0:Bool),∃ (v_r1:Value),∃ (r1:Er),v=.tuple #[.bool r0,v_r1]/\ErrR S w' v_r1 r1/\K r0 r1):=by
 unfold ko at H
 refine Fn.enter (by kernel_rfl) Tryz.func113 rfl Tryz.ntmps113 rfl ?_
 refine zg (zc (yp (h:=(yp (h:=(zh (za (zg (zg (zc (yp (h:=(zh (za (WC.block (zg (zc (zd rfl (jc (v:=⟨.iface 187 (.pointer (some ⟨g_v,0,none⟩)),rfl⟩) Tryz.underlying187 rfl rfl rfl) (yp (h:=(yp (h:=(zh (za (zE rfl (fun _=>zg (zc (yp (h:=(zh (za (zg (zc (yp (h:=(yp (h:=(zK rfl rfl (W_plist_span_has hv_from hv_to hv_step hv hx H) ?_))))))))))))) (fun h=>by cases h))))))))))))))))))))))))))
 rintro _ w1 ⟨hg1,t4,rfl,H⟩
 exact yp (h:=(yp (h:=(zh (za (zx (zn (zi (zW rfl rfl rfl ⟨hg1,t4,.nilIface,Er.ok,rfl,(ErrR.okR (S:=S) (w:=w1)),H⟩)))))))))
set_option maxHeartbeats 8000000 in
theorem W_list_In_span1 {S:List Nat} {w:World} {v_x:OV} {F_x:Nat->Prop} {x:PV} {g_v:Nat} {v_v_from:Value} {v_v_from2:Value} {v_from:Int} {m_v_from:Nat} {v_v_to:Value} {v_v_to2:Value} {v_to:Int} {m_v_to:Nat} {v_v_step:Value} {v_v_step2:Value} {v_step:Int} {m_v_step:Nat} {v_n:Int} {K:Bool->Er->Prop} (hx:RelD deV w [(v_x,F_x)] [x]) (hv_from:Nm w (.agg ⟨[v_v_from,v_v_from2]⟩) v_from m_v_from) (hv_to:Nm w (.agg ⟨[v_v_to,v_v_to2]⟩) v_to m_v_to) (hv_step:Nm w (.agg ⟨[v_v_step,v_v_step2]⟩) v_step m_v_step) (hv:Bl w g_v 189 [v_v_from,v_v_from2,v_v_to,v_v_to2,v_v_step,v_v_step2,.int .i64 v_n]) (H:kt x v_from m_v_from v_to m_v_to v_step m_v_step v_n K):Fn Tryz.prog 49 ⟨[v_x.1,.iface 187 (.pointer (some ⟨g_v,0,none⟩))]⟩ w (fun v w'=>w.grownBy w' none/\∃ (r0:Bool),∃ (v_r1:Value),∃ (r1:Er),v=.tuple #[.bool r0,v_r1]/\ErrR S w' v_r1 r1/\K r0 r1):=by
 unfold kt at H
 refine Fn.enter (by kernel_rfl) Tryz.func49 rfl Tryz.ntmps49 rfl ?_
 refine zg (zc (yp (h:=(yp (h:=(zh (za (zg (zc (yp (h:=(yp (h:=(zK rfl rfl (W_list_within_span1 (S:=S) hx hv_from hv_to hv_step hv H) ?_))))))))))))))
 rintro _ w1 ⟨hg1,t80,v_t81,t81,rfl,ht81,H⟩
 exact yp (h:=(yp (h:=(yp (h:=(yp (h:=(zh (za (zx (zW rfl rfl rfl ⟨hg1,t80,v_t81,t81,rfl,ht81,H⟩)))))))))))
set_option maxHeartbeats 8000000 in
theorem W_smithyref_Among {w:World} {l:List Int} {A_l:Option Addr} {c_l:Nat} {n:Int} {n_l:Nat} {K:Bool->Prop} (hl:Rd vi w A_l c_l l) (f2:n_l=l.length) (H:kf l n K):Fn Tryz.prog 50 ⟨[.slice A_l n_l c_l,.int .i64 n]⟩ w (fun v w'=>w=w'/\∃ (r:Bool),v=.bool r/\K r):=by
 subst f2
 unfold kf at H
 refine Fn.enter (by kernel_rfl) Tryz.func50 rfl Tryz.ntmps50 rfl ?_
 replace H:=H (Nat.le_trans hl.cap hl.max)
 refine zg (zc (yp (h:=(zh (za (zg (zg (zc (yp (h:=(zh (za (WC.block ?_)))))))))))))
 obtain ⟨I1,mu1,e6,HR1⟩:=H
 refine z7 (fun n' L' w'=>∃ (i:Int),n'=mu1 i/\L'=[(0,.slice A_l l.length c_l),(1,.int .i64 n),(5,.int .i64 i)]/\I1 i/\w=w') _ _ ⟨(0:Int),rfl,rfl,e6,rfl⟩ sb ?_
 clear e6
 rintro _ _ _ ⟨i,rfl,rfl,hI1,rfl⟩
 have H:=HR1 i hI1
 refine zg (zg (zc (yp (h:=(yp (h:=(yp (h:=(yp (h:=(zh (za (zE rfl (fun b1=>?_) (fun b1=>?_))))))))))))))
 ·replace H:=H.1 (of_decide_eq_true b1)
  refine zt (za (zg (WC.block (zg (zc (yp (h:=(yp (h:=?_)))))))))
  obtain ⟨h1,H⟩:=H
  refine zd rfl (zP qH hl rfl rfl rfl rfl h1.1 h1.2) (zd rfl (zQ 0 qH hl rfl rfl (iltN h1 rfl)) (yp (h:=(yp (h:=(zh (za (zE rfl (fun b2=>?_) (fun b2=>?_)))))))))
  ·replace H:=H.1 (of_decide_eq_true b2)
   exact zg (zc (yp (h:=(zh (za (zx (zn (zi (zi (zn (zi (zM rfl rfl ⟨rfl,true,rfl,H⟩))))))))))))
  ·replace H:=H.2 (of_decide_eq_false b2)
   refine zt (zf (za (zc (yp (h:=?_)))))
   obtain ⟨h2,H⟩:=H
   exact zd rfl (Yld.add rfl rfl h2) (yp (h:=(zh (zZ _ ⟨i+(1:Int),rfl,rfl,H.1,rfl⟩ sb H.2))))
 ·replace H:=H.2 (of_decide_eq_false b1)
  exact zy (zm (zm (zk (za (zg (zc (yp (h:=(zh (za (zx (zM rfl rfl ⟨rfl,false,rfl,H⟩))))))))))))
end
 
section
open Go Go.RowKit
attribute [local irreducible] WL WC WX WQ WK WJ Yld Eff Ef0 Fn
def kl (v_from:Int) (m_v_from:Nat) (v_to:Int) (m_v_to:Nat) (v_step:Int) (m_v_step:Nat) (v_n:Int) (K:(List PV)->Er->Prop):Prop :=
 M_list_Each_span0 v_from m_v_from v_to m_v_to v_step m_v_step v_n (fun (t111:Er) =>
 ((¬ (t111=Er.ok)->False) /\
 (t111=Er.ok->False))) (fun (c2:List PV) (d9:Int) (c7:Bool) (c9:Bool) (t1112:Er) =>
 ((¬ (t1112=Er.ok)->False) /\
 (t1112=Er.ok->jr v_from m_v_from v_to m_v_to v_step m_v_step v_n c2 d9 c7 c9 (fun (t200:PV) (t201:Bool) (t110_:Int) (d3:Bool) (d4:Bool) =>
 Lp6 (fun (l:List PV) (x:PV) (is:Bool) (t1102:Int) (t1103:Bool) (t1104:Bool) kont1=>((is=true->(((1024:Int)<=(l.length:Int)->False) /\
 (¬ ((1024:Int)<=(l.length:Int))->((l.length+(([x]:List PV)).length)*16<=140737488355328) /\
 jr v_from m_v_from v_to m_v_to v_step m_v_step v_n c2 t1102 t1103 t1104 (fun (t260:PV) (t261:Bool) (d5:Int) (d6:Bool) (d7:Bool) =>
 kont1 (l++([x]:List PV)) t260 t261 d5 d6 d7)))) /\
 (is=false->j5 v_from m_v_from v_to m_v_to v_step m_v_step v_n c2 t1102 t1103 t1104 (fun (e6:Int) (e7:Bool) (e8:Bool) =>
 K l Er.ok)))) [] t200 t201 t110_ d3 d4))))
def jA (from_:Int) (to_:Int) (step_:Int) (ask:Int) (K:Bool->Prop):Prop :=
 jZ (fun (ok:Bool) =>
 (((!ok)=true->K false) /\
 ((!ok)=false->((50:Int)≠0) /\
 ((50:Int)≠0) /\
 ((9:Int)≠0) /\
 ((60:Int)≠0) /\
 ki (from_.tmod (50:Int)) (fun (t38:Int) (m_t38:Nat) =>
 ki (to_.tmod (50:Int)) (fun (t40:Int) (m_t40:Nat) =>
 ki (step_.tmod (9:Int)) (fun (t42:Int) (m_t42:Nat) =>
 M_list_Range t38 m_t38 t40 m_t40 t42 m_t42 (fun (t431:Er) =>
 (((step_.tmod (9:Int))=(0:Int)->∃ J1:Bool->Prop,(((ok=true->jL t431 (104:Int) (fun (t55:Bool) =>
 J1 t55)) /\
 (ok=false->J1 false))) /\
 (∀ q2:Bool,J1 q2->K q2)) /\
 (¬ ((step_.tmod (9:Int))=(0:Int))->Lp2 (fun (want:List Int) (i:Int) kont1=>(((((decide ((0:Int)<(step_.tmod (9:Int)))) && (decide (i<(to_.tmod (50:Int))))) || ((decide ((step_.tmod (9:Int))<(0:Int))) && (decide ((to_.tmod (50:Int))<i))))=true->((want.length+(([i]:List Int)).length)*8<=140737488355328) /\
 (In .i64 (i+(step_.tmod (9:Int)))) /\
 kont1 (want++([i]:List Int)) (i+(step_.tmod (9:Int)))) /\
 ((((decide ((0:Int)<(step_.tmod (9:Int)))) && (decide (i<(to_.tmod (50:Int))))) || ((decide ((step_.tmod (9:Int))<(0:Int))) && (decide ((to_.tmod (50:Int))<i))))=false->K false))) [] (from_.tmod (50:Int))))) (fun (a2:Int) (m_t430_from:Nat) (a5:Int) (m_t430_to:Nat) (a3:Int) (m_t430_step:Nat) (a9:Int) (t4312:Er) =>
 (((step_.tmod (9:Int))=(0:Int)->K false) /\
 (¬ ((step_.tmod (9:Int))=(0:Int))->Lp2 (fun (want2:List Int) (i2:Int) kont2=>(((((decide ((0:Int)<(step_.tmod (9:Int)))) && (decide (i2<(to_.tmod (50:Int))))) || ((decide ((step_.tmod (9:Int))<(0:Int))) && (decide ((to_.tmod (50:Int))<i2))))=true->((want2.length+(([i2]:List Int)).length)*8<=140737488355328) /\
 (In .i64 (i2+(step_.tmod (9:Int)))) /\
 kont2 (want2++([i2]:List Int)) (i2+(step_.tmod (9:Int)))) /\
 ((((decide ((0:Int)<(step_.tmod (9:Int)))) && (decide (i2<(to_.tmod (50:Int))))) || ((decide ((step_.tmod (9:Int))<(0:Int))) && (decide ((to_.tmod (50:Int))<i2))))=false->((¬ (t4312=Er.ok)->K false) /\
 (t4312=Er.ok->kl a2 m_t430_from a5 m_t430_to a3 m_t430_step a9 (fun (t890:List PV) (t891:Er) =>
 ∃ J3:Bool->Prop,(((((!decide (t891=Er.ok)) || (!decide ((t890.length:Int)=(want2.length:Int))))=true->J3 true) /\
 (((!decide (t891=Er.ok)) || (!decide ((t890.length:Int)=(want2.length:Int))))=false->M_val_Truth_span0 a2 m_t430_from a5 m_t430_to a3 m_t430_step a9 (fun (t103:Bool) =>
 J3 (!(t103 == (decide ((0:Int)<(want2.length:Int))))))))) /\
 (∀ q12:Bool,J3 q12->((q12=true->K false) /\
 (q12=false->Lp1 (fun (i3:Int) kont3=>((i3<(want2.length:Int)->ki i3 (fun (t118:Int) (m_t118:Nat) =>
 jQ a2 m_t430_from a5 m_t430_to a3 m_t430_step a9 t118 m_t118 (fun (t1190:PV) (t1191:Er) =>
 (In .i64 (i3 - (want2.length:Int))) /\
 ki (i3 - (want2.length:Int)) (fun (t128:Int) (m_t128:Nat) =>
 jQ a2 m_t430_from a5 m_t430_to a3 m_t430_step a9 t128 m_t128 (fun (t1290:PV) (t1291:Er) =>
 ∃ J4:Bool->Prop,(((((!decide (t1191=Er.ok)) || (!decide (t1291=Er.ok)))=true->J4 true) /\
 (((!decide (t1191=Er.ok)) || (!decide (t1291=Er.ok)))=false->jM t1190 (fun (t140:List UInt8) =>
 (0<=i3/\i3<(want2.length:Nat)) /\
 ki (want2.getD i3.toNat 0) (fun (t145:Int) (m_t145:Nat) =>
 kh t145 m_t145 (fun (t146:List UInt8) =>
 J4 (!decide (t140=t146)))))))) /\
 (∀ q14:Bool,J4 q14->∃ J5:Bool->Prop,(((q14=true->J5 true) /\
 (q14=false->jM t1290 (fun (t151:List UInt8) =>
 jM t1190 (fun (t153:List UInt8) =>
 J5 (!decide (t151=t153))))))) /\
 (∀ q15:Bool,J5 q15->∃ J6:Bool->Prop,(((q15=true->J6 true) /\
 (q15=false->(0<=i3/\i3<(t890.length:Nat)) /\
 jM (t890.getD i3.toNat PV.nil) (fun (t161:List UInt8) =>
 jM t1190 (fun (t163:List UInt8) =>
 J6 (!decide (t161=t163))))))) /\
 (∀ q16:Bool,J6 q16->((q16=true->K false) /\
 (q16=false->(In .i64 (i3+(1:Int))) /\
 kont3 (i3+(1:Int)))))))))))) /\
 (¬ (i3<(want2.length:Int))->ki (want2.length:Int) (fun (t170:Int) (m_t170:Nat) =>
 jQ a2 m_t430_from a5 m_t430_to a3 m_t430_step a9 t170 m_t170 (fun (t1710:PV) (t1711:Er) =>
 jh (ask.tmod (60:Int)) (fun (t176:PV) =>
 kt t176 a2 m_t430_from a5 m_t430_to a3 m_t430_step a9 (fun (t1780:Bool) (t1781:Er) =>
 ∃ J7:Bool->Prop,(((ok=true->jL t1711 (104:Int) (fun (t184:Bool) =>
 J7 t184)) /\
 (ok=false->J7 false))) /\
 (∀ q17:Bool,J7 q17->∃ J8:Bool->Prop,((((q17 && (decide (t1781=Er.ok)))=true->kf want2 (ask.tmod (60:Int)) (fun (t194:Bool) =>
 J8 (t1780 == t194))) /\
 ((q17 && (decide (t1781=Er.ok)))=false->J8 false))) /\
 (∀ q19:Bool,J8 q19->K q19))))))))) (0:Int)))))))))) [] (from_.tmod (50:Int)))))))))))
set_option maxHeartbeats 8000000 in
theorem W_list_All_span0 {S:List Nat} {w:World} {g_v:Nat} {v_v_from:Value} {v_v_from2:Value} {v_from:Int} {m_v_from:Nat} {v_v_to:Value} {v_v_to2:Value} {v_to:Int} {m_v_to:Nat} {v_v_step:Value} {v_v_step2:Value} {v_step:Int} {m_v_step:Nat} {v_n:Int} {K:(List PV)->Er->Prop} (hG:GOK S w) (hS3:3∈S) (hv_from:Nm w (.agg ⟨[v_v_from,v_v_from2]⟩) v_from m_v_from) (hv_to:Nm w (.agg ⟨[v_v_to,v_v_to2]⟩) v_to m_v_to) (hv_step:Nm w (.agg ⟨[v_v_step,v_v_step2]⟩) v_step m_v_step) (hv:Bl w g_v 189 [v_v_from,v_v_from2,v_v_to,v_v_to2,v_v_step,v_v_step2,.int .i64 v_n]) (H:kl v_from m_v_from v_to m_v_to v_step m_v_step v_n K):Fn Tryz.prog 35 ⟨[.iface 187 (.pointer (some ⟨g_v,0,none⟩))]⟩ w (fun v w'=>w.grownBy w' none/\∃ (r0:List PV),∃ (e5:Option Addr),∃ (f0:Nat),∃ (d8:List VH),∃ (v_r1:Value),∃ (r1:Er),v=.tuple #[.slice e5 r0.length f0,v_r1]/\Own vv w' w.heap.size 32 e5 f0 d8/\RelD deV w' d8 r0/\(∀ p:Option Nat,Lt p w.heap.size->DnD deV d8 r0 p)/\DnD deV d8 r0 (blk e5)/\ErrR S w' v_r1 r1/\K r0 r1):=by
 unfold kl at H
 refine Fn.enterD (by kernel_rfl) Tryz.func35 rfl Tryz.ntmps35 rfl ?_
 refine zg (zc (yp (h:=(yp (h:=(zh (za (zg (zc (yp (h:=(zK rfl rfl (W_list_Each_span0 hG hS3 hv_from hv_to hv_step hv H) ?_))))))))))))
 rintro v_ w1 ⟨hg_,hc_ | hc_⟩
 ·obtain ⟨v_t111,t111,rfl,ht111,H⟩:=hc_
  have hg1:=hg_
  have gr1:=hg1
  refine yp (h:=(yp (h:=(yp (h:=(yp (h:=(yp (h:=(zh (za (zg (zg (zc (yp (h:=(zd rfl (qb Tryz.underlying43 ht111 rfl) (zh (za (zE rfl (fun b1=>?_) (fun b1=>?_)))))))))))))))))))))
  ·replace H:=H.1 (j9 b1)
   exact zg (False.elim H)
  ·replace H:=H.2 (jO b1)
   exact zt (za (zg (zc (yp (h:=(False.elim H))))))
 ·obtain ⟨c1,c2,b0,d1,c6,d9,c7,c9,v_t1112,t1112,rfl,ht110_l,c8,ho1,dj1,ht1112,ht110,hge1,dj2,dj3,dj4,H⟩:=hc_
  have hg2:=hg_
  have hb1:=ht110_l.ge'
  have k1:=ht110_l.base (fun g hg=>Nat.le_trans (Nat.le_refl _) (hb1 g hg))
  have gr2:=hg2
  refine yp (h:=(yp (h:=(yp (h:=(yp (h:=(yp (h:=(zh (za (zg (zg (zc (yp (h:=(zd rfl (qb Tryz.underlying43 ht1112 rfl) (zh (za (zE rfl (fun b2=>?_) (fun b2=>?_)))))))))))))))))))))
  ·replace H:=H.1 (j9 b2)
   exact zg (False.elim H)
  ·replace H:=H.2 (jO b2)
   refine zt (za (zg (zc (yp (h:=(WL.dfr rfl (DL.nil (DX.then_normal (DC.seq (DC.region (DL.y rfl (ze qH rfl) (DL.nil (DX.then_normal (DC.seq (DC.seq (DC.region (DL.y rfl (ze qH rfl) (DL.call rfl rfl (kx (hv_from.grown gr2) (hv_to.grown gr2) (hv_step.grown gr2) (hv.g0 gr2) k1.rd rfl c8 ht110 (apC (Dj.new hv.lt' (Ge.le hge1 (Nat.le_refl _))) apN) (apC (Dn.of dj4) apN) (apC dj3 apN) H) ?_))))))))))))))))))
   rintro _ w4 ⟨hgl1,v_t200,F_t200,t200,t201,t110_,d3,d4,rfl,ht200,ho2,hB1,dj5,H⟩
   have k3:=c8.goL hgl1 (apC dj3 apN)
   refine DL.y rfl (ze qH rfl) (DL.y rfl (ze qH rfl) (DL.y rfl (ze qH rfl) (DL.y rfl (ze qH rfl) (DL.y rfl (ze qH rfl) (DL.nil (DX.then_normal (DC.block ?_)))))))
   obtain ⟨I1,mu1,e0,HR1⟩:=H
   refine DC.loopF (fun n' L' w'=>∃ (l:List PV),∃ (A_l:Option Addr),∃ (c_l:Nat),∃ (n_l:Nat),∃ (c0:List VH),∃ (v_x:OV),∃ (F_x:Nat->Prop),∃ (x:PV),∃ (is:Bool),∃ (t1102:Int),∃ (t1103:Bool),∃ (t1104:Bool),n'=mu1 l x is t1102 t1103 t1104/\L'=[(4,.pointer (some ⟨c1,0,none⟩)),(6,.slice A_l n_l c_l),(7,v_x.1),(8,.bool is)]/\I1 l x is t1102 t1103 t1104/\n_l=l.length/\w.grownBy w' none/\Own vv w' w.heap.size 32 b0 d1 c6/\RelD deV w' c6 c2/\Bl w' c1 168 [.iface 187 (.pointer (some ⟨g_v,0,none⟩)),.slice b0 c2.length d1,.int .i64 t1102,.bool t1103,.bool t1104]/\Own vv w' w.heap.size 32 A_l c_l c0/\RelD deV w' c0 l/\RelD deV w' [(v_x,F_x)] [x]/\Dj (blk b0) (blk A_l)/\DnD deV c6 c2 (blk A_l)/\Dj (some c1) (blk A_l)/\DnD deV c0 l (blk b0)/\DnD deV c0 l (some c1)/\DnD deV c0 l (blk A_l)/\DnD deV [(v_x,F_x)] [x] (blk b0)/\DnD deV [(v_x,F_x)] [x] (some c1)/\DnD deV [(v_x,F_x)] [x] (blk A_l)/\NewD deV c0 l w.heap.size/\NewD deV [(v_x,F_x)] [x] w.heap.size) _ _ ⟨[],none,0,0,[],v_t200,F_t200,t200,t201,t110_,d3,d4,rfl,rfl,e0,rfl,(gr_modL gr2 hgl1 (apC (Ge.le hge1 (Nat.le_refl _)) apN)),(k1.goL hgl1 (apC dj4 apN)),k3,hB1,(Own.nil vv w4 w.heap.size 32),(RelD.nil (d:=deV) (w:=w4)),ht200,Dj.nr,(DnD.none k3),Dj.nr,DnD.nil,DnD.nil,DnD.nil,(ho2 _ k1.lt' dj2),dj5,(DnD.none ht200),(NewD.nil (d:=deV)),(fun p_ hp_=>ho2 p_ (fun g_ e_=>Nat.lt_of_lt_of_le (hp_ g_ e_) (qL gr2)) (ho1 p_ (fun g_ e_=>Nat.lt_of_lt_of_le (hp_ g_ e_) (Nat.le_refl _))))⟩ sb ?_
   clear e0
   rintro _ _ w5 ⟨l,A_l,c_l,n_l,c0,v_x,F_x,x,is,t1102,t1103,t1104,rfl,rfl,hI1,rfl,gr4,k4,k5,k6,k7,k8,k9,dj6,dj7,dj8,dj9,dj10,dj11,dj12,dj13,dj14,or1,or2⟩
   have H:=HR1 l x is t1102 t1103 t1104 hI1
   refine DC.seq (DC.seq (DC.region (DL.y rfl (ze qH rfl) (DL.nil (DX.then_normal (DC.cond rfl (fun b3=>?_) (fun b3=>?_)))))))
   ·replace H:=H.1 (b3)
    refine DC.skip (DX.then_normal (DC.seq (DC.block (DC.seq (DC.seq (DC.region (DL.y rfl (ze qH rfl) (DL.y rfl (ze qH rfl) (DL.y rfl (ze qH rfl) (DL.nil (DX.then_normal (DC.cond rfl (fun b4=>?_) (fun b4=>?_)))))))))))))
    ·replace H:=H.1 (of_decide_eq_true b4)
     exact DC.seq (False.elim H)
    ·replace H:=H.2 (of_decide_eq_false b4)
     refine DC.skip (DX.then_normal (DC.region (DL.y rfl (ze qH rfl) (DL.y rfl (ze qH rfl) (DL.lit (us:=[v_x.1]) qH rfl rfl rfl (qO v_x.2 jf) rfl (by omega) (fun g2 w7 hB3 hg4 hl2=>?_))))))
     have hO2:Own vv w7 w.heap.size 32 (some ⟨g2,0,none⟩) 1 ([(v_x,F_x)]:List VH):=Own.ofBl hB3 (Nat.le_trans (qL gr4) hl2) (by simp [maxLen]) rfl
     have gr5:=qI gr4 hg4
     have k10:=k4.grown hg4
     have k11:=k5.grown hg4
     have k12:=k6.g0 hg4
     have k13:=k7.grown hg4
     have k14:=k8.grown hg4
     have hr1:RelD deV w7 ([(v_x,F_x)]:List VH) ([x]:List PV):=(RelD.cons (RelD.one (k9.grown hg4)) RelD.nil)
     have nd1:NewD deV ([(v_x,F_x)]:List VH) ([x]:List PV) w.heap.size:=(NewD.cons (d:=deV) (fun p_ hp_=>(DnD.one (or2 p_ hp_))) NewD.nil)
     have dj15:DnD deV ([(v_x,F_x)]:List VH) ([x]:List PV) (blk b0):=(DnD.cons (d:=deV) (DnD.one dj12) DnD.nil)
     have dj16:DnD deV ([(v_x,F_x)]:List VH) ([x]:List PV) (some c1):=(DnD.cons (d:=deV) (DnD.one dj13) DnD.nil)
     have dj17:DnD deV ([(v_x,F_x)]:List VH) ([x]:List PV) (blk A_l):=(DnD.cons (d:=deV) (DnD.one dj14) DnD.nil)
     have dj18:DnD deV ([(v_x,F_x)]:List VH) ([x]:List PV) (blk (some ⟨g2,0,none⟩)):=(DnD.cons (d:=deV) (DnD.one (k9.new (Ge.box hl2))) DnD.nil)
     obtain ⟨h1,H⟩:=H
     have h2:((c0:List VH).length+([(v_x,F_x)]:List VH).length)*16<=140737488355328:=by rw [k14.1,hr1.1]; exact h1
     refine DL.append qH rfl rfl One.vv k13 rfl k8.1.symm hO2.rd rfl rfl h2 (applen h2) (qL gr5) (fun e9 f3 w8 hO3 hg5 hk1=>?_)
     have el1:(c0++([(v_x,F_x)]:List VH)).length=(l++([x]:List PV)).length:=by rw [List.length_append,List.length_append,k14.1,hr1.1]
     rw [el1]
     have gr6:=qT gr5 hg5 k13.ge'
     have k16:=k10.go hg5 dj6
     have k17:=k11.go hg5 dj7
     have hr2:RelD deV w8 (c0++([(v_x,F_x)]:List VH)) (l++([x]:List PV)):=RelD.append (k14.go hg5 dj11) (hr1.go hg5 dj17)
     have nd2:NewD deV (c0++([(v_x,F_x)]:List VH)) (l++([x]:List PV)) w.heap.size:=NewD.append k14.1 or1 nd1
     have dj19:DnD deV (c0++([(v_x,F_x)]:List VH)) (l++([x]:List PV)) (blk b0):=(DnD.append k14.1 dj9 dj15)
     have dj20:DnD deV (c0++([(v_x,F_x)]:List VH)) (l++([x]:List PV)) (some c1):=(DnD.append k14.1 dj10 dj16)
     have dj21:DnD deV (c0++([(v_x,F_x)]:List VH)) (l++([x]:List PV)) (blk (some ⟨g2,0,none⟩)):=(DnD.append k14.1 (k8.new (Ge.box hl2)) dj18)
     have dj22:DnD deV (c0++([(v_x,F_x)]:List VH)) (l++([x]:List PV)) (blk e9):=(DnD.append k14.1 (RelD.app k14 dj11 hk1) (RelD.app hr1 dj17 hk1))
     refine DL.y rfl (ze qH rfl) (DL.nil (DX.block_normal (DX.then_normal (DC.region (DL.y rfl (ze qH rfl) (DL.call rfl rfl (kx (hv_from.grown gr6) (hv_to.grown gr6) (hv_step.grown gr6) (hv.g0 gr6) k16.rd rfl k17 (k12.go hg5 dj8) (apC (Dj.new hv.lt' (Ge.le hge1 (Nat.le_refl _))) apN) (apC (Dn.of dj4) apN) (apC dj3 apN) H) ?_))))))
     rintro _ w9 ⟨hgl2,v_t260,F_t260,t260,t261,d5,d6,d7,rfl,ht260,ho3,hB4,dj23,H⟩
     exact DL.y rfl (ze qH rfl) (DL.y rfl (ze qH rfl) (DL.y rfl (ze qH rfl) (DL.y rfl (ze qH rfl) (DL.y rfl (ze qH rfl) (DL.nil (DX.roundF _ ⟨l++([x]:List PV),e9,f3,(l++([x]:List PV)).length,c0++([(v_x,F_x)]:List VH),v_t260,F_t260,t260,t261,d5,d6,d7,rfl,rfl,H.1,rfl,(gr_modL gr6 hgl2 (apC (Ge.le hge1 (Nat.le_refl _)) apN)),(k16.goL hgl2 (apC dj4 apN)),(k17.goL hgl2 (apC dj3 apN)),hB4,(hO3.goL hgl2 (apC (Dj.app dj8.symm k12.lt' hk1) apN)),(hr2.goL hgl2 (apC dj20 apN)),ht260,(Dj.app dj6.symm k10.lt' hk1).symm,(RelD.app k11 dj7 hk1),(Dj.app dj8.symm k12.lt' hk1).symm,dj19,dj20,dj22,(ho3 _ k16.lt' dj2),dj23,(ho3 _ hO3.lt' (RelD.app k11 dj7 hk1)),nd2,(fun p_ hp_=>ho3 p_ (fun g_ e_=>Nat.lt_of_lt_of_le (hp_ g_ e_) (qL gr6)) (ho1 p_ (fun g_ e_=>Nat.lt_of_lt_of_le (hp_ g_ e_) (Nat.le_refl _))))⟩ sb H.2))))))
   ·replace H:=H.2 (b3)
    refine DC.exit (DX.then_exit (DX.then_exit (DX.block_same (DX.then_normal (DC.seq (DC.region (DL.y rfl (ze qH rfl) (DL.y rfl (ze qH rfl) (DL.y rfl (ze qH rfl) (DL.nil (DX.then_normal (DC.ret (DX.ret2 rfl rfl rfl  (WQ_plist_Over_End_span0 (hv_from.grown gr4) (hv_to.grown gr4) (hv_step.grown gr4) (hv.g0 gr4) k4.rd rfl k5 k6 (apC (Dj.new hv.lt' (Ge.le hge1 (Nat.le_refl _))) apN) (apC (Dn.of dj4) apN) (apC dj3 apN) H) ?_)))))))))))))
    rintro _ w10 ⟨hgl3,e6,e7,e8,rfl,hB5,H⟩
    have k25:=k4.goL hgl3 (apC dj4 apN)
    have k26:=k5.goL hgl3 (apC dj3 apN)
    exact ⟨(gr_modL gr4 hgl3 (apC (Ge.le hge1 (Nat.le_refl _)) apN)),l,A_l,c_l,c0,.nilIface,Er.ok,rfl,(k7.goL hgl3 (apC dj8.symm apN)),(k8.goL hgl3 (apC dj10 apN)),or1,dj11,(ErrR.okR (S:=S) (w:=w10)),H⟩
set_option maxHeartbeats 8000000 in
theorem W_smithylaw12_ListRanges {S:List Nat} {w:World} {from_:Int} {to_:Int} {step_:Int} {ask:Int} {K:Bool->Prop} (hG:GOK S w) (hS0:0∈S) (hS1:1∈S) (hS2:2∈S) (hS3:3∈S) (hS4:4∈S) (hS5:5∈S) (hS6:6∈S) (hS7:7∈S) (hS8:8∈S) (hS9:9∈S) (hS10:10∈S) (hS11:11∈S) (hS12:12∈S) (hS13:13∈S) (hS14:14∈S) (hS15:15∈S) (hS16:16∈S) (H:jA from_ to_ step_ ask K):Fn Tryz.prog 6 ⟨[.int .i64 from_,.int .i64 to_,.int .i64 step_,.int .i64 ask]⟩ w (fun v w'=>w.grownBy w' none/\∃ (r:Bool),v=.bool r/\K r):=by
 unfold jA at H
 refine Fn.enter (by kernel_rfl) Tryz.func6 rfl Tryz.ntmps6 rfl ?_
 refine zg (zc (yp (h:=(zh (za (zg (zc (zK rfl rfl (W_smithylaw12_first hG hS0 hS1 hS2 hS3 hS4 hS5 hS6 hS7 hS8 hS9 hS10 hS11 hS12 hS13 hS14 hS15 hS16 H) ?_))))))))
 rintro _ w1 ⟨hg1,ok,rfl,H⟩
 have gr1:=hg1
 refine yp (h:=(zh (za (zg (zg (zc (yp (h:=(yp (h:=(zh (za (zE rfl (fun b1=>?_) (fun b1=>?_))))))))))))))
 ·replace H:=H.1 (b1)
  exact zg (zc (yp (h:=(zh (za (zx (zi (zM rfl rfl ⟨gr1,false,rfl,H⟩))))))))
 ·replace H:=H.2 (b1)
  refine zt (za (zg (zc (yp (h:=?_)))))
  obtain ⟨h1,H⟩:=H
  refine zd rfl (Yld.rem' rfl rfl h1) (yp (h:=(zh (za (zg (zc (yp (h:=?_))))))))
  obtain ⟨h2,H⟩:=H
  refine zd rfl (Yld.rem' rfl rfl h2) (yp (h:=(zh (za (zg (zc (yp (h:=?_))))))))
  obtain ⟨h3,H⟩:=H
  refine zd rfl (Yld.rem' rfl rfl h3) (yp (h:=(zh (za (zg (zc (yp (h:=?_))))))))
  obtain ⟨h4,H⟩:=H
  refine zd rfl (Yld.rem' rfl rfl h4) (yp (h:=(zh (za (zg (zc (yp (h:=(zK rfl rfl (W_num_Of H) ?_)))))))))
  rintro _ w2 ⟨hg2,v_t38,v_t382,t38,m_t38,rfl,ht38,one_v_t38,one_v_t382,H⟩
  refine yp (h:=(zK rfl rfl (W_num_Of H) ?_))
  rintro _ w3 ⟨hg3,v_t40,v_t402,t40,m_t40,rfl,ht40,one_v_t40,one_v_t402,H⟩
  refine yp (h:=(zK rfl rfl (W_num_Of H) ?_))
  rintro _ w4 ⟨hg4,v_t42,v_t422,t42,m_t42,rfl,ht42,one_v_t42,one_v_t422,H⟩
  have gr4:=qI (qI (qI gr1 hg2) hg3) hg4
  refine zK rfl rfl (W_list_Range (hG.grown gr4) hS3 hS7 ((ht38.grown hg3).grown hg4) (ht40.grown hg4) ht42 H) ?_
  rintro v_ w5 ⟨hg_,hc_ | hc_⟩
  ·obtain ⟨v_t431,t431,rfl,ht431,H⟩:=hc_
   have hg5:=hg_
   have gr5:=qI gr4 hg5
   refine yp (h:=(yp (h:=(yp (h:=(yp (h:=(yp (h:=(zh (za (zg (zg (zc (yp (h:=(yp (h:=(zh (za (zE rfl (fun b2=>?_) (fun b2=>?_))))))))))))))))))))))
   ·replace H:=H.1 (of_decide_eq_true b2)
    refine zg (zc (yp (h:=(yp (h:=(zV 3 (fun L' w'=>∃ q1:Bool,L'=[(52,.bool q1),(11,v_t431)]/\ok=q1/\w5=w') ?_ (fun hQ=>?_)))))))
    ·rintro _ _ ⟨q1,rfl,rfl,rfl⟩
     refine yp (h:=?_)
     obtain ⟨J1,H,hJ1⟩:=H
     refine zV 3 (fun L' w'=>∃ q2:Bool,L'=[(56,.bool q2)]/\J1 q2/\w.grownBy w' none) ?_ (fun hQ=>?_)
     ·clear H
      rintro _ w7 ⟨q2,rfl,H,gr6⟩
      replace H:=hJ1 q2 H
      exact yp (h:=(zh (za (zx (zi (zM rfl rfl ⟨gr6,q2,rfl,H⟩))))))
     ·clear hJ1
      rcases Bool.eq_false_or_eq_true (ok) with b3 | b3
      ·replace H:=H.1 b3
       refine gp b3 (h:=(qv (qM rfl rfl (okb b3)) rfl rfl (W_smithysee_Is (hG.grown gr5) hS0 hS1 hS2 hS3 hS4 hS5 hS6 hS7 hS8 hS9 hS10 hS11 hS12 hS13 hS14 hS15 hS16 ht431 H) ?_))
       rintro _ w8 ⟨hg6,t55,rfl,H⟩
       have k4:=ht431.grown hg6
       exact zd rfl (zR (okb b3) rfl) (wk (hQ _ _ ⟨t55,rfl,H,(qI gr5 hg6)⟩))
      ·replace H:=H.2 b3
       exact gn b3 (h:=(gn b3 (h:=(zd rfl (zN (okb b3) rfl) (wk (hQ _ _ ⟨false,rfl,H,gr5⟩))))))
    ·clear H
     rcases Bool.eq_false_or_eq_true (ok) with b4 | b4
     ·refine gp b4 (h:=?_)
      have hv1:RelD deV w5 [(vnil,noF)] [PV.nil]:=j0
      exact zb rfl rfl (okb b4) rfl (Yld.ieqnil0 Tryz.underlying32 rfl rfl) (zd rfl (zR (okb b4) rfl) (wk (hQ _ _ ⟨true,rfl,by first | (rw [b4] <;> rfl) | simp [b4],rfl⟩)))
     ·exact gn b4 (h:=(gn b4 (h:=(zd rfl (zN (okb b4) rfl) (wk (hQ _ _ ⟨false,rfl,by first | (rw [b4] <;> rfl) | simp [b4],rfl⟩))))))
   ·replace H:=H.2 (of_decide_eq_false b2)
    refine zt (za (zg (zc (yp (h:=(zh (za (zg (zg (zc (yp (h:=(yp (h:=(zh (za (WC.block ?_)))))))))))))))))
    obtain ⟨I1,mu1,e0,HR1⟩:=H
    refine z7 (fun n' L' w'=>∃ (want:List Int),∃ (c4:Option Addr),∃ (c5:Nat),∃ (d2:Nat),∃ (i:Int),n'=mu1 want i/\L'=[(1,.int .i64 (to_.tmod (50:Int))),(2,.int .i64 (step_.tmod (9:Int))),(3,.int .i64 (ask.tmod (60:Int))),(9,.bool ok),(10,.nilIface),(11,v_t431),(12,.slice c4 d2 c5),(13,.int .i64 i)]/\I1 want i/\d2=want.length/\w.grownBy w' none/\ErrR S w' v_t431 t431/\Own vi w' w.heap.size 3 c4 c5 want) _ _ ⟨[],none,0,0,from_.tmod (50:Int),rfl,rfl,e0,rfl,gr5,ht431,(Own.nil vi w5 w.heap.size 3)⟩ sb ?_
    clear e0
    rintro _ _ w9 ⟨want,c4,c5,d2,i,rfl,rfl,hI1,rfl,gr8,k5,k6⟩
    have H:=HR1 want i hI1
    refine zg (zg (zc (yp (h:=(yp (h:=(yp (h:=(zV 4 (fun L' w'=>∃ q3:Bool,L'=[(64,.bool q3),(1,.int .i64 (to_.tmod (50:Int))),(2,.int .i64 (step_.tmod (9:Int))),(3,.int .i64 (ask.tmod (60:Int))),(9,.bool ok),(10,.nilIface),(11,v_t431),(12,.slice c4 want.length c5),(13,.int .i64 i)]/\((decide ((0:Int)<(step_.tmod (9:Int)))) && (decide (i<(to_.tmod (50:Int)))))=q3/\w9=w') ?_ (fun hQ=>?_))))))))))
    ·rintro _ _ ⟨q3,rfl,rfl,rfl⟩
     refine yp (h:=(zV 8 (fun L' w'=>∃ q4:Bool,L'=[(73,.bool q4),(1,.int .i64 (to_.tmod (50:Int))),(2,.int .i64 (step_.tmod (9:Int))),(3,.int .i64 (ask.tmod (60:Int))),(9,.bool ok),(10,.nilIface),(11,v_t431),(12,.slice c4 want.length c5),(13,.int .i64 i)]/\(((decide ((0:Int)<(step_.tmod (9:Int)))) && (decide (i<(to_.tmod (50:Int))))) || ((decide ((step_.tmod (9:Int))<(0:Int))) && (decide ((to_.tmod (50:Int))<i))))=q4/\w9=w') ?_ (fun hQ=>?_)))
     ·rintro _ _ ⟨q4,rfl,rfl,rfl⟩
      refine zh (za (zE rfl (fun b5=>?_) (fun b5=>?_)))
      ·replace H:=H.1 (b5)
       refine zt (za (zg (WC.block (zc (yp (h:=(yp (h:=(qg qH rfl rfl rfl (qO rfl jf) rfl (by omega) (fun g1 w10 hB1 hg7 hl1=>?_))))))))))
       have hO1:Own vi w10 w.heap.size 3 (some ⟨g1,0,none⟩) 1 ([i]:List Int):=Own.ofBl hB1 (Nat.le_trans (qL gr8) hl1) (by simp [maxLen]) rfl
       have gr9:=qI gr8 hg7
       have k8:=k6.grown hg7
       obtain ⟨h5,H⟩:=H
       refine qo qH rfl rfl One.i k8 rfl rfl hO1.rd rfl rfl h5 (applen h5) (qL gr9) (fun e1 e3 w11 hO2 hg8 hk1=>?_)
       have gr10:=qT gr9 hg8 k8.ge'
       refine yp (h:=(zh (zf (za (zc (yp (h:=(yp (h:=?_)))))))))
       obtain ⟨h6,H⟩:=H
       exact zd rfl (Yld.add rfl rfl h6) (yp (h:=(zh (zZ _ ⟨want++([i]:List Int),e1,e3,(want++([i]:List Int)).length,i+(step_.tmod (9:Int)),rfl,rfl,H.1,rfl,gr10,(ErrR.goO (k5.grown hg7) hG gr9 hg8 gr10 k8 rfl),hO2⟩ sb H.2))))
      ·replace H:=H.2 (b5)
       refine zy (zm (zm (zk (za (zg (zg (zc (yp (h:=?_)))))))))
       have hv2:RelD deV w9 [(vnil,noF)] [PV.nil]:=j0
       refine zd rfl (Yld.ieqnil0 Tryz.underlying32 rfl rfl) (yp (h:=(zV 3 (fun L' w'=>∃ q5:Bool,L'=[(86,.bool q5),(3,.int .i64 (ask.tmod (60:Int))),(9,.bool ok),(10,.nilIface),(12,.slice c4 want.length c5)]/\true=q5/\w9=w') ?_ (fun hQ=>?_))))
       ·rintro _ _ ⟨q5,rfl,rfl,rfl⟩
        exact zh (za (zE rfl (fun _=>zg (zc (yp (h:=(zh (za (zx (zi (zM rfl rfl ⟨gr8,false,rfl,H⟩))))))))) (fun h=>by cases h)))
       ·clear H
        exact zJ rfl rfl (rfl) rfl (zJ rfl rfl (rfl) rfl (zd rfl (zR (rfl) rfl) (wk (hQ _ _ ⟨true,rfl,rfl,rfl⟩))))
     ·clear H
      rcases Bool.eq_false_or_eq_true ((decide ((0:Int)<(step_.tmod (9:Int)))) && (decide (i<(to_.tmod (50:Int))))) with b6 | b6
      ·exact gn b6 (h:=(gn b6 (h:=(gn b6 (h:=(qn rfl rfl rfl rfl (qn rfl rfl rfl rfl (qn rfl rfl rfl rfl (gn b6 (h:=(zd rfl (zR (okb b6) rfl) (wk (hQ _ _ ⟨true,rfl,by rw [b6] <;> rfl,rfl⟩)))))))))))))
      ·refine gp b6 (h:=(gp b6 (h:=(gp b6 (h:=?_)))))
       rcases Bool.eq_false_or_eq_true (decide ((step_.tmod (9:Int))<(0:Int))) with b7 | b7
       ·exact gp b7 (h:=(gp b7 (h:=(gp b7 (h:=(zb rfl rfl (okb b6) rfl (zR (okb b7) rfl) (zd rfl (zN (okb b6) rfl) (wk (hQ _ _ ⟨decide ((to_.tmod (50:Int))<i),rfl,by rw [b6,b7] <;> rfl,rfl⟩)))))))))
       ·exact gn b7 (h:=(gn b7 (h:=(gn b7 (h:=(zb rfl rfl (okb b6) rfl (zN (okb b7) rfl) (zd rfl (zN (okb b6) rfl) (wk (hQ _ _ ⟨false,rfl,by rw [b6,b7] <;> rfl,rfl⟩)))))))))
    ·clear H
     rcases Bool.eq_false_or_eq_true (decide ((0:Int)<(step_.tmod (9:Int)))) with b8 | b8
     ·exact gp b8 (h:=(gp b8 (h:=(gp b8 (h:=(zd rfl (zR (okb b8) rfl) (wk (hQ _ _ ⟨decide (i<(to_.tmod (50:Int))),rfl,by rw [b8] <;> rfl,rfl⟩))))))))
     ·exact gn b8 (h:=(gn b8 (h:=(gn b8 (h:=(zd rfl (zN (okb b8) rfl) (wk (hQ _ _ ⟨false,rfl,by rw [b8] <;> rfl,rfl⟩))))))))
  ·obtain ⟨a4,v_t430_from,v_t430_from2,a2,m_t430_from,v_t430_to,v_t430_to2,a5,m_t430_to,v_t430_step,v_t430_step2,a3,m_t430_step,a9,v_t4312,t4312,rfl,ht430_from,ht430_to,ht430_step,ht4312,one_v_t430_from,one_v_t430_from2,one_v_t430_to,one_v_t430_to2,one_v_t430_step,one_v_t430_step2,ht430,hge1,H⟩:=hc_
   have hg9:=hg_
   have gr11:=qI gr4 hg9
   refine yp (h:=(yp (h:=(yp (h:=(yp (h:=(yp (h:=(zh (za (zg (zg (zc (yp (h:=(yp (h:=(zh (za (zE rfl (fun b9=>?_) (fun b9=>?_))))))))))))))))))))))
   ·replace H:=H.1 (of_decide_eq_true b9)
    refine zg (zc (yp (h:=(yp (h:=(zV 3 (fun L' w'=>∃ q6:Bool,L'=[(52,.bool q6),(11,v_t4312)]/\false=q6/\w5=w') ?_ (fun hQ=>?_)))))))
    ·rintro _ _ ⟨q6,rfl,rfl,rfl⟩
     refine yp (h:=(zV 3 (fun L' w'=>L'=[(56,.bool false)]/\w.grownBy w' none) ?_ (fun hQ=>?_)))
     ·rintro _ w13 ⟨rfl,gr12⟩
      exact yp (h:=(zh (za (zx (zi (zM rfl rfl ⟨gr12,false,rfl,H⟩))))))
     ·clear H
      exact zJ rfl rfl (rfl) rfl (zJ rfl rfl (rfl) rfl (zd rfl (zN (rfl) rfl) (wk (hQ _ _ ⟨rfl,gr11⟩))))
    ·clear H
     rcases Bool.eq_false_or_eq_true (ok) with b10 | b10
     ·refine gp b10 (h:=?_)
      have hv3:RelD deV w5 [(vnil,noF)] [PV.nil]:=j0
      exact zb rfl rfl (okb b10) rfl (qD Tryz.underlying32 rfl rfl) (zd rfl (zR (okb b10) rfl) (wk (hQ _ _ ⟨false,rfl,rfl,rfl⟩)))
     ·exact gn b10 (h:=(gn b10 (h:=(zd rfl (zN (okb b10) rfl) (wk (hQ _ _ ⟨false,rfl,rfl,rfl⟩))))))
   ·replace H:=H.2 (of_decide_eq_false b9)
    refine zt (za (zg (zc (yp (h:=(zh (za (zg (zg (zc (yp (h:=(yp (h:=(zh (za (WC.block ?_)))))))))))))))))
    obtain ⟨I2,mu2,f1,HR2⟩:=H
    refine z7 (fun n' L' w'=>∃ (want2:List Int),∃ (a0:Option Addr),∃ (a1:Nat),∃ (d0:Nat),∃ (i2:Int),n'=mu2 want2 i2/\L'=[(1,.int .i64 (to_.tmod (50:Int))),(2,.int .i64 (step_.tmod (9:Int))),(3,.int .i64 (ask.tmod (60:Int))),(9,.bool ok),(10,.iface 187 (.pointer (some ⟨a4,0,none⟩))),(11,v_t4312),(12,.slice a0 d0 a1),(13,.int .i64 i2)]/\I2 want2 i2/\d0=want2.length/\w.grownBy w' none/\Nm w' (.agg ⟨[v_t430_from,v_t430_from2]⟩) a2 m_t430_from/\Nm w' (.agg ⟨[v_t430_to,v_t430_to2]⟩) a5 m_t430_to/\Nm w' (.agg ⟨[v_t430_step,v_t430_step2]⟩) a3 m_t430_step/\ErrR S w' v_t4312 t4312/\Bl w' a4 189 [v_t430_from,v_t430_from2,v_t430_to,v_t430_to2,v_t430_step,v_t430_step2,.int .i64 a9]/\Own vi w' w.heap.size 3 a0 a1 want2/\NmD (.agg ⟨[v_t430_from,v_t430_from2]⟩) (blk a0)/\NmD (.agg ⟨[v_t430_to,v_t430_to2]⟩) (blk a0)/\NmD (.agg ⟨[v_t430_step,v_t430_step2]⟩) (blk a0)/\Dj (some a4) (blk a0)) _ _ ⟨[],none,0,0,from_.tmod (50:Int),rfl,rfl,f1,rfl,gr11,ht430_from,ht430_to,ht430_step,ht4312,ht430,(Own.nil vi w5 w.heap.size 3),NmD.none,NmD.none,NmD.none,Dj.nr⟩ sb ?_
    clear f1
    rintro _ _ w14 ⟨want2,a0,a1,d0,i2,rfl,rfl,hI2,rfl,gr13,k10,k11,k12,k13,k14,k15,dj1,dj2,dj3,dj4⟩
    have H:=HR2 want2 i2 hI2
    refine zg (zg (zc (yp (h:=(yp (h:=(yp (h:=(zV 4 (fun L' w'=>∃ q8:Bool,L'=[(64,.bool q8),(1,.int .i64 (to_.tmod (50:Int))),(2,.int .i64 (step_.tmod (9:Int))),(3,.int .i64 (ask.tmod (60:Int))),(9,.bool ok),(10,.iface 187 (.pointer (some ⟨a4,0,none⟩))),(11,v_t4312),(12,.slice a0 want2.length a1),(13,.int .i64 i2)]/\((decide ((0:Int)<(step_.tmod (9:Int)))) && (decide (i2<(to_.tmod (50:Int)))))=q8/\w14=w') ?_ (fun hQ=>?_))))))))))
    ·rintro _ _ ⟨q8,rfl,rfl,rfl⟩
     refine yp (h:=(zV 8 (fun L' w'=>∃ q9:Bool,L'=[(73,.bool q9),(1,.int .i64 (to_.tmod (50:Int))),(2,.int .i64 (step_.tmod (9:Int))),(3,.int .i64 (ask.tmod (60:Int))),(9,.bool ok),(10,.iface 187 (.pointer (some ⟨a4,0,none⟩))),(11,v_t4312),(12,.slice a0 want2.length a1),(13,.int .i64 i2)]/\(((decide ((0:Int)<(step_.tmod (9:Int)))) && (decide (i2<(to_.tmod (50:Int))))) || ((decide ((step_.tmod (9:Int))<(0:Int))) && (decide ((to_.tmod (50:Int))<i2))))=q9/\w14=w') ?_ (fun hQ=>?_)))
     ·rintro _ _ ⟨q9,rfl,rfl,rfl⟩
      refine zh (za (zE rfl (fun b11=>?_) (fun b11=>?_)))
      ·replace H:=H.1 (b11)
       refine zt (za (zg (WC.block (zc (yp (h:=(yp (h:=(qg qH rfl rfl rfl (qO rfl jf) rfl (by omega) (fun g2 w15 hB2 hg10 hl2=>?_))))))))))
       have hO3:Own vi w15 w.heap.size 3 (some ⟨g2,0,none⟩) 1 ([i2]:List Int):=Own.ofBl hB2 (Nat.le_trans (qL gr13) hl2) (by simp [maxLen]) rfl
       have gr14:=qI gr13 hg10
       have k16:=k10.grown hg10
       have k17:=k11.grown hg10
       have k18:=k12.grown hg10
       have k20:=k14.g0 hg10
       have k21:=k15.grown hg10
       obtain ⟨h7,H⟩:=H
       refine qo qH rfl rfl One.i k21 rfl rfl hO3.rd rfl rfl h7 (applen h7) (qL gr14) (fun e2 e4 w16 hO4 hg11 hk2=>?_)
       have gr15:=qT gr14 hg11 k21.ge'
       refine yp (h:=(zh (zf (za (zc (yp (h:=(yp (h:=?_)))))))))
       obtain ⟨h8,H⟩:=H
       exact zd rfl (Yld.add rfl rfl h8) (yp (h:=(zh (zZ _ ⟨want2++([i2]:List Int),e2,e4,(want2++([i2]:List Int)).length,i2+(step_.tmod (9:Int)),rfl,rfl,H.1,rfl,gr15,(Nm.goD k16 hg11 dj1),(Nm.goD k17 hg11 dj2),(Nm.goD k18 hg11 dj3),(ErrR.goO (k13.grown hg10) hG gr14 hg11 gr15 k21 rfl),(k20.go hg11 dj4),hO4,(Nm.appD k16 dj1 hk2),(Nm.appD k17 dj2 hk2),(Nm.appD k18 dj3 hk2),(Dj.app dj4.symm k20.lt' hk2).symm⟩ sb H.2))))
      ·replace H:=H.2 (b11)
       refine zy (zm (zm (zk (za (zg (zg (zc (yp (h:=?_)))))))))
       have hv4:RelD deV w14 [(vnil,noF)] [PV.nil]:=j0
       refine zd rfl (qD Tryz.underlying32 rfl rfl) (yp (h:=(zV 3 (fun L' w'=>∃ q10:Bool,L'=[(86,.bool q10),(3,.int .i64 (ask.tmod (60:Int))),(9,.bool ok),(10,.iface 187 (.pointer (some ⟨a4,0,none⟩))),(12,.slice a0 want2.length a1)]/\(!decide (t4312=Er.ok))=q10/\w14=w') ?_ (fun hQ=>?_))))
       ·rintro _ _ ⟨q10,rfl,rfl,rfl⟩
        refine zh (za (zE rfl (fun b12=>?_) (fun b12=>?_)))
        ·replace H:=H.1 (j9 b12)
         exact zg (zc (yp (h:=(zh (za (zx (zi (zM rfl rfl ⟨gr13,false,rfl,H⟩))))))))
        ·replace H:=H.2 (jO b12)
         refine zt (za (zg (zc (yp (h:=(zK rfl rfl (W_list_All_span0 (hG.grown gr13) hS3 k10 k11 k12 k14 H) ?_))))))
         rintro _ w17 ⟨hg12,t890,a7,a8,a6,v_t891,t891,rfl,ht890,c3,ho1,dj5,ht891,H⟩
         have hb1:=ht890.ge'
         have k27:=ht890.base (fun g hg=>Nat.le_trans (qL gr13) (hb1 g hg))
         have gr16:=qI gr13 hg12
         have k28:=k10.grown hg12
         have k29:=k11.grown hg12
         have k30:=k12.grown hg12
         have k31:=k14.g0 hg12
         have k32:=k15.grown hg12
         refine yp (h:=(yp (h:=(yp (h:=(yp (h:=(yp (h:=(zh (za (zg (zg (zc (yp (h:=(zd rfl (qb Tryz.underlying43 ht891 rfl) (yp (h:=(zV 6 (fun L' w'=>∃ q11:Bool,L'=[(100,.bool q11),(3,.int .i64 (ask.tmod (60:Int))),(9,.bool ok),(10,.iface 187 (.pointer (some ⟨a4,0,none⟩))),(12,.slice a0 want2.length a1),(14,.slice a7 t890.length a8)]/\((!decide (t891=Er.ok)) || (!decide ((t890.length:Int)=(want2.length:Int))))=q11/\w17=w') ?_ (fun hQ=>?_)))))))))))))))))))))
         ·rintro _ _ ⟨q11,rfl,rfl,rfl⟩
          refine yp (h:=?_)
          obtain ⟨J3,H,hJ3⟩:=H
          refine zV 7 (fun L' w'=>∃ q12:Bool,L'=[(108,.bool q12),(3,.int .i64 (ask.tmod (60:Int))),(9,.bool ok),(10,.iface 187 (.pointer (some ⟨a4,0,none⟩))),(12,.slice a0 want2.length a1),(14,.slice a7 t890.length a8)]/\J3 q12/\w.grownBy w' none/\Nm w' (.agg ⟨[v_t430_from,v_t430_from2]⟩) a2 m_t430_from/\Nm w' (.agg ⟨[v_t430_to,v_t430_to2]⟩) a5 m_t430_to/\Nm w' (.agg ⟨[v_t430_step,v_t430_step2]⟩) a3 m_t430_step/\Bl w' a4 189 [v_t430_from,v_t430_from2,v_t430_to,v_t430_to2,v_t430_step,v_t430_step2,.int .i64 a9]/\Own vi w' w.heap.size 3 a0 a1 want2/\Own vv w' w.heap.size 32 a7 a8 a6/\RelD deV w' a6 t890) ?_ (fun hQ=>?_)
          ·clear H
           rintro _ w18 ⟨q12,rfl,H,gr17,k33,k34,k35,k36,k37,k38,k39⟩
           replace H:=hJ3 q12 H
           refine zh (za (zE rfl (fun b13=>?_) (fun b13=>?_)))
           ·replace H:=H.1 (b13)
            exact zg (zc (yp (h:=(zh (za (zx (zi (zM rfl rfl ⟨gr17,false,rfl,H⟩))))))))
           ·replace H:=H.2 (b13)
            refine zt (za (zg (zg (zc (yp (h:=(zh (za (WC.block ?_)))))))))
            obtain ⟨I3,mu3,f2,HR3⟩:=H
            refine z7 (fun n' L' w'=>∃ (i3:Int),n'=mu3 i3/\L'=[(3,.int .i64 (ask.tmod (60:Int))),(9,.bool ok),(10,.iface 187 (.pointer (some ⟨a4,0,none⟩))),(12,.slice a0 want2.length a1),(14,.slice a7 t890.length a8),(16,.int .i64 i3)]/\I3 i3/\w.grownBy w' none/\Nm w' (.agg ⟨[v_t430_from,v_t430_from2]⟩) a2 m_t430_from/\Nm w' (.agg ⟨[v_t430_to,v_t430_to2]⟩) a5 m_t430_to/\Nm w' (.agg ⟨[v_t430_step,v_t430_step2]⟩) a3 m_t430_step/\Bl w' a4 189 [v_t430_from,v_t430_from2,v_t430_to,v_t430_to2,v_t430_step,v_t430_step2,.int .i64 a9]/\Own vi w' w.heap.size 3 a0 a1 want2/\Own vv w' w.heap.size 32 a7 a8 a6/\RelD deV w' a6 t890) _ _ ⟨(0:Int),rfl,rfl,f2,gr17,k33,k34,k35,k36,k37,k38,k39⟩ sb ?_
            clear f2
            rintro _ _ w19 ⟨i3,rfl,rfl,hI3,gr18,k40,k41,k42,k43,k44,k45,k46⟩
            have H:=HR3 i3 hI3
            refine zg (zg (zc (yp (h:=(yp (h:=(yp (h:=(yp (h:=(zh (za (zE rfl (fun b14=>?_) (fun b14=>?_))))))))))))))
            ·replace H:=H.1 (of_decide_eq_true b14)
             refine zt (za (zg (WC.block (zg (zc (yp (h:=(yp (h:=(zK rfl rfl (W_num_Of H) ?_))))))))))
             rintro _ w20 ⟨hg13,v_t118,v_t1182,t118,m_t118,rfl,ht118,one_v_t118,one_v_t1182,H⟩
             have gr19:=qI gr18 hg13
             have k47:=k40.grown hg13
             have k48:=k41.grown hg13
             have k49:=k42.grown hg13
             have k50:=k43.g0 hg13
             refine zK rfl rfl (W_list_At_span0 (hG.grown gr19) hS3 k47 k48 k49 k50 ht118 H) ?_
             rintro _ w21 ⟨hg14,v_t1190,F_t1190,t1190,v_t1191,t1191,rfl,ht1190,ho2,ht1191,H⟩
             refine yp (h:=(yp (h:=(yp (h:=(yp (h:=(yp (h:=(zh (za (zg (zc (yp (h:=(yp (h:=(yp (h:=(yp (h:=?_)))))))))))))))))))))
             obtain ⟨h9,H⟩:=H
             refine zd rfl (Yld.sub rfl rfl h9) (zK rfl rfl (W_num_Of H) ?_)
             rintro _ w22 ⟨hg15,v_t128,v_t1282,t128,m_t128,rfl,ht128,one_v_t128,one_v_t1282,H⟩
             have gr21:=qI (qI gr19 hg14) hg15
             have k61:=(k47.grown hg14).grown hg15
             have k62:=(k48.grown hg14).grown hg15
             have k63:=(k49.grown hg14).grown hg15
             have k64:=(k50.g0 hg14).g0 hg15
             refine zK rfl rfl (W_list_At_span0 (hG.grown gr21) hS3 k61 k62 k63 k64 ht128 H) ?_
             rintro _ w23 ⟨hg16,v_t1290,F_t1290,t1290,v_t1291,t1291,rfl,ht1290,ho3,ht1291,H⟩
             have gr22:=qI gr21 hg16
             have k70:=k61.grown hg16
             have k71:=k62.grown hg16
             have k72:=k63.grown hg16
             have k73:=k64.g0 hg16
             have k74:=(((k44.grown hg13).grown hg14).grown hg15).grown hg16
             have k75:=(((k45.grown hg13).grown hg14).grown hg15).grown hg16
             have k76:=(((k46.grown hg13).grown hg14).grown hg15).grown hg16
             have k77:=(ht1190.grown hg15).grown hg16
             have k78:=(ht1191.grown hg15).grown hg16
             refine yp (h:=(yp (h:=(yp (h:=(yp (h:=(yp (h:=(zh (za (zg (zY (fun k => !(Nat.beq k 8 || Nat.beq k 13 || Nat.beq k 14 || Nat.beq k 19 || Nat.beq k 21 || Nat.beq k 29 || Nat.beq k 31)) (LD [12,28] (fun w'=>Rd vi w' a0 a1 want2/\Rd vv w' a7 a8 a6)) jg (by kernel_rfl) (fun k w' h _=>⟨(rd_eqv h k74.rd),(rd_eqv h k75.rd)⟩) (zL rfl rfl (fun w' hw'=>ze qH rfl) (zL rfl rfl (fun w' hw'=>qb Tryz.underlying43 k78 rfl) (zL rfl rfl (fun w' hw'=>ze qH rfl) (WJ.midF 3 (fun L' w'=>∃ q13:Bool,L'=[(137,.bool q13),(3,.int .i64 (ask.tmod (60:Int))),(9,.bool ok),(10,.iface 187 (.pointer (some ⟨a4,0,none⟩))),(12,.slice a0 want2.length a1),(14,.slice a7 t890.length a8),(16,.int .i64 i3),(17,v_t1190.1),(19,v_t1290.1)]/\((!decide (t1191=Er.ok)) || (!decide (t1291=Er.ok)))=q13/\w23=w') ?_ (fun hQ=>?_))))))))))))))))))
             ·rintro _ _ ⟨q13,rfl,rfl,rfl⟩
              refine zL rfl rfl (fun w' hw'=>ze qH rfl) ?_
              obtain ⟨J4,H,hJ4⟩:=H
              refine WJ.midF 10 (fun L' w'=>∃ q14:Bool,L'=[(148,.bool q14),(3,.int .i64 (ask.tmod (60:Int))),(9,.bool ok),(10,.iface 187 (.pointer (some ⟨a4,0,none⟩))),(12,.slice a0 want2.length a1),(14,.slice a7 t890.length a8),(16,.int .i64 i3),(17,v_t1190.1),(19,v_t1290.1)]/\J4 q14/\w.grownBy w' none/\Nm w' (.agg ⟨[v_t430_from,v_t430_from2]⟩) a2 m_t430_from/\Nm w' (.agg ⟨[v_t430_to,v_t430_to2]⟩) a5 m_t430_to/\Nm w' (.agg ⟨[v_t430_step,v_t430_step2]⟩) a3 m_t430_step/\Bl w' a4 189 [v_t430_from,v_t430_from2,v_t430_to,v_t430_to2,v_t430_step,v_t430_step2,.int .i64 a9]/\Own vi w' w.heap.size 3 a0 a1 want2/\Own vv w' w.heap.size 32 a7 a8 a6/\RelD deV w' a6 t890/\RelD deV w' [(v_t1190,F_t1190)] [t1190]/\RelD deV w' [(v_t1290,F_t1290)] [t1290]) ?_ (fun hQ=>?_)
              ·clear H
               rintro _ w24 ⟨q14,rfl,H,gr23,k79,k80,k81,k82,k83,k84,k85,k86,k87⟩
               replace H:=hJ4 q14 H
               refine zL rfl rfl (fun w' hw'=>ze qH rfl) ?_
               obtain ⟨J5,H,hJ5⟩:=H
               refine WJ.midF 6 (fun L' w'=>∃ q15:Bool,L'=[(155,.bool q15),(3,.int .i64 (ask.tmod (60:Int))),(9,.bool ok),(10,.iface 187 (.pointer (some ⟨a4,0,none⟩))),(12,.slice a0 want2.length a1),(14,.slice a7 t890.length a8),(16,.int .i64 i3),(17,v_t1190.1)]/\J5 q15/\w.grownBy w' none/\Nm w' (.agg ⟨[v_t430_from,v_t430_from2]⟩) a2 m_t430_from/\Nm w' (.agg ⟨[v_t430_to,v_t430_to2]⟩) a5 m_t430_to/\Nm w' (.agg ⟨[v_t430_step,v_t430_step2]⟩) a3 m_t430_step/\Bl w' a4 189 [v_t430_from,v_t430_from2,v_t430_to,v_t430_to2,v_t430_step,v_t430_step2,.int .i64 a9]/\Own vi w' w.heap.size 3 a0 a1 want2/\Own vv w' w.heap.size 32 a7 a8 a6/\RelD deV w' a6 t890/\RelD deV w' [(v_t1190,F_t1190)] [t1190]) ?_ (fun hQ=>?_)
               ·clear H
                rintro _ w25 ⟨q15,rfl,H,gr24,k88,k89,k90,k91,k92,k93,k94,k95⟩
                replace H:=hJ5 q15 H
                refine zL rfl rfl (fun w' hw'=>ze qH rfl) ?_
                obtain ⟨J6,H,hJ6⟩:=H
                refine WJ.midF 9 (fun L' w'=>∃ q16:Bool,L'=[(165,.bool q16),(3,.int .i64 (ask.tmod (60:Int))),(9,.bool ok),(10,.iface 187 (.pointer (some ⟨a4,0,none⟩))),(12,.slice a0 want2.length a1),(14,.slice a7 t890.length a8),(16,.int .i64 i3)]/\J6 q16/\w.grownBy w' none/\Nm w' (.agg ⟨[v_t430_from,v_t430_from2]⟩) a2 m_t430_from/\Nm w' (.agg ⟨[v_t430_to,v_t430_to2]⟩) a5 m_t430_to/\Nm w' (.agg ⟨[v_t430_step,v_t430_step2]⟩) a3 m_t430_step/\Bl w' a4 189 [v_t430_from,v_t430_from2,v_t430_to,v_t430_to2,v_t430_step,v_t430_step2,.int .i64 a9]/\Own vi w' w.heap.size 3 a0 a1 want2/\Own vv w' w.heap.size 32 a7 a8 a6/\RelD deV w' a6 t890) ?_ (fun hQ=>?_)
                ·clear H
                 rintro _ w26 ⟨q16,rfl,H,gr25,k96,k97,k98,k99,k100,k101,k102⟩
                 replace H:=hJ6 q16 H
                 refine qh (za (zE rfl (fun b15=>?_) (fun b15=>?_)))
                 ·replace H:=H.1 (b15)
                  exact zg (zc (yp (h:=(zh (za (zx (zn (zi (zi (zn (zi (zM rfl rfl ⟨gr25,false,rfl,H⟩))))))))))))
                 ·replace H:=H.2 (b15)
                  refine zt (zf (za (zc (yp (h:=?_)))))
                  obtain ⟨h10,H⟩:=H
                  exact zd rfl (Yld.add rfl rfl h10) (yp (h:=(zh (zZ _ ⟨i3+(1:Int),rfl,rfl,H.1,gr25,k96,k97,k98,k99,k100,k101,k102⟩ sb H.2))))
                ·clear hJ6
                 rcases Bool.eq_false_or_eq_true (q15) with b16 | b16
                 ·replace H:=H.1 b16
                  exact WJ.no rfl rfl (okb b16) rfl (WJ.no rfl rfl (okb b16) rfl (WJ.no rfl rfl (okb b16) rfl (WJ.no rfl rfl (okb b16) rfl (WJ.no rfl rfl (okb b16) rfl (WJ.no rfl rfl (okb b16) rfl (WJ.no rfl rfl (okb b16) rfl (WJ.no rfl rfl (okb b16) rfl (zL rfl rfl (fun w' hw'=>zR (okb b16) rfl) (WJ.weaken sb (hQ _ _ ⟨true,rfl,H,gr24,k88,k89,k90,k91,k92,k93,k94⟩))))))))))
                 ·replace H:=H.2 b16
                  refine z5 rfl (qM rfl rfl (okb b16)) rfl (fun w' hw'=>ze qH rfl) (z5 rfl (qM rfl rfl (okb b16)) rfl (fun w' hw'=>ze qH rfl) ?_)
                  obtain ⟨h11,H⟩:=H
                  refine z5 rfl (qM rfl rfl (okb b16)) rfl (fun w' hw'=>zP qH k93.rd rfl rfl c3.1.symm rfl h11.1 h11.2) ?_
                  obtain ⟨⟨v_el,F_el⟩,eh1,hR1⟩:=RelD.at k94 vh0 PV.nil (j:=i3.toNat) (Nat.lt_of_lt_of_eq (iltN h11 c3.1.symm) k94.1)
                  have hv5:RelD deV w25 [(v_el,F_el)] [t890.getD i3.toNat PV.nil]:=RelD.cons hR1 RelD.nil
                  refine z5 rfl (qM rfl rfl (okb b16)) rfl (fun w' hw'=>qd (v:=v_el.1) (zQ vh0 qH (hw' rfl).2 rfl rfl (iltN h11 c3.1.symm)) (congrArg vv eh1)) (z9 rfl (qM rfl rfl (okb b16)) rfl rfl (W_val_Repr hv5 H) (fun v w' h w2 e=>DD.keep (⟨(Rd.grown k92.rd (qN h.1 e)),(Rd.grown k93.rd (qN h.1 e))⟩)) ?_)
                  rintro _ w27 ⟨hg17,t161,rfl,H⟩
                  have k107:=k92.grown hg17
                  have k108:=k93.grown hg17
                  have k110:=k95.grown hg17
                  have k111:=hv5.grown hg17
                  refine z5 rfl (qM rfl rfl (okb b16)) rfl (fun w' hw'=>ze qH rfl) (z9 rfl (qM rfl rfl (okb b16)) rfl rfl (W_val_Repr k110 H) (fun v w' h w2 e=>DD.keep (⟨(Rd.grown k107.rd (qN h.1 e)),(Rd.grown k108.rd (qN h.1 e))⟩)) ?_)
                  rintro _ w28 ⟨hg18,t163,rfl,H⟩
                  have k119:=k110.grown hg18
                  exact z5 rfl (qM rfl rfl (okb b16)) rfl (fun w' hw'=>ze qH rfl) (zL rfl rfl (fun w' hw'=>zN (okb b16) rfl) (WJ.weaken sb (hQ _ _ ⟨!decide (t161=t163),rfl,H,(qI (qI gr24 hg17) hg18),((k88.grown hg17).grown hg18),((k89.grown hg17).grown hg18),((k90.grown hg17).grown hg18),((k91.g0 hg17).g0 hg18),(k107.grown hg18),(k108.grown hg18),((k94.grown hg17).grown hg18)⟩)))
               ·clear hJ5
                rcases Bool.eq_false_or_eq_true (q14) with b17 | b17
                ·replace H:=H.1 b17
                 exact WJ.no rfl rfl (okb b17) rfl (WJ.no rfl rfl (okb b17) rfl (WJ.no rfl rfl (okb b17) rfl (WJ.no rfl rfl (okb b17) rfl (WJ.no rfl rfl (okb b17) rfl (zL rfl rfl (fun w' hw'=>zR (okb b17) rfl) (WJ.weaken sb (hQ _ _ ⟨true,rfl,H,gr23,k79,k80,k81,k82,k83,k84,k85,k86⟩)))))))
                ·replace H:=H.2 b17
                 refine z5 rfl (qM rfl rfl (okb b17)) rfl (fun w' hw'=>ze qH rfl) (z9 rfl (qM rfl rfl (okb b17)) rfl rfl (W_val_Repr k87 H) (fun v w' h w2 e=>DD.keep (⟨(Rd.grown k83.rd (qN h.1 e)),(Rd.grown k84.rd (qN h.1 e))⟩)) ?_)
                 rintro _ w29 ⟨hg19,t151,rfl,H⟩
                 have k124:=k83.grown hg19
                 have k125:=k84.grown hg19
                 have k127:=k86.grown hg19
                 have k128:=k87.grown hg19
                 refine z5 rfl (qM rfl rfl (okb b17)) rfl (fun w' hw'=>ze qH rfl) (z9 rfl (qM rfl rfl (okb b17)) rfl rfl (W_val_Repr k127 H) (fun v w' h w2 e=>DD.keep (⟨(Rd.grown k124.rd (qN h.1 e)),(Rd.grown k125.rd (qN h.1 e))⟩)) ?_)
                 rintro _ w30 ⟨hg20,t153,rfl,H⟩
                 exact z5 rfl (qM rfl rfl (okb b17)) rfl (fun w' hw'=>ze qH rfl) (zL rfl rfl (fun w' hw'=>zN (okb b17) rfl) (WJ.weaken sb (hQ _ _ ⟨!decide (t151=t153),rfl,H,(qI (qI gr23 hg19) hg20),((k79.grown hg19).grown hg20),((k80.grown hg19).grown hg20),((k81.grown hg19).grown hg20),((k82.g0 hg19).g0 hg20),(k124.grown hg20),(k125.grown hg20),((k85.grown hg19).grown hg20),(k127.grown hg20)⟩)))
              ·clear hJ4
               rcases Bool.eq_false_or_eq_true ((!decide (t1191=Er.ok)) || (!decide (t1291=Er.ok))) with b18 | b18
               ·replace H:=H.1 b18
                exact WJ.no rfl rfl (okb b18) rfl (WJ.no rfl rfl (okb b18) rfl (WJ.no rfl rfl (okb b18) rfl (WJ.no rfl rfl (okb b18) rfl (WJ.no rfl rfl (okb b18) rfl (WJ.no rfl rfl (okb b18) rfl (WJ.no rfl rfl (okb b18) rfl (WJ.no rfl rfl (okb b18) rfl (WJ.no rfl rfl (okb b18) rfl (zL rfl rfl (fun w' hw'=>zR (okb b18) rfl) (WJ.weaken sb (hQ _ _ ⟨true,rfl,H,gr22,k70,k71,k72,k73,k74,k75,k76,k77,ht1290⟩)))))))))))
               ·replace H:=H.2 b18
                refine z5 rfl (qM rfl rfl (okb b18)) rfl (fun w' hw'=>ze qH rfl) (z9 rfl (qM rfl rfl (okb b18)) rfl rfl (W_val_Repr k77 H) (fun v w' h w2 e=>DD.keep (⟨(Rd.grown k74.rd (qN h.1 e)),(Rd.grown k75.rd (qN h.1 e))⟩)) ?_)
                rintro _ w31 ⟨hg21,t140,rfl,H⟩
                have k141:=k74.grown hg21
                have k142:=k75.grown hg21
                refine z5 rfl (qM rfl rfl (okb b18)) rfl (fun w' hw'=>ze qH rfl) (z5 rfl (qM rfl rfl (okb b18)) rfl (fun w' hw'=>ze qH rfl) ?_)
                obtain ⟨h12,H⟩:=H
                refine z5 rfl (qM rfl rfl (okb b18)) rfl (fun w' hw'=>zP qH k141.rd rfl rfl rfl rfl h12.1 h12.2) (z5 rfl (qM rfl rfl (okb b18)) rfl (fun w' hw'=>zQ 0 qH (hw' rfl).1 rfl rfl (iltN h12 rfl)) (z9 rfl (qM rfl rfl (okb b18)) rfl rfl (W_num_Of H) (fun v w' h w2 e=>DD.keep (⟨(Rd.grown k141.rd (qN h.1 e)),(Rd.grown k142.rd (qN h.1 e))⟩)) ?_))
                rintro _ w32 ⟨hg22,v_t145,v_t1452,t145,m_t145,rfl,ht145,one_v_t145,one_v_t1452,H⟩
                have k150:=k141.grown hg22
                have k151:=k142.grown hg22
                refine z9 rfl (qM rfl rfl (okb b18)) rfl rfl (W_num_Num_Text ht145 H) (fun v w' h w2 e=>DD.keep (⟨(Rd.grown k150.rd (qN h.1 e)),(Rd.grown k151.rd (qN h.1 e))⟩)) ?_
                rintro _ w33 ⟨hg23,t146,rfl,H⟩
                have k164:=ht145.grown hg23
                exact z5 rfl (qM rfl rfl (okb b18)) rfl (fun w' hw'=>ze qH rfl) (zL rfl rfl (fun w' hw'=>zN (okb b18) rfl) (WJ.weaken sb (hQ _ _ ⟨!decide (t140=t146),rfl,H,(qI (qI (qI gr22 hg21) hg22) hg23),(((k70.grown hg21).grown hg22).grown hg23),(((k71.grown hg21).grown hg22).grown hg23),(((k72.grown hg21).grown hg22).grown hg23),(((k73.g0 hg21).g0 hg22).g0 hg23),(k150.grown hg23),(k151.grown hg23),(((k76.grown hg21).grown hg22).grown hg23),(((k77.grown hg21).grown hg22).grown hg23),(((ht1290.grown hg21).grown hg22).grown hg23)⟩)))
             ·clear H
              rcases Bool.eq_false_or_eq_true (!decide (t1191=Er.ok)) with b19 | b19
              ·exact WJ.no rfl rfl (okb b19) rfl (WJ.no rfl rfl (okb b19) rfl (zL rfl rfl (fun w' hw'=>zR (okb b19) rfl) (WJ.weaken sb (hQ _ _ ⟨true,rfl,by rw [b19] <;> rfl,rfl⟩))))
              ·exact z5 rfl (qM rfl rfl (okb b19)) rfl (fun w' hw'=>ze qH rfl) (z5 rfl (qM rfl rfl (okb b19)) rfl (fun w' hw'=>qb Tryz.underlying43 ht1291 rfl) (zL rfl rfl (fun w' hw'=>zN (okb b19) rfl) (WJ.weaken sb (hQ _ _ ⟨!decide (t1291=Er.ok),rfl,by rw [b19] <;> rfl,rfl⟩))))
            ·replace H:=H.2 (of_decide_eq_false b14)
             refine zy (zm (zm (zk (za (zg (zc (yp (h:=(yp (h:=(yp (h:=(zK rfl rfl (W_num_Of H) ?_)))))))))))))
             rintro _ w34 ⟨hg24,v_t170,v_t1702,t170,m_t170,rfl,ht170,one_v_t170,one_v_t1702,H⟩
             have gr33:=qI gr18 hg24
             have k165:=k40.grown hg24
             have k166:=k41.grown hg24
             have k167:=k42.grown hg24
             have k168:=k43.g0 hg24
             refine zK rfl rfl (W_list_At_span0 (hG.grown gr33) hS3 k165 k166 k167 k168 ht170 H) ?_
             rintro _ w35 ⟨hg25,v_t1710,F_t1710,t1710,v_t1711,t1711,rfl,ht1710,ho4,ht1711,H⟩
             refine yp (h:=(yp (h:=(yp (h:=(yp (h:=(yp (h:=(zh (za (zg (zc (yp (h:=(zK rfl rfl (jo H) ?_))))))))))))))))
             rintro _ w36 ⟨hg26,v_t176,F_t176,t176,rfl,ht176,ho5,H⟩
             refine yp (h:=(zK rfl rfl (W_list_In_span1 (S:=S) ht176 ((k165.grown hg25).grown hg26) ((k166.grown hg25).grown hg26) ((k167.grown hg25).grown hg26) ((k168.g0 hg25).g0 hg26) H) ?_))
             rintro _ w37 ⟨hg27,t1780,v_t1781,t1781,rfl,ht1781,H⟩
             have gr36:=qI (qI (qI gr33 hg25) hg26) hg27
             have k181:=(((k44.grown hg24).grown hg25).grown hg26).grown hg27
             have k182:=(ht1711.grown hg26).grown hg27
             refine yp (h:=(yp (h:=(yp (h:=(yp (h:=(yp (h:=(zh (za (zg (zc (yp (h:=(yp (h:=?_)))))))))))))))))
             obtain ⟨J7,H,hJ7⟩:=H
             refine zV 3 (fun L' w'=>∃ q17:Bool,L'=[(185,.bool q17),(3,.int .i64 (ask.tmod (60:Int))),(12,.slice a0 want2.length a1),(23,.bool t1780),(24,v_t1781)]/\J7 q17/\w.grownBy w' none/\Own vi w' w.heap.size 3 a0 a1 want2/\ErrR S w' v_t1781 t1781) ?_ (fun hQ=>?_)
             ·clear H
              rintro _ w38 ⟨q17,rfl,H,gr37,k183,k184⟩
              replace H:=hJ7 q17 H
              refine yp (h:=(zV 3 (fun L' w'=>∃ q18:Bool,L'=[(189,.bool q18),(3,.int .i64 (ask.tmod (60:Int))),(12,.slice a0 want2.length a1),(23,.bool t1780)]/\(q17 && (decide (t1781=Er.ok)))=q18/\w38=w') ?_ (fun hQ=>?_)))
              ·rintro _ _ ⟨q18,rfl,rfl,rfl⟩
               refine yp (h:=?_)
               obtain ⟨J8,H,hJ8⟩:=H
               refine zV 6 (fun L' w'=>∃ q19:Bool,L'=[(196,.bool q19)]/\J8 q19/\w38=w') ?_ (fun hQ=>?_)
               ·clear H
                rintro _ _ ⟨q19,rfl,H,rfl⟩
                replace H:=hJ8 q19 H
                exact yp (h:=(zh (za (zx (zM rfl rfl ⟨gr37,q19,rfl,H⟩)))))
               ·clear hJ8
                rcases Bool.eq_false_or_eq_true (q17 && (decide (t1781=Er.ok))) with b20 | b20
                ·replace H:=H.1 b20
                 refine gp b20 (h:=(gp b20 (h:=(gp b20 (h:=(qv (qM rfl rfl (okb b20)) rfl rfl (W_smithyref_Among k183.rd rfl H) ?_))))))
                 rintro _ _ ⟨rfl,t194,rfl,H⟩
                 exact zb rfl rfl (okb b20) rfl (qA Tryz.underlying4 rfl rfl) (zd rfl (zR (okb b20) rfl) (wk (hQ _ _ ⟨t1780 == t194,rfl,H,rfl⟩)))
                ·replace H:=H.2 b20
                 exact gn b20 (h:=(gn b20 (h:=(gn b20 (h:=(gn b20 (h:=(gn b20 (h:=(zd rfl (zN (okb b20) rfl) (wk (hQ _ _ ⟨false,rfl,H,rfl⟩))))))))))))
              ·clear H
               rcases Bool.eq_false_or_eq_true (q17) with b21 | b21
               ·exact gp b21 (h:=(zb rfl rfl (okb b21) rfl (qq Tryz.underlying43 k184 rfl) (zd rfl (zR (okb b21) rfl) (wk (hQ _ _ ⟨decide (t1781=Er.ok),rfl,by rw [b21] <;> rfl,rfl⟩)))))
               ·exact gn b21 (h:=(gn b21 (h:=(zd rfl (zN (okb b21) rfl) (wk (hQ _ _ ⟨false,rfl,by rw [b21] <;> rfl,rfl⟩))))))
             ·clear hJ7
              rcases Bool.eq_false_or_eq_true (ok) with b22 | b22
              ·replace H:=H.1 b22
               refine gp b22 (h:=(qv (qM rfl rfl (okb b22)) rfl rfl (W_smithysee_Is (hG.grown gr36) hS0 hS1 hS2 hS3 hS4 hS5 hS6 hS7 hS8 hS9 hS10 hS11 hS12 hS13 hS14 hS15 hS16 k182 H) ?_))
               rintro _ w39 ⟨hg28,t184,rfl,H⟩
               have k186:=k182.grown hg28
               exact zd rfl (zR (okb b22) rfl) (wk (hQ _ _ ⟨t184,rfl,H,(qI gr36 hg28),(k181.grown hg28),(ht1781.grown hg28)⟩))
              ·replace H:=H.2 b22
               exact gn b22 (h:=(gn b22 (h:=(zd rfl (zN (okb b22) rfl) (wk (hQ _ _ ⟨false,rfl,H,gr36,k181,ht1781⟩))))))
          ·clear hJ3
           rcases Bool.eq_false_or_eq_true ((!decide (t891=Er.ok)) || (!decide ((t890.length:Int)=(want2.length:Int)))) with b23 | b23
           ·replace H:=H.1 b23
            exact gn b23 (h:=(gn b23 (h:=(gn b23 (h:=(gn b23 (h:=(gn b23 (h:=(gn b23 (h:=(zd rfl (zR (okb b23) rfl) (wk (hQ _ _ ⟨true,rfl,H,gr16,k28,k29,k30,k31,k32,k27,c3⟩))))))))))))))
           ·replace H:=H.2 b23
            refine gp b23 (h:=(qv (qM rfl rfl (okb b23)) rfl rfl (W_val_Truth_span0 k28 k29 k30 k31 H) ?_))
            rintro _ w40 ⟨hg29,t103,rfl,H⟩
            exact gp b23 (h:=(gp b23 (h:=(gp b23 (h:=(zb rfl rfl (okb b23) rfl (qf Tryz.underlying4 rfl rfl) (zd rfl (zN (okb b23) rfl) (wk (hQ _ _ ⟨!(t103 == (decide ((0:Int)<(want2.length:Int)))),rfl,H,(qI gr16 hg29),(k28.grown hg29),(k29.grown hg29),(k30.grown hg29),(k31.g0 hg29),(k32.grown hg29),(k27.grown hg29),(c3.grown hg29)⟩)))))))))
         ·clear H
          rcases Bool.eq_false_or_eq_true (!decide (t891=Er.ok)) with b24 | b24
          ·exact gn b24 (h:=(gn b24 (h:=(gn b24 (h:=(gn b24 (h:=(gn b24 (h:=(zd rfl (zR (okb b24) rfl) (wk (hQ _ _ ⟨true,rfl,by rw [b24] <;> rfl,rfl⟩))))))))))))
          ·exact gp b24 (h:=(gp b24 (h:=(gp b24 (h:=(gp b24 (h:=(gp b24 (h:=(zd rfl (zN (okb b24) rfl) (wk (hQ _ _ ⟨!decide ((t890.length:Int)=(want2.length:Int)),rfl,by rw [b24] <;> rfl,rfl⟩))))))))))))
       ·clear H
        exact zb rfl rfl (rfl) rfl (ze qH rfl) (zb rfl rfl (rfl) rfl (qb Tryz.underlying43 k13 rfl) (zd rfl (zN (rfl) rfl) (wk (hQ _ _ ⟨!decide (t4312=Er.ok),rfl,rfl,rfl⟩))))
     ·clear H
      rcases Bool.eq_false_or_eq_true ((decide ((0:Int)<(step_.tmod (9:Int)))) && (decide (i2<(to_.tmod (50:Int))))) with b25 | b25
      ·exact gn b25 (h:=(gn b25 (h:=(gn b25 (h:=(qn rfl rfl rfl rfl (qn rfl rfl rfl rfl (qn rfl rfl rfl rfl (gn b25 (h:=(zd rfl (zR (okb b25) rfl) (wk (hQ _ _ ⟨true,rfl,by rw [b25] <;> rfl,rfl⟩)))))))))))))
      ·refine gp b25 (h:=(gp b25 (h:=(gp b25 (h:=?_)))))
       rcases Bool.eq_false_or_eq_true (decide ((step_.tmod (9:Int))<(0:Int))) with b26 | b26
       ·exact gp b26 (h:=(gp b26 (h:=(gp b26 (h:=(zb rfl rfl (okb b25) rfl (zR (okb b26) rfl) (zd rfl (zN (okb b25) rfl) (wk (hQ _ _ ⟨decide ((to_.tmod (50:Int))<i2),rfl,by rw [b25,b26] <;> rfl,rfl⟩)))))))))
       ·exact gn b26 (h:=(gn b26 (h:=(gn b26 (h:=(zb rfl rfl (okb b25) rfl (zN (okb b26) rfl) (zd rfl (zN (okb b25) rfl) (wk (hQ _ _ ⟨false,rfl,by rw [b25,b26] <;> rfl,rfl⟩)))))))))
    ·clear H
     rcases Bool.eq_false_or_eq_true (decide ((0:Int)<(step_.tmod (9:Int)))) with b27 | b27
     ·exact gp b27 (h:=(gp b27 (h:=(gp b27 (h:=(zd rfl (zR (okb b27) rfl) (wk (hQ _ _ ⟨decide (i2<(to_.tmod (50:Int))),rfl,by rw [b27] <;> rfl,rfl⟩))))))))
     ·exact gn b27 (h:=(gn b27 (h:=(gn b27 (h:=(zd rfl (zN (okb b27) rfl) (wk (hQ _ _ ⟨false,rfl,by rw [b27] <;> rfl,rfl⟩))))))))
end
 
section
open Go Go.RowKit
def CntP (a b s n:Int):Prop:=0<=n/\n<=1000/\∀ i,0<=i->(i<n↔((0<s/\a+s*i<b)∨(s<0/\b<a+s*i)))
theorem mul_bd {s i:Int} (hs : -8<=s/\s<=8) (hi:0<=i/\i<=2000) : -16000<=s*i/\s*i<=16000:=by
 have:s = -8∨s = -7∨s = -6∨s = -5∨s = -4∨s = -3∨s = -2∨s = -1∨s=0∨s=1∨s=2∨s=3∨s=4∨s=5∨s=6∨s=7∨s=8:=by omega
 rcases this with rfl | rfl | rfl | rfl | rfl | rfl | rfl | rfl | rfl | rfl | rfl | rfl | rfl | rfl | rfl | rfl | rfl <;> omega
theorem cntP_zero {a b s way by_:Int} (hs:s≠0 /\ -8<=s/\s<=8) (h:(0<s/\way=b - a/\by_=s)∨(s<0/\way=a - b/\by_ = -s)) (hw:way<=0):CntP a b s 0:=by
 refine ⟨by omega,by omega,fun i hi=>⟨fun h1=>by omega,fun h1=>?_⟩⟩
 have:s = -8∨s = -7∨s = -6∨s = -5∨s = -4∨s = -3∨s = -2∨s = -1∨s=1∨s=2∨s=3∨s=4∨s=5∨s=6∨s=7∨s=8:=by omega
 rcases this with rfl | rfl | rfl | rfl | rfl | rfl | rfl | rfl | rfl | rfl | rfl | rfl | rfl | rfl | rfl | rfl <;> omega
theorem cntP_of {a b s way by_ z r:Int} (ha : -50<a/\a<50) (hb : -50<b/\b<50) (hs:s≠0 /\ -8<=s/\s<=8) (h:(0<s/\way=b - a/\by_=s)∨(s<0/\way=a - b/\by_ = -s)) (hw:0<way) (hf:Floor (way - 1) by_ z r):0<=z/\z<=100/\CntP a b s (z+1):=by
 obtain ⟨h1,h2⟩:=hf
 have key:0<=z/\z<=100/\∀ i,0<=i->(i<z+1↔((0<s/\a+s*i<b)∨(s<0/\b<a+s*i))):=by
  have:by_=1∨by_=2∨by_=3∨by_=4∨by_=5∨by_=6∨by_=7∨by_=8:=by omega
  rcases h with ⟨p1,p2,p3⟩ | ⟨p1,p2,p3⟩
  ·subst p3
   rcases this with rfl | rfl | rfl | rfl | rfl | rfl | rfl | rfl <;> exact ⟨by omega,by omega,fun i hi=>⟨fun _=>by omega,fun _=>by omega⟩⟩
  ·have p4:s = -by_:=by omega
   subst p4
   rcases this with rfl | rfl | rfl | rfl | rfl | rfl | rfl | rfl <;> exact ⟨by omega,by omega,fun i hi=>⟨fun _=>by omega,fun _=>by omega⟩⟩
 exact ⟨key.1,key.2.1,by omega,by omega,key.2.2⟩
theorem of_M {n:Int} {K:Int->Nat->Prop} (h : -9223372036854775808<=n/\n<=9223372036854775807) (k:K n 3):ki n K:=⟨h.1,h.2,k⟩
theorem range_M {a b s:Int} {K0:Er->Prop} {K:Int->Nat->Int->Nat->Int->Nat->Int->Er->Prop} (ha : -50<a/\a<50) (hb : -50<b/\b<50) (hs : -8<=s/\s<=8) (h0:s=0->K0 (.e 3)) (h1:s≠0->∀ n,CntP a b s n->K a 3 b 3 s 3 n .ok):M_list_Range a 3 b 3 s 3 K0 K:=by
 refine ⟨by decide,fun e=>h0 (cmp0.1 e),fun e=>?_⟩
 have hs0:s≠0:=fun e'=>e (cmp0.2 e')
 refine ⟨fun t m=>t=b - a/\m=4,⟨by decide,rfl,rfl⟩,?_⟩
 rintro _ _ ⟨rfl,rfl⟩
 refine ⟨fun way mw by_ mb=>((0<s/\way=b - a/\by_=s)∨(s<0/\way=a - b/\by_ = -s))/\mw<=4/\mb<=4,⟨by decide,fun e=>?_,fun e=>?_⟩,?_⟩
 ·have:=cmpN.1 e
  exact ⟨by decide,by decide,.inr ⟨this,by omega,rfl⟩,by omega,by omega⟩
 ·have:¬ s<0:=fun e'=>e (cmpN.2 e')
  exact ⟨.inl ⟨by omega,rfl,rfl⟩,by omega,by omega⟩
 rintro way mw by_ mb ⟨hwb,hm1,hm2⟩
 refine ⟨by omega,fun e=>?_,fun e=>?_⟩
 ·have hw:way<=0:=by
   by_cases h1:way<0
   ·omega
   ·by_cases h2:0<way
    ·rw [if_neg h1,if_pos h2] at e; omega
    ·omega
  exact h1 hs0 0 (cntP_zero ⟨hs0,hs⟩ hwb hw)
 ·have hw:0<way:=by
   by_cases h1:way<0
   ·rw [if_pos h1] at e; omega
   ·by_cases h2:0<way
    ·exact h2
    ·rw [if_neg h1,if_neg h2] at e; omega
  have hby:by_≠0:=by omega
  refine ⟨fun z m _=>(∃ r,Floor (way - 1) by_ z r)/\m<=20,of_M (by omega) ⟨by omega,by omega,fun z hz _=>⟨hz hby,by omega⟩⟩,?_⟩
  rintro z m t ⟨⟨r,hf⟩,hm⟩
  obtain ⟨hz0,hz1,hc⟩:=cntP_of ha hb ⟨hs0,hs⟩ hwb hw hf
  refine of_M (by omega) ⟨by omega,by omega,fun _=>⟨fun e=>?_,fun _=>h1 hs0 _ hc⟩,fun e=>absurd (by unfold In64; omega) e⟩
  exfalso
  simp at e
  omega
def itR (a s:Int) (i:Nat):PV:=.int (a+s*(i:Int))
def itsR (a s:Int) (n:Nat):List PV:=(List.range n).map (itR a s)
def wantR (a s:Int) (n:Nat):List Int:=(List.range n).map fun i:Nat=>a+s*(i:Int)
theorem itsR_succ (a s:Int) (n:Nat):itsR a s (n+1)=itsR a s n++[itR a s n]:=by
 unfold itsR; rw [List.range_succ,List.map_append]; rfl
theorem wantR_succ (a s:Int) (n:Nat):wantR a s (n+1)=wantR a s n++[a+s*(n:Int)]:=by
 unfold wantR; rw [List.range_succ,List.map_append]; rfl
theorem itsR_len (a s:Int) (n:Nat):(itsR a s n).length=n:=by simp [itsR]
theorem wantR_len (a s:Int) (n:Nat):(wantR a s n).length=n:=by simp [wantR]
theorem itsR_at (a s:Int) {n i:Nat} (h:i<n):(itsR a s n).getD i PV.nil=itR a s i:=by simp [itsR,List.getD,h]
theorem wantR_at (a s:Int) {n i:Nat} (h:i<n):(wantR a s n).getD i 0=a+s*(i:Int):=by simp [wantR,List.getD,h]
section
variable {a b s n:Int} (ha : -50<a/\a<50) (hs : -8<=s/\s<=8) (hn:0<=n/\n<=1000)
 include ha hs hn
theorem item_M {i:Int} {K:PV->Prop} (hi:0<=i/\i<n) (h:K (itR a s i.toNat)):kd a 3 b 3 s 3 n i K:=by
 have:=mul_bd hs (i:=i) (by omega)
 unfold itR at h
 rw [Int.toNat_of_nonneg hi.1] at h
 exact ⟨⟨by omega,by omega⟩,by omega,by omega,h⟩
theorem next_M {l:List PV} {at_:Int} {P:Bool} {K:PV->Bool->Int->Bool->Bool->Prop} (h0:0<=at_) (h1:at_<n->K (itR a s at_.toNat) true (at_+1) false P) (h2:n<=at_->K .nil false at_ false P):jr a 3 b 3 s 3 n l at_ false P K:=by
 intro _ _
 refine ⟨True,trivial,fun _=>⟨fun e=>?_,fun e=>?_⟩⟩
 ·simp only [Bool.false_or,decide_eq_true_eq] at e
  exact h2 e
 ·simp only [Bool.false_or,decide_eq_false_iff_not] at e
  refine ⟨by simp only [In]; omega,by simp only [In]; omega,?_⟩
  rw [show at_+1 - 1=at_ by omega]
  exact item_M ha hs hn (by omega) (h1 (by omega))
theorem all_M {K:List PV->Er->Prop} (h:K (itsR a s n.toNat) .ok):kl a 3 b 3 s 3 n K:=by
 refine ⟨True,⟨fun q=>q=false,⟨fun e=>absurd e (by decide),fun _=>⟨fun e=>absurd e (by decide),fun _=>rfl⟩⟩,?_⟩,fun _=>⟨fun e=>absurd rfl e,fun _=>?_⟩⟩
 ·rintro _ rfl
  exact ⟨fun e=>(by cases e),fun _=>⟨fun _=>trivial,fun e=>absurd rfl e⟩⟩
 ·refine next_M ha hs hn (by omega) (fun h1=>?_) (fun h1=>?_)
  all_goals refine ⟨fun l x is at_ e _=>e=false/\0<=at_/\((is=true/\∃ j:Nat,(j:Int)<n/\l=itsR a s j/\x=itR a s j/\at_=(j:Int)+1)∨(is=false/\l=itsR a s n.toNat)),fun l _ is _ _ _=>if is then (n+1 - (l.length:Int)).toNat else 0,?_,?_⟩
  ·exact ⟨rfl,by omega,.inl ⟨rfl,0,by omega,rfl,rfl,rfl⟩⟩
  rotate_left 1
  ·refine ⟨rfl,by omega,.inr ⟨rfl,?_⟩⟩
   rw [show n.toNat=0 by omega]; rfl
  all_goals
   rintro l x is at_ e p ⟨rfl,h2,h3⟩
   rcases h3 with ⟨rfl,j,hj,rfl,rfl,rfl⟩ | ⟨rfl,rfl⟩
   ·refine ⟨fun _=>⟨fun hl=>?_,fun _=>⟨?_,next_M ha hs hn (by omega) (fun h4=>?_) (fun h4=>?_)⟩⟩,fun e=>(by cases e)⟩
    ·rw [itsR_len] at hl; omega
    ·rw [itsR_len]; simp; omega
    ·rw [<-itsR_succ]
     refine ⟨⟨rfl,by omega,.inl ⟨rfl,j+1,by omega,rfl,?_,by omega⟩⟩,?_⟩
     ·rw [show ((j:Int)+1).toNat=j+1 by omega]
     ·simp only [itsR_len,if_true]; omega
    ·rw [<-itsR_succ]
     refine ⟨⟨rfl,by omega,.inr ⟨rfl,?_⟩⟩,?_⟩
     ·rw [show n.toNat=j+1 by omega]
     ·simp only [itsR_len,if_true]; simp; omega
   ·exact ⟨fun e=>(by cases e),fun _=>fun _=>⟨fun _=>h,fun e=>(by cases e)⟩⟩
theorem at_M {i:Int} {K:PV->Er->Prop} (hi : -2000<=i/\i<=2000) (h1:0<=i->i<n->K (itR a s i.toNat) .ok) (h2:i<0 -> -n<=i->K (itR a s (i+n).toNat) .ok) (h3:n<=i->K .nil (.e 3)) (h4:i < -n->K .nil (.e 3)):jQ a 3 b 3 s 3 n i 3 K:=by
 refine ⟨fun e=>(by cases e),fun _=>⟨by decide,fun _=>?_,fun e=>absurd (by unfold In64; omega) e⟩⟩
 refine ⟨fun k=>k=if i<0 then i+n else i,⟨fun e=>?_,fun e=>?_⟩,?_⟩
 ·have:i<0:=by simpa using e
  exact ⟨by simp only [In]; omega,by rw [if_pos this]⟩
 ·have:¬ i<0:=by simpa using e
  rw [if_neg this]
 ·rintro _ rfl
  by_cases hneg:i<0
  ·rw [if_pos hneg]
   refine ⟨fun e=>?_,fun e=>?_⟩
   ·have:i+n<0:=by simp at e; omega
    exact h4 (by omega)
   ·have:0<=i+n/\i+n<n:=by simpa using e
    exact item_M ha hs hn this (h2 hneg (by omega))
  ·rw [if_neg hneg]
   refine ⟨fun e=>?_,fun e=>?_⟩
   ·have:n<=i:=by simp at e; omega
    exact h3 this
   ·have:0<=i/\i<n:=by simpa using e
    exact item_M ha hs hn this (h1 (by omega) (by omega))
end
theorem in_M {a b s n k:Int} {K:Bool->Er->Prop} (ha : -50<a/\a<50) (hs : -8<=s/\s<=8) (hs0:s≠0) (hn:0<=n/\n<=1000) (hk : -60<k/\k<60) (h:K (decide (k∈wantR a s n.toNat)) .ok):kt (.int k) a 3 b 3 s 3 n K:=by
 have mem:k∈wantR a s n.toNat↔∃ j:Int,0<=j/\j<n/\k - a=s*j:=by
  unfold wantR
  simp only [List.mem_map,List.mem_range]
  refine ⟨fun ⟨j,h1,h2⟩=>⟨j,by omega,by omega,by omega⟩,fun ⟨j,h1,h2,h3⟩=>⟨j.toNat,by omega,?_⟩⟩
  rw [Int.toNat_of_nonneg h1]; omega
 refine ⟨fun z e=>?_,fun e=>absurd rfl (e k)⟩
 cases e
 refine ⟨fun e=>?_,fun e=>?_⟩
 ·have hn0:n=0:=by simpa using e
  have:¬ k∈wantR a s n.toNat:=fun hm=>by
   obtain ⟨j,h1,h2,_⟩:=mem.1 hm
   omega
  rw [decide_eq_false this] at h
  exact h
 ·refine ⟨fun q m _=>(∃ r,Floor (k - a) s q r)/\m<=20,⟨by decide,by decide,fun z hz _=>⟨hz hs0,by omega⟩⟩,?_⟩
  rintro q m1 _ ⟨⟨r',hq⟩,hm1⟩
  refine ⟨fun r m _=>(∃ q,Floor (k - a) s q r)/\m<=20,⟨by decide,by decide,fun z hz _=>⟨hz hs0,by omega⟩⟩,?_⟩
  rintro r m2 _ ⟨⟨q',hr⟩,hm2⟩
  obtain ⟨rfl,rfl⟩:=hq.unique hr
  have hqb : -200<=q/\q<=200:=by
   obtain ⟨f1,f2⟩:=hq
   have:s = -8∨s = -7∨s = -6∨s = -5∨s = -4∨s = -3∨s = -2∨s = -1∨s=1∨s=2∨s=3∨s=4∨s=5∨s=6∨s=7∨s=8:=by omega
   rcases this with rfl | rfl | rfl | rfl | rfl | rfl | rfl | rfl | rfl | rfl | rfl | rfl | rfl | rfl | rfl | rfl <;> omega
  refine ⟨by omega,fun _=>⟨by omega,?_⟩,fun e=>absurd (by unfold In64; omega) e⟩
  have e1:decide ((if r'<0 then -1 else if (0:Int)<r' then 1 else 0:Int)=0)=decide (r'=0):=decide_eq_decide.2 cmp0
  have e2:(((decide (r'=0) && true) && decide (0<=q)) && decide (q<n))=decide (k∈wantR a s n.toNat):=by
   rw [Bool.eq_iff_iff]
   simp only [Bool.and_true,Bool.and_eq_true,decide_eq_true_eq,mem]
   refine ⟨fun ⟨⟨x1,x2⟩,x3⟩=>⟨q,x2,x3,?_⟩,fun ⟨j,x1,x2,x3⟩=>?_⟩
   ·have:=hq.1
    rw [x1] at this
    rw [this,Int.mul_comm]; omega
   ·have hj:Floor (k - a) s j 0:=⟨by rw [x3,Int.mul_comm]; omega,by omega⟩
    obtain ⟨rfl,rfl⟩:=hq.unique hj
    exact ⟨⟨rfl,x1⟩,x2⟩
  show K (((decide ((if r'<0 then -1 else if (0:Int)<r' then 1 else 0:Int)=0) && true) && decide (0<=q)) && decide (q<n)) .ok
  rw [e1,e2]
  exact h
theorem among_M {l:List Int} {n:Int} {K:Bool->Prop} (hl:l.length<=2000) (h:K (decide (n∈l))):kf l n K:=by
 intro _
 refine ⟨fun i=>0<=i/\i<=l.length/\¬ n∈l.take i.toNat,fun i=>((l.length:Int) - i).toNat,⟨by omega,by omega,by simp⟩,?_⟩
 rintro i ⟨h0,h1,h2⟩
 refine ⟨fun hi=>⟨⟨h0,hi⟩,fun e=>?_,fun e=>⟨by simp only [In]; omega,⟨by omega,by omega,?_⟩,by first | omega | (dsimp only; omega)⟩⟩,fun hi=>?_⟩
 ·have hlt:i.toNat<l.length:=by omega
  have:n∈l:=by
   rw [<-e]
   simp only [List.getD,List.getElem?_eq_getElem hlt,Option.getD_some]
   exact List.getElem_mem hlt
  rw [decide_eq_true this] at h; exact h
 ·have hlt:i.toNat<l.length:=by omega
  rw [show (i+1).toNat=i.toNat+1 by omega,List.take_add_one,List.getElem?_eq_getElem hlt]
  simp only [List.getD,List.getElem?_eq_getElem hlt,Option.getD_some] at e
  intro hm
  rcases List.mem_append.1 hm with hm | hm
  ·exact h2 hm
  ·simp at hm; exact e hm.symm
 ·rw [List.take_of_length_le (by omega)] at h2
  rw [decide_eq_false h2] at h; exact h
theorem tmodB (x:Int) {k:Int} (hk:0<k) : -k<x.tmod k/\x.tmod k<k:=by
 have h1:=Int.tmod_lt_of_pos x hk
 have h2:=Int.tmod_lt_of_pos (-x) hk
 rw [Int.neg_tmod] at h2
 omega
theorem reprI_M {x:PV} {z:Int} {K:List UInt8->Prop} (hx:x=.int z) (hz : -100000000<z/\z<100000000) (h:K (txt z)):jM x K:=by
 subst hx
 exact vrepr_int (by have:=txt_len hz; omega) h
theorem ranges_lr {from_ to_ step_ ask:Int} {K:Bool->Prop} (_:In .i64 from_) (_:In .i64 to_) (_:In .i64 step_) (_:In .i64 ask) (h:K true):jA from_ to_ step_ ask K:=by
 refine lfirst_M ⟨fun e=>(by cases e),fun _=>⟨by omega,by omega,by omega,by omega,?_⟩⟩
 have ha:=tmodB from_ (k:=50) (by omega)
 have hb:=tmodB to_ (k:=50) (by omega)
 have hs:=tmodB step_ (k:=9) (by omega)
 have hk:=tmodB ask (k:=60) (by omega)
 generalize from_.tmod 50=a at *
 generalize to_.tmod 50=b at *
 generalize step_.tmod 9=s at *
 generalize ask.tmod 60=k at *
 have hs' : -8<=s/\s<=8:=by omega
 refine of_M (by omega) (of_M (by omega) (of_M (by omega) (range_M ha hb hs' (fun e=>?_) (fun hs0 n hn=>?_))))
 ·refine ⟨fun _=>⟨fun q=>q=true,⟨fun _=>is_M (by rfl),fun e=>(by cases e)⟩,?_⟩,fun e'=>absurd e e'⟩
  rintro _ rfl; exact h
 obtain ⟨hn0,hn1,hn⟩:=hn
 refine ⟨fun e=>absurd e hs0,fun _=>⟨fun want i=>∃ j:Nat,(j:Int)<=n/\want=wantR a s j/\i=a+s*(j:Int),fun want _=>(n - (want.length:Int)).toNat,⟨0,by omega,rfl,by simp⟩,?_⟩⟩
 rintro want i ⟨j,hj,rfl,rfl⟩
 have hmb:=mul_bd hs' (i:=(j:Int)) (by omega)
 have hc:=hn (j:Int) (by omega)
 refine ⟨fun e=>?_,fun e=>?_⟩
 ·have hjn:(j:Int)<n:=hc.2 (by simpa [Bool.or_eq_true,Bool.and_eq_true] using e)
  rw [wantR_len,<-wantR_succ]
  refine ⟨by simp; omega,by simp only [In]; omega,⟨j+1,by omega,rfl,?_⟩,by first | (simp only [wantR_len]; omega) | skip⟩
  rw [show ((j+1:Nat):Int)=(j:Int)+1 by omega,Int.mul_add]; omega
 ·have hjn:¬ (j:Int)<n:=fun hlt=>by
   have:=hc.1 hlt
   rw [Bool.or_eq_false_iff,Bool.and_eq_false_iff,Bool.and_eq_false_iff] at e
   simp only [decide_eq_false_iff_not] at e
   omega
  have ejn:(j:Int)=n:=by omega
  have hjt:n.toNat=j:=by omega
  refine ⟨fun e=>absurd rfl e,fun _=>all_M ha hs' ⟨hn0,hn1⟩ ?_⟩
  rw [hjt]
  refine ⟨fun q=>q=false,⟨fun e=>absurd e (by simp [itsR_len,wantR_len]),fun _=>?_⟩,?_⟩
  ·show (!(decide ((0:Int)<n) == decide ((0:Int)<((wantR a s j).length:Int))))=false
   rw [wantR_len,ejn]; simp
  rintro _ rfl
  refine ⟨fun e=>(by cases e),fun _=>⟨fun i=>0<=i/\i<=n,fun i=>(n - i).toNat,⟨by omega,by omega⟩,?_⟩⟩
  rintro i ⟨q0,q1⟩
  rw [wantR_len,ejn]
  refine ⟨fun hi=>?_,fun hi=>?_⟩
  ·have hib : -100000000<a+s*(i.toNat:Int)/\a+s*(i.toNat:Int)<100000000:=by
    have:=mul_bd hs' (i:=(i.toNat:Int)) (by omega)
    omega
   refine of_M (by omega) (at_M ha hs' ⟨hn0,hn1⟩ (by omega) (fun _ _=>?_) (fun e _=>by omega) (fun e=>by omega) (fun e=>by omega))
   refine ⟨by simp only [In]; omega,of_M (by omega) (at_M ha hs' ⟨hn0,hn1⟩ (by omega) (fun e _=>by omega) (fun _ _=>?_) (fun e=>by omega) (fun e=>by omega))⟩
   rw [show i - n+n=i by omega]
   refine ⟨fun q=>q=false,⟨fun e=>absurd e (by simp),fun _=>reprI_M rfl hib ⟨⟨q0,by omega⟩,?_⟩⟩,?_⟩
   ·rw [wantR_at a s (by omega:i.toNat<j)]
    exact of_M (by omega) ⟨by decide,by simp⟩
   rintro _ rfl
   refine ⟨fun q=>q=false,⟨fun e=>(by cases e),fun _=>reprI_M rfl hib (reprI_M rfl hib (by simp))⟩,?_⟩
   rintro _ rfl
   refine ⟨fun q=>q=false,⟨fun e=>(by cases e),fun _=>⟨⟨q0,by rw [itsR_len]; omega⟩,?_⟩⟩,?_⟩
   ·rw [itsR_at a s (by omega:i.toNat<j)]
    exact reprI_M rfl hib (reprI_M rfl hib (by simp))
   rintro _ rfl
   exact ⟨fun e=>(by cases e),fun _=>⟨by simp only [In]; omega,⟨by omega,by omega⟩,by first | omega | (dsimp only; omega)⟩⟩
  ·refine of_M (by omega) (at_M ha hs' ⟨hn0,hn1⟩ (by omega) (fun _ e=>by omega) (fun e _=>by omega) (fun _=>?_) (fun e=>by omega))
   refine lsmall_M (by omega) (in_M ha hs' hs0 ⟨hn0,hn1⟩ hk ?_)
   rw [hjt]
   refine ⟨fun q=>q=true,⟨fun _=>is_M (by rfl),fun e=>(by cases e)⟩,?_⟩
   rintro _ rfl
   refine ⟨fun q=>q=true,⟨fun _=>among_M (by rw [wantR_len]; omega) (by simp),fun e=>absurd e (by simp)⟩,?_⟩
   rintro _ rfl
   exact h
end
 end Go.Proofs.YtjoepdjeekadcaaGreatDoor
