/- Texts of this claim, joined by a program: Num11, Ord, Num12, Num13, Num14, Rev, Num15, NumA, Ifc, GLs, GLt, GPv. -/
import Derived.Test.YtjoepdjeekadcaaGreatDoorJ2
namespace Go.Proofs.YtjoepdjeekadcaaGreatDoor
section
open Go Go.RowKit
attribute [local irreducible] WL WC WX WQ WK Yld Eff Ef0 Fn
theorem conv_u64 (n:Int) (h1 : -9223372036854775808<=n) (h2:n<=9223372036854775807):IntKind.u64.wrap n=if n<0 then n+18446744073709551616 else n:=by
 split
 ·simp [IntKind.wrap,IntKind.bits,IntKind.signed]; omega
 ·simp [IntKind.wrap,IntKind.bits,IntKind.signed]; omega
theorem of_fn' (n:Int) (w:World) (h1 : -9223372036854775808<=n) (h2:n<=9223372036854775807) :
  Fn Tryz.prog 37 ⟨[.int .i64 n]⟩ w fun r w'=>Nm w' r n 3/\w.grownBy w' none/\Lies r (fun q=>w.heap.size<=q/\q<w'.heap.size):=by
 refine Fn.enter (by kernel_rfl) Tryz.func37 rfl Tryz.ntmps37 rfl ?_
 repeat (first | refine zg ?_ | refine WC.block ?_ | refine zc ?_ | refine zh ?_ | refine za ?_ | refine zt ?_ | refine zy ?_ | refine zx ?_ | refine zm ?_ | refine zi ?_ | refine zf ?_ | refine zn ?_ | refine zk ?_ | refine zl rfl ?_ | refine zv ?_ | refine zw ?_ | refine zj ?_ | refine zp ?_ | refine zo ?_ | refine zd rfl (Yld.add rfl rfl (by simp only [In]; omega)) ?_ | refine zd rfl (Yld.sub rfl rfl (by simp only [In]; omega)) ?_ | refine zd rfl (zC rfl rfl (by simp only [In]; omega)) ?_ | refine zd rfl (zr qH rfl rfl rfl rfl) ?_ | refine zd rfl (zu qH rfl rfl rfl (by simp only [In]; omega)) ?_ | refine zd rfl (zz rfl rfl (by omega) (by omega) (by simp only [In]; omega)) ?_ | refine zd rfl (zA rfl rfl (by omega) (by omega)) ?_ | refine zd rfl (zI rfl rfl (by omega)) ?_ | refine zd rfl (zG rfl rfl (by omega)) ?_ | refine zd rfl (ze qH rfl) ?_ | refine zd rfl (zF qJ rfl rfl rfl) ?_ | refine zd rfl (zD rfl rfl) ?_ | refine zd rfl (zB rfl rfl) ?_ | refine zd rfl (zq rfl rfl rfl) ?_ | refine zJ rfl rfl rfl rfl ?_ | refine zb rfl rfl rfl rfl (Yld.add rfl rfl (by simp only [In]; omega)) ?_ | refine zb rfl rfl rfl rfl (Yld.sub rfl rfl (by simp only [In]; omega)) ?_ | refine zb rfl rfl rfl rfl (zC rfl rfl (by simp only [In]; omega)) ?_ | refine zb rfl rfl rfl rfl (zr qH rfl rfl rfl rfl) ?_ | refine zb rfl rfl rfl rfl (zu qH rfl rfl rfl (by simp only [In]; omega)) ?_ | refine zb rfl rfl rfl rfl (zz rfl rfl (by omega) (by omega) (by simp only [In]; omega)) ?_ | refine zb rfl rfl rfl rfl (zA rfl rfl (by omega) (by omega)) ?_ | refine zb rfl rfl rfl rfl (zI rfl rfl (by omega)) ?_ | refine zb rfl rfl rfl rfl (zG rfl rfl (by omega)) ?_ | refine zb rfl rfl rfl rfl (ze qH rfl) ?_ | refine zb rfl rfl rfl rfl (zF qJ rfl rfl rfl) ?_ | refine zb rfl rfl rfl rfl (zD rfl rfl) ?_ | refine zb rfl rfl rfl rfl (zB rfl rfl) ?_ | refine zb rfl rfl rfl rfl (zq rfl rfl rfl) ?_)
 refine WL.alloc rfl qX (fun g w1 hB1 hg1 hl1=>?_)
 repeat (first | refine zg ?_ | refine WC.block ?_ | refine zc ?_ | refine zh ?_ | refine za ?_ | refine zt ?_ | refine zy ?_ | refine zx ?_ | refine zm ?_ | refine zi ?_ | refine zf ?_ | refine zn ?_ | refine zk ?_ | refine zl rfl ?_ | refine zv ?_ | refine zw ?_ | refine zj ?_ | refine zp ?_ | refine zo ?_ | refine zd rfl (Yld.add rfl rfl (by simp only [In]; omega)) ?_ | refine zd rfl (Yld.sub rfl rfl (by simp only [In]; omega)) ?_ | refine zd rfl (zC rfl rfl (by simp only [In]; omega)) ?_ | refine zd rfl (zr qH rfl rfl rfl rfl) ?_ | refine zd rfl (zu qH rfl rfl rfl (by simp only [In]; omega)) ?_ | refine zd rfl (zz rfl rfl (by omega) (by omega) (by simp only [In]; omega)) ?_ | refine zd rfl (zA rfl rfl (by omega) (by omega)) ?_ | refine zd rfl (zI rfl rfl (by omega)) ?_ | refine zd rfl (zG rfl rfl (by omega)) ?_ | refine zd rfl (ze qH rfl) ?_ | refine zd rfl (zF qJ rfl rfl rfl) ?_ | refine zd rfl (zD rfl rfl) ?_ | refine zd rfl (zB rfl rfl) ?_ | refine zd rfl (zq rfl rfl rfl) ?_ | refine zJ rfl rfl rfl rfl ?_ | refine zb rfl rfl rfl rfl (Yld.add rfl rfl (by simp only [In]; omega)) ?_ | refine zb rfl rfl rfl rfl (Yld.sub rfl rfl (by simp only [In]; omega)) ?_ | refine zb rfl rfl rfl rfl (zC rfl rfl (by simp only [In]; omega)) ?_ | refine zb rfl rfl rfl rfl (zr qH rfl rfl rfl rfl) ?_ | refine zb rfl rfl rfl rfl (zu qH rfl rfl rfl (by simp only [In]; omega)) ?_ | refine zb rfl rfl rfl rfl (zz rfl rfl (by omega) (by omega) (by simp only [In]; omega)) ?_ | refine zb rfl rfl rfl rfl (zA rfl rfl (by omega) (by omega)) ?_ | refine zb rfl rfl rfl rfl (zI rfl rfl (by omega)) ?_ | refine zb rfl rfl rfl rfl (zG rfl rfl (by omega)) ?_ | refine zb rfl rfl rfl rfl (ze qH rfl) ?_ | refine zb rfl rfl rfl rfl (zF qJ rfl rfl rfl) ?_ | refine zb rfl rfl rfl rfl (zD rfl rfl) ?_ | refine zb rfl rfl rfl rfl (zB rfl rfl) ?_ | refine zb rfl rfl rfl rfl (zq rfl rfl rfl) ?_)
 refine WC.merge [(3,.int .u64 ((n.natAbs:Nat):Int)),(0,.int .i64 n),(2,.pointer (some ⟨g,0,none⟩))] rfl (fun h Q' hQ=>?_) (fun h Q' hQ=>?_) ?_
 ·simp only [decide_eq_true_eq] at h
  have hc:=conv_u64 n h1 h2
  rw [if_pos h] at hc
  repeat (first | refine zg ?_ | refine WC.block ?_ | refine zc ?_ | refine zh ?_ | refine za ?_ | refine zt ?_ | refine zy ?_ | refine zx ?_ | refine zm ?_ | refine zi ?_ | refine zf ?_ | refine zn ?_ | refine zk ?_ | refine zl rfl ?_ | refine zv ?_ | refine zw ?_ | refine zj ?_ | refine zp ?_ | refine zo ?_ | refine zd rfl (Yld.add rfl rfl (by simp only [In]; omega)) ?_ | refine zd rfl (Yld.sub rfl rfl (by simp only [In]; omega)) ?_ | refine zd rfl (zC rfl rfl (by simp only [In]; omega)) ?_ | refine zd rfl (zr qH rfl rfl rfl rfl) ?_ | refine zd rfl (zu qH rfl rfl rfl (by simp only [In]; omega)) ?_ | refine zd rfl (zz rfl rfl (by omega) (by omega) (by simp only [In]; omega)) ?_ | refine zd rfl (zA rfl rfl (by omega) (by omega)) ?_ | refine zd rfl (zI rfl rfl (by omega)) ?_ | refine zd rfl (zG rfl rfl (by omega)) ?_ | refine zd rfl (ze qH rfl) ?_ | refine zd rfl (zF qJ rfl rfl rfl) ?_ | refine zd rfl (zD rfl rfl) ?_ | refine zd rfl (zB rfl rfl) ?_ | refine zd rfl (zq rfl rfl rfl) ?_ | refine zJ rfl rfl rfl rfl ?_ | refine zb rfl rfl rfl rfl (Yld.add rfl rfl (by simp only [In]; omega)) ?_ | refine zb rfl rfl rfl rfl (Yld.sub rfl rfl (by simp only [In]; omega)) ?_ | refine zb rfl rfl rfl rfl (zC rfl rfl (by simp only [In]; omega)) ?_ | refine zb rfl rfl rfl rfl (zr qH rfl rfl rfl rfl) ?_ | refine zb rfl rfl rfl rfl (zu qH rfl rfl rfl (by simp only [In]; omega)) ?_ | refine zb rfl rfl rfl rfl (zz rfl rfl (by omega) (by omega) (by simp only [In]; omega)) ?_ | refine zb rfl rfl rfl rfl (zA rfl rfl (by omega) (by omega)) ?_ | refine zb rfl rfl rfl rfl (zI rfl rfl (by omega)) ?_ | refine zb rfl rfl rfl rfl (zG rfl rfl (by omega)) ?_ | refine zb rfl rfl rfl rfl (ze qH rfl) ?_ | refine zb rfl rfl rfl rfl (zF qJ rfl rfl rfl) ?_ | refine zb rfl rfl rfl rfl (zD rfl rfl) ?_ | refine zb rfl rfl rfl rfl (zB rfl rfl) ?_ | refine zb rfl rfl rfl rfl (zq rfl rfl rfl) ?_)
  rw [hc]
  have hc2:IntKind.u64.wrap (0 - (n+18446744073709551616))=((n.natAbs:Nat):Int):=by
   simp [IntKind.wrap,IntKind.bits,IntKind.signed]; omega
  rw [hc2]
  exact WX.weaken (by repeat (first | exact zS | refine Sub.cons rfl ?_)) hQ
 ·simp only [decide_eq_false_iff_not] at h
  have hc:IntKind.u64.wrap n=((n.natAbs:Nat):Int):=by rw [conv_u64 n h1 h2,if_neg h]; omega
  rw [hc]
  repeat (first | refine zg ?_ | refine WC.block ?_ | refine zc ?_ | refine zh ?_ | refine za ?_ | refine zt ?_ | refine zy ?_ | refine zx ?_ | refine zm ?_ | refine zi ?_ | refine zf ?_ | refine zn ?_ | refine zk ?_ | refine zl rfl ?_ | refine zv ?_ | refine zw ?_ | refine zj ?_ | refine zp ?_ | refine zo ?_ | refine zd rfl (Yld.add rfl rfl (by simp only [In]; omega)) ?_ | refine zd rfl (Yld.sub rfl rfl (by simp only [In]; omega)) ?_ | refine zd rfl (zC rfl rfl (by simp only [In]; omega)) ?_ | refine zd rfl (zr qH rfl rfl rfl rfl) ?_ | refine zd rfl (zu qH rfl rfl rfl (by simp only [In]; omega)) ?_ | refine zd rfl (zz rfl rfl (by omega) (by omega) (by simp only [In]; omega)) ?_ | refine zd rfl (zA rfl rfl (by omega) (by omega)) ?_ | refine zd rfl (zI rfl rfl (by omega)) ?_ | refine zd rfl (zG rfl rfl (by omega)) ?_ | refine zd rfl (ze qH rfl) ?_ | refine zd rfl (zF qJ rfl rfl rfl) ?_ | refine zd rfl (zD rfl rfl) ?_ | refine zd rfl (zB rfl rfl) ?_ | refine zd rfl (zq rfl rfl rfl) ?_ | refine zJ rfl rfl rfl rfl ?_ | refine zb rfl rfl rfl rfl (Yld.add rfl rfl (by simp only [In]; omega)) ?_ | refine zb rfl rfl rfl rfl (Yld.sub rfl rfl (by simp only [In]; omega)) ?_ | refine zb rfl rfl rfl rfl (zC rfl rfl (by simp only [In]; omega)) ?_ | refine zb rfl rfl rfl rfl (zr qH rfl rfl rfl rfl) ?_ | refine zb rfl rfl rfl rfl (zu qH rfl rfl rfl (by simp only [In]; omega)) ?_ | refine zb rfl rfl rfl rfl (zz rfl rfl (by omega) (by omega) (by simp only [In]; omega)) ?_ | refine zb rfl rfl rfl rfl (zA rfl rfl (by omega) (by omega)) ?_ | refine zb rfl rfl rfl rfl (zI rfl rfl (by omega)) ?_ | refine zb rfl rfl rfl rfl (zG rfl rfl (by omega)) ?_ | refine zb rfl rfl rfl rfl (ze qH rfl) ?_ | refine zb rfl rfl rfl rfl (zF qJ rfl rfl rfl) ?_ | refine zb rfl rfl rfl rfl (zD rfl rfl) ?_ | refine zb rfl rfl rfl rfl (zB rfl rfl) ?_ | refine zb rfl rfl rfl rfl (zq rfl rfl rfl) ?_)
  exact WX.weaken (by repeat (first | exact zS | refine Sub.cons rfl ?_)) hQ
 repeat (first | refine zg ?_ | refine WC.block ?_ | refine zc ?_ | refine zh ?_ | refine za ?_ | refine zt ?_ | refine zy ?_ | refine zx ?_ | refine zm ?_ | refine zi ?_ | refine zf ?_ | refine zn ?_ | refine zk ?_ | refine zl rfl ?_ | refine zv ?_ | refine zw ?_ | refine zj ?_ | refine zp ?_ | refine zo ?_ | refine zd rfl (Yld.add rfl rfl (by simp only [In]; omega)) ?_ | refine zd rfl (Yld.sub rfl rfl (by simp only [In]; omega)) ?_ | refine zd rfl (zC rfl rfl (by simp only [In]; omega)) ?_ | refine zd rfl (zr qH rfl rfl rfl rfl) ?_ | refine zd rfl (zu qH rfl rfl rfl (by simp only [In]; omega)) ?_ | refine zd rfl (zz rfl rfl (by omega) (by omega) (by simp only [In]; omega)) ?_ | refine zd rfl (zA rfl rfl (by omega) (by omega)) ?_ | refine zd rfl (zI rfl rfl (by omega)) ?_ | refine zd rfl (zG rfl rfl (by omega)) ?_ | refine zd rfl (ze qH rfl) ?_ | refine zd rfl (zF qJ rfl rfl rfl) ?_ | refine zd rfl (zD rfl rfl) ?_ | refine zd rfl (zB rfl rfl) ?_ | refine zd rfl (zq rfl rfl rfl) ?_ | refine zJ rfl rfl rfl rfl ?_ | refine zb rfl rfl rfl rfl (Yld.add rfl rfl (by simp only [In]; omega)) ?_ | refine zb rfl rfl rfl rfl (Yld.sub rfl rfl (by simp only [In]; omega)) ?_ | refine zb rfl rfl rfl rfl (zC rfl rfl (by simp only [In]; omega)) ?_ | refine zb rfl rfl rfl rfl (zr qH rfl rfl rfl rfl) ?_ | refine zb rfl rfl rfl rfl (zu qH rfl rfl rfl (by simp only [In]; omega)) ?_ | refine zb rfl rfl rfl rfl (zz rfl rfl (by omega) (by omega) (by simp only [In]; omega)) ?_ | refine zb rfl rfl rfl rfl (zA rfl rfl (by omega) (by omega)) ?_ | refine zb rfl rfl rfl rfl (zI rfl rfl (by omega)) ?_ | refine zb rfl rfl rfl rfl (zG rfl rfl (by omega)) ?_ | refine zb rfl rfl rfl rfl (ze qH rfl) ?_ | refine zb rfl rfl rfl rfl (zF qJ rfl rfl rfl) ?_ | refine zb rfl rfl rfl rfl (zD rfl rfl) ?_ | refine zb rfl rfl rfl rfl (zB rfl rfl) ?_ | refine zb rfl rfl rfl rfl (zq rfl rfl rfl) ?_)
 generalize hU:n.natAbs=U
 have hU1:U<=9223372036854775808:=by omega
 refine WC.loop4 (S1:=Nat) (S2:=List Nat) (S3:=Option Addr) (S4:=Nat) (fun u _ _ _=>u)
  (fun u l A c=>[(3,.int .u64 (u:Int)),(4,.slice A l.length c),(0,.int .i64 n),(2,.pointer (some ⟨g,0,none⟩))])
  (fun u l A c w2=>u<=9223372036854775808/\Dg l/\l.length<=3/\u<1000000000 ^ (3 - l.length)/\val l+1000000000 ^ l.length*u=U/\Own vd w2 w1.heap.size 171 A c l/\w1.grownBy w2 none) U [] none 0
  ⟨hU1,Dg.nil,by simp,by simp only [List.length_nil]; omega,by simp [val],Own.nil _ _ _ _,qR _ _⟩ (by repeat (first | exact zS | refine Sub.cons rfl ?_)) (fun u l A c w2 ⟨hu,hD,hl,hp,hv,hO,hg2⟩=>?_)
 repeat (first | refine zg ?_ | refine WC.block ?_ | refine zc ?_ | refine zh ?_ | refine za ?_ | refine zt ?_ | refine zy ?_ | refine zx ?_ | refine zm ?_ | refine zi ?_ | refine zf ?_ | refine zn ?_ | refine zk ?_ | refine zl rfl ?_ | refine zv ?_ | refine zw ?_ | refine zj ?_ | refine zp ?_ | refine zo ?_ | refine zd rfl (Yld.add rfl rfl (by simp only [In]; omega)) ?_ | refine zd rfl (Yld.sub rfl rfl (by simp only [In]; omega)) ?_ | refine zd rfl (zC rfl rfl (by simp only [In]; omega)) ?_ | refine zd rfl (zr qH rfl rfl rfl rfl) ?_ | refine zd rfl (zu qH rfl rfl rfl (by simp only [In]; omega)) ?_ | refine zd rfl (zz rfl rfl (by omega) (by omega) (by simp only [In]; omega)) ?_ | refine zd rfl (zA rfl rfl (by omega) (by omega)) ?_ | refine zd rfl (zI rfl rfl (by omega)) ?_ | refine zd rfl (zG rfl rfl (by omega)) ?_ | refine zd rfl (ze qH rfl) ?_ | refine zd rfl (zF qJ rfl rfl rfl) ?_ | refine zd rfl (zD rfl rfl) ?_ | refine zd rfl (zB rfl rfl) ?_ | refine zd rfl (zq rfl rfl rfl) ?_ | refine zJ rfl rfl rfl rfl ?_ | refine zb rfl rfl rfl rfl (Yld.add rfl rfl (by simp only [In]; omega)) ?_ | refine zb rfl rfl rfl rfl (Yld.sub rfl rfl (by simp only [In]; omega)) ?_ | refine zb rfl rfl rfl rfl (zC rfl rfl (by simp only [In]; omega)) ?_ | refine zb rfl rfl rfl rfl (zr qH rfl rfl rfl rfl) ?_ | refine zb rfl rfl rfl rfl (zu qH rfl rfl rfl (by simp only [In]; omega)) ?_ | refine zb rfl rfl rfl rfl (zz rfl rfl (by omega) (by omega) (by simp only [In]; omega)) ?_ | refine zb rfl rfl rfl rfl (zA rfl rfl (by omega) (by omega)) ?_ | refine zb rfl rfl rfl rfl (zI rfl rfl (by omega)) ?_ | refine zb rfl rfl rfl rfl (zG rfl rfl (by omega)) ?_ | refine zb rfl rfl rfl rfl (ze qH rfl) ?_ | refine zb rfl rfl rfl rfl (zF qJ rfl rfl rfl) ?_ | refine zb rfl rfl rfl rfl (zD rfl rfl) ?_ | refine zb rfl rfl rfl rfl (zB rfl rfl) ?_ | refine zb rfl rfl rfl rfl (zq rfl rfl rfl) ?_)
 refine zE rfl (fun h=>?_) (fun h=>?_)
 ·simp only [decide_eq_true_eq] at h
  have hl3:l.length<3:=by
   rcases Nat.lt_or_ge l.length 3 with h3 | h3
   ·exact h3
   ·rw [show 3 - l.length=0 by omega] at hp; omega
  repeat (first | refine zg ?_ | refine WC.block ?_ | refine zc ?_ | refine zh ?_ | refine za ?_ | refine zt ?_ | refine zy ?_ | refine zx ?_ | refine zm ?_ | refine zi ?_ | refine zf ?_ | refine zn ?_ | refine zk ?_ | refine zl rfl ?_ | refine zv ?_ | refine zw ?_ | refine zj ?_ | refine zp ?_ | refine zo ?_ | refine zd rfl (Yld.add rfl rfl (by simp only [In]; omega)) ?_ | refine zd rfl (Yld.sub rfl rfl (by simp only [In]; omega)) ?_ | refine zd rfl (zC rfl rfl (by simp only [In]; omega)) ?_ | refine zd rfl (zr qH rfl rfl rfl rfl) ?_ | refine zd rfl (zu qH rfl rfl rfl (by simp only [In]; omega)) ?_ | refine zd rfl (zz rfl rfl (by omega) (by omega) (by simp only [In]; omega)) ?_ | refine zd rfl (zA rfl rfl (by omega) (by omega)) ?_ | refine zd rfl (zI rfl rfl (by omega)) ?_ | refine zd rfl (zG rfl rfl (by omega)) ?_ | refine zd rfl (ze qH rfl) ?_ | refine zd rfl (zF qJ rfl rfl rfl) ?_ | refine zd rfl (zD rfl rfl) ?_ | refine zd rfl (zB rfl rfl) ?_ | refine zd rfl (zq rfl rfl rfl) ?_ | refine zJ rfl rfl rfl rfl ?_ | refine zb rfl rfl rfl rfl (Yld.add rfl rfl (by simp only [In]; omega)) ?_ | refine zb rfl rfl rfl rfl (Yld.sub rfl rfl (by simp only [In]; omega)) ?_ | refine zb rfl rfl rfl rfl (zC rfl rfl (by simp only [In]; omega)) ?_ | refine zb rfl rfl rfl rfl (zr qH rfl rfl rfl rfl) ?_ | refine zb rfl rfl rfl rfl (zu qH rfl rfl rfl (by simp only [In]; omega)) ?_ | refine zb rfl rfl rfl rfl (zz rfl rfl (by omega) (by omega) (by simp only [In]; omega)) ?_ | refine zb rfl rfl rfl rfl (zA rfl rfl (by omega) (by omega)) ?_ | refine zb rfl rfl rfl rfl (zI rfl rfl (by omega)) ?_ | refine zb rfl rfl rfl rfl (zG rfl rfl (by omega)) ?_ | refine zb rfl rfl rfl rfl (ze qH rfl) ?_ | refine zb rfl rfl rfl rfl (zF qJ rfl rfl rfl) ?_ | refine zb rfl rfl rfl rfl (zD rfl rfl) ?_ | refine zb rfl rfl rfl rfl (zB rfl rfl) ?_ | refine zb rfl rfl rfl rfl (zq rfl rfl rfl) ?_)
  have hd:(u:Int) % 1000000000=((u % 1000000000:Nat):Int):=by omega
  have hq:(u:Int) / 1000000000=((u / 1000000000:Nat):Int):=by omega
  rw [hd]
  refine qg (us:=[vd (u % 1000000000)]) qH rfl rfl rfl (by intro u hu; rw [List.mem_singleton] at hu; rw [hu]; rfl) rfl (by omega) (fun g3 w3 hL3 hg3 hl3=>?_)
  have hR3:Rd vd w3 (some ⟨g3,0,none⟩) 1 [u % 1000000000]:=qE hL3 (by simp) (by simp [maxLen])
  have hO3:=hO.grown hg3
  have hz2:=hg2.size
  have hz3:=hg3.size
  refine qo qH rfl rfl One.d hO3 rfl rfl hR3 rfl rfl (by simp only [List.length_cons,List.length_nil]; omega) (by simp only [maxLen,List.length_cons,List.length_nil]; omega) (by omega) (fun A4 c4 w4 hO4 hg4 hf4=>?_)
  repeat (first | refine zg ?_ | refine WC.block ?_ | refine zc ?_ | refine zh ?_ | refine za ?_ | refine zt ?_ | refine zy ?_ | refine zx ?_ | refine zm ?_ | refine zi ?_ | refine zf ?_ | refine zn ?_ | refine zk ?_ | refine zl rfl ?_ | refine zv ?_ | refine zw ?_ | refine zj ?_ | refine zp ?_ | refine zo ?_ | refine zd rfl (Yld.add rfl rfl (by simp only [In]; omega)) ?_ | refine zd rfl (Yld.sub rfl rfl (by simp only [In]; omega)) ?_ | refine zd rfl (zC rfl rfl (by simp only [In]; omega)) ?_ | refine zd rfl (zr qH rfl rfl rfl rfl) ?_ | refine zd rfl (zu qH rfl rfl rfl (by simp only [In]; omega)) ?_ | refine zd rfl (zz rfl rfl (by omega) (by omega) (by simp only [In]; omega)) ?_ | refine zd rfl (zA rfl rfl (by omega) (by omega)) ?_ | refine zd rfl (zI rfl rfl (by omega)) ?_ | refine zd rfl (zG rfl rfl (by omega)) ?_ | refine zd rfl (ze qH rfl) ?_ | refine zd rfl (zF qJ rfl rfl rfl) ?_ | refine zd rfl (zD rfl rfl) ?_ | refine zd rfl (zB rfl rfl) ?_ | refine zd rfl (zq rfl rfl rfl) ?_ | refine zJ rfl rfl rfl rfl ?_ | refine zb rfl rfl rfl rfl (Yld.add rfl rfl (by simp only [In]; omega)) ?_ | refine zb rfl rfl rfl rfl (Yld.sub rfl rfl (by simp only [In]; omega)) ?_ | refine zb rfl rfl rfl rfl (zC rfl rfl (by simp only [In]; omega)) ?_ | refine zb rfl rfl rfl rfl (zr qH rfl rfl rfl rfl) ?_ | refine zb rfl rfl rfl rfl (zu qH rfl rfl rfl (by simp only [In]; omega)) ?_ | refine zb rfl rfl rfl rfl (zz rfl rfl (by omega) (by omega) (by simp only [In]; omega)) ?_ | refine zb rfl rfl rfl rfl (zA rfl rfl (by omega) (by omega)) ?_ | refine zb rfl rfl rfl rfl (zI rfl rfl (by omega)) ?_ | refine zb rfl rfl rfl rfl (zG rfl rfl (by omega)) ?_ | refine zb rfl rfl rfl rfl (ze qH rfl) ?_ | refine zb rfl rfl rfl rfl (zF qJ rfl rfl rfl) ?_ | refine zb rfl rfl rfl rfl (zD rfl rfl) ?_ | refine zb rfl rfl rfl rfl (zB rfl rfl) ?_ | refine zb rfl rfl rfl rfl (zq rfl rfl rfl) ?_)
  rw [hq]
  refine WX.round4 (u / 1000000000) (l++[u % 1000000000]) A4 c4 ⟨by omega,hD.push (by omega),by simp; omega,?_,?_,hO4,gr_own (qI hg2 hg3) hO3 hg4 (Nat.le_refl _)⟩ (by omega) (by repeat (first | exact zS | refine Sub.cons rfl ?_))
  ·rw [show (l++[u % 1000000000]).length=l.length+1 by simp]
   rw [show 3 - l.length=(3 - (l.length+1))+1 by omega,Nat.pow_succ] at hp
   omega
  ·rw [val_push,List.length_append,List.length_singleton,Nat.pow_succ]
   have:u=u % 1000000000+1000000000*(u / 1000000000):=by omega
   generalize u % 1000000000=a at *
   generalize u / 1000000000=b at *
   subst this
   grind
 ·simp only [decide_eq_false_iff_not] at h
  obtain rfl:u=0:=by omega
  have hB2:=hB1.keep hg2 (by simp)
  repeat (first | refine zg ?_ | refine WC.block ?_ | refine zc ?_ | refine zh ?_ | refine za ?_ | refine zt ?_ | refine zy ?_ | refine zx ?_ | refine zm ?_ | refine zi ?_ | refine zf ?_ | refine zn ?_ | refine zk ?_ | refine zl rfl ?_ | refine zv ?_ | refine zw ?_ | refine zj ?_ | refine zp ?_ | refine zo ?_ | refine zd rfl (Yld.add rfl rfl (by simp only [In]; omega)) ?_ | refine zd rfl (Yld.sub rfl rfl (by simp only [In]; omega)) ?_ | refine zd rfl (zC rfl rfl (by simp only [In]; omega)) ?_ | refine zd rfl (zr qH rfl rfl rfl rfl) ?_ | refine zd rfl (zu qH rfl rfl rfl (by simp only [In]; omega)) ?_ | refine zd rfl (zz rfl rfl (by omega) (by omega) (by simp only [In]; omega)) ?_ | refine zd rfl (zA rfl rfl (by omega) (by omega)) ?_ | refine zd rfl (zI rfl rfl (by omega)) ?_ | refine zd rfl (zG rfl rfl (by omega)) ?_ | refine zd rfl (ze qH rfl) ?_ | refine zd rfl (zF qJ rfl rfl rfl) ?_ | refine zd rfl (zD rfl rfl) ?_ | refine zd rfl (zB rfl rfl) ?_ | refine zd rfl (zq rfl rfl rfl) ?_ | refine zJ rfl rfl rfl rfl ?_ | refine zb rfl rfl rfl rfl (Yld.add rfl rfl (by simp only [In]; omega)) ?_ | refine zb rfl rfl rfl rfl (Yld.sub rfl rfl (by simp only [In]; omega)) ?_ | refine zb rfl rfl rfl rfl (zC rfl rfl (by simp only [In]; omega)) ?_ | refine zb rfl rfl rfl rfl (zr qH rfl rfl rfl rfl) ?_ | refine zb rfl rfl rfl rfl (zu qH rfl rfl rfl (by simp only [In]; omega)) ?_ | refine zb rfl rfl rfl rfl (zz rfl rfl (by omega) (by omega) (by simp only [In]; omega)) ?_ | refine zb rfl rfl rfl rfl (zA rfl rfl (by omega) (by omega)) ?_ | refine zb rfl rfl rfl rfl (zI rfl rfl (by omega)) ?_ | refine zb rfl rfl rfl rfl (zG rfl rfl (by omega)) ?_ | refine zb rfl rfl rfl rfl (ze qH rfl) ?_ | refine zb rfl rfl rfl rfl (zF qJ rfl rfl rfl) ?_ | refine zb rfl rfl rfl rfl (zD rfl rfl) ?_ | refine zb rfl rfl rfl rfl (zB rfl rfl) ?_ | refine zb rfl rfl rfl rfl (zq rfl rfl rfl) ?_)
  refine zK rfl rfl (made_fn' (decide (n<0)) A c l w2 hO.rd hD (by omega)) ?_
  rintro r w8 ⟨hN,hg8,hLs⟩
  have hB8:=hB2.keep hg8 (by simp)
  obtain ⟨a,b,rfl,ha,hb⟩:=hN.agg
  refine zT (vs:=[a,b]) qH rfl rfl rfl (by intro u hu; simp at hu; rcases hu with rfl | rfl <;> assumption) hB8 rfl rfl (fun w9 hB9 hg9=>?_)
  repeat (first | refine zg ?_ | refine WC.block ?_ | refine zc ?_ | refine zh ?_ | refine za ?_ | refine zt ?_ | refine zy ?_ | refine zx ?_ | refine zm ?_ | refine zi ?_ | refine zf ?_ | refine zn ?_ | refine zk ?_ | refine zl rfl ?_ | refine zv ?_ | refine zw ?_ | refine zj ?_ | refine zp ?_ | refine zo ?_ | refine zd rfl (Yld.add rfl rfl (by simp only [In]; omega)) ?_ | refine zd rfl (Yld.sub rfl rfl (by simp only [In]; omega)) ?_ | refine zd rfl (zC rfl rfl (by simp only [In]; omega)) ?_ | refine zd rfl (zr qH rfl rfl rfl rfl) ?_ | refine zd rfl (zu qH rfl rfl rfl (by simp only [In]; omega)) ?_ | refine zd rfl (zz rfl rfl (by omega) (by omega) (by simp only [In]; omega)) ?_ | refine zd rfl (zA rfl rfl (by omega) (by omega)) ?_ | refine zd rfl (zI rfl rfl (by omega)) ?_ | refine zd rfl (zG rfl rfl (by omega)) ?_ | refine zd rfl (ze qH rfl) ?_ | refine zd rfl (zF qJ rfl rfl rfl) ?_ | refine zd rfl (zD rfl rfl) ?_ | refine zd rfl (zB rfl rfl) ?_ | refine zd rfl (zq rfl rfl rfl) ?_ | refine zJ rfl rfl rfl rfl ?_ | refine zb rfl rfl rfl rfl (Yld.add rfl rfl (by simp only [In]; omega)) ?_ | refine zb rfl rfl rfl rfl (Yld.sub rfl rfl (by simp only [In]; omega)) ?_ | refine zb rfl rfl rfl rfl (zC rfl rfl (by simp only [In]; omega)) ?_ | refine zb rfl rfl rfl rfl (zr qH rfl rfl rfl rfl) ?_ | refine zb rfl rfl rfl rfl (zu qH rfl rfl rfl (by simp only [In]; omega)) ?_ | refine zb rfl rfl rfl rfl (zz rfl rfl (by omega) (by omega) (by simp only [In]; omega)) ?_ | refine zb rfl rfl rfl rfl (zA rfl rfl (by omega) (by omega)) ?_ | refine zb rfl rfl rfl rfl (zI rfl rfl (by omega)) ?_ | refine zb rfl rfl rfl rfl (zG rfl rfl (by omega)) ?_ | refine zb rfl rfl rfl rfl (ze qH rfl) ?_ | refine zb rfl rfl rfl rfl (zF qJ rfl rfl rfl) ?_ | refine zb rfl rfl rfl rfl (zD rfl rfl) ?_ | refine zb rfl rfl rfl rfl (zB rfl rfl) ?_ | refine zb rfl rfl rfl rfl (zq rfl rfl rfl) ?_)
  have hz:(bif decide (n<0) then -(val l:Int) else (val l:Int))=n:=by
   rcases Int.lt_or_le n 0 with h | h
   ·simp [h]; omega
   ·simp [Int.not_lt.mpr h]; omega
  rw [hz] at hN
  exact qc qH rfl rfl rfl hB9 rfl ⟨(hN.stored hB8 jk hg9).mono hl,jp (qI (qI hg1 hg2) hg8) hg9 hl1,fun _ _ _ _ e q hq=>⟨Nat.le_trans hg1.size (hO.lt (hLs _ _ _ _ e q hq)).1,Nat.lt_of_lt_of_le (hO.lt (hLs _ _ _ _ e q hq)).2 (Nat.le_trans hg8.size hg9.size)⟩⟩
theorem of_fn (n:Int) (w:World) (h1 : -9223372036854775808<=n) (h2:n<=9223372036854775807) :
  Fn Tryz.prog 37 ⟨[.int .i64 n]⟩ w fun r w'=>Nm w' r n 3/\w.grownBy w' none:=(of_fn' n w h1 h2).mono fun _ _ h=>⟨h.1,h.2.1⟩
end
 
section
open Go Go.RowKit
section
variable {P:Program} {N:Nat} {ops:Array Oper} {fl:Nat->Bool} {D:World->Prop} {n g:Nat} {K:Act->World->Prop} {Q:Post} {L:qP} {w:World} {f:Nat} {listed:Array Bool} {d:Nat} {op:Op} {ty:TypeId} {pos:String} {af:Array Edge} {gd:Option (Nat × Bool)}
structure HeadOk (ops:Array Oper) (n:Nat):Prop where
 sel:Region.noSelect ops=true
 sink:Region.sinkB .any ops n=true
 chain:Region.chainB .any ops n=true
 lt:n<ops.size
def WA (P:Program) (N:Nat) (ops:Array Oper) (fl:Nat->Bool) (D:World->Prop) (n g:Nat) (K:Act->World->Prop) (f:Nat) (listed:Array Bool) (L:qP) (w:World):Prop :=
 HeadOk ops n->HeadInv .any ops n listed->∀ a w1,Eqv w w1->D w1->Has N L a->anyT P .any ops fl D n (fun l' a' w'=>Region.seqB .any ops g n l'=true/\K a' w') f listed a w1
def WI (P:Program) (N:Nat) (ops:Array Oper) (fl:Nat->Bool) (D:World->Prop) (n g:Nat) (K:Act->World->Prop) (f:Nat) (listed:Array Bool) (L:qP) (w:World) (i:Nat):Prop :=
 HeadOk ops n->HeadInv .any ops n (listed.setIfInBounds i true)->∀ a w1,Eqv w w1->D w1->Has N L a->∃ o,ops[i]? = some o/\fl i=false/\sRun P ops D o a w1 fun a' w'=>anyT P .any ops fl D n (fun l' a' w'=>Region.seqB .any ops g n l'=true/\K a' w') f (listed.setIfInBounds i true) a' w'
theorem WC.ordersK {i:Nat} {l:List Oper} (n:Nat) (fl:Nat->Bool) (D:World->Prop) (K:Act->World->Prop) (hm:P.follows .mixedOrders=true) (hB:(Region.noSelect l.toArray && (Region.sinkB .any l.toArray n && (Region.chainB .any l.toArray n && Nat.blt n l.length)))=true) (hE:∀ w',Eqv w w'->D w')
  (h:WA P N l.toArray fl D n (l.length - n) K n (Array.replicate l.length false) L w)
  (ht:∀ a w',K a w'->wpList P l.toArray Q (l.drop n) a w'):WC P N Q (.region i l.toArray true) L w:=fun a wx e ha=>by
 simp only [Bool.and_eq_true] at hB
 obtain ⟨hsel,hs,hc,hlt⟩:=hB
 have hn':n<l.length:=by simpa [Nat.blt_eq] using hlt
 refine wp_region_any hm ?_
 have inv0:HeadInv .any l.toArray n (Array.replicate l.length false) :=
  ⟨by simp,fun j oj _ hl=>(by rw [getD_replicate_false] at hl; cases hl),fun t _ ht=>getD_in (by simpa using ht) (getD_replicate_false _ _)⟩
 have H:=h ⟨hsel,hs,hc,by simpa using hn'⟩ inv0 a { wx with drawn:=wx.drawn+1 } (e.drawn _) (hE _ (e.drawn _)) ha
 have h2:=any_of_anyT (Q':=Q) (g:=l.length - n) (fun listed a' w' _ hL=>by
  obtain ⟨hq,hK⟩:=hL
  have:=wpAny_of_seq (md:=.any) (Q':=Q) (l.drop n) n listed a' w' (fun j=>by simp [List.getElem?_drop]) (by rw [List.length_drop]; exact hq) (ht a' w' hK)
  rwa [List.length_drop] at this) _ _ _ _ (hE { wx with drawn:=wx.drawn+1 } (e.drawn _)) H
 rw [show n+(l.length - n)=l.length by omega] at h2
 simpa using h2
def Ends4 {S1 S2 S3 S4:Type} (N:Nat) (Ls:S1->S2->S3->S4->qP) (I:S1->S2->S3->S4->World->Prop) (a:Act) (w:World):Prop:=∃ p q r s w0,I p q r s w0/\Eqv w0 w/\Has N (Ls p q r s) a
theorem WC.orders4 {S1 S2 S3 S4:Type} {i:Nat} {l:List Oper} (n:Nat) (fl:Nat->Bool) (D:World->Prop) (Ls:S1->S2->S3->S4->qP) (I:S1->S2->S3->S4->World->Prop) (hm:P.follows .mixedOrders=true) (hB:(Region.noSelect l.toArray && (Region.sinkB .any l.toArray n && (Region.chainB .any l.toArray n && Nat.blt n l.length)))=true) (hE:∀ w',Eqv w w'->D w')
  (h:WA P N l.toArray fl D n (l.length - n) (Ends4 N Ls I) n (Array.replicate l.length false) L w)
  (ht:∀ p q r s w0,I p q r s w0->WL P N l.toArray Q (l.drop n) (Ls p q r s) w0):WC P N Q (.region i l.toArray true) L w :=
 WC.ordersK n fl D _ hm hB hE h fun a w' ⟨p,q,r,s,w0,hI,he,hh⟩=>ht p q r s w0 hI a w' he hh
theorem WA.done4 {S1 S2 S3 S4:Type} {Ls:S1->S2->S3->S4->qP} {I:S1->S2->S3->S4->World->Prop} (p:S1) (q:S2) (r:S3) (s:S4) (hq:Region.seqB .any ops g n listed=true) (hI:I p q r s w) (hs:Sub L (Ls p q r s)):WA P N ops fl D n g (Ends4 N Ls I) 0 listed L w:=fun _ _ _ _ e _ ha=>⟨hq,p,q,r,s,w,hI,e,ha.sub hs⟩
def EndsF (N:Nat) (F:qP->World->Prop) (a:Act) (w:World):Prop:=∃ L w0,F L w0/\Eqv w0 w/\Has N L a
theorem qG {i:Nat} {l:List Oper} (n:Nat) (fl:Nat->Bool) (D:World->Prop) (F:qP->World->Prop) (hm:P.follows .mixedOrders=true) (hB:(Region.noSelect l.toArray && (Region.sinkB .any l.toArray n && (Region.chainB .any l.toArray n && Nat.blt n l.length)))=true) (hE:∀ w',Eqv w w'->D w')
  (ht:∀ L' w',F L' w'->WL P N l.toArray Q (l.drop n) L' w')
  (h:WA P N l.toArray fl D n (l.length - n) (EndsF N F) n (Array.replicate l.length false) L w):WC P N Q (.region i l.toArray true) L w :=
 WC.ordersK n fl D _ hm hB hE h fun a w' ⟨L',w0,hI,he,hh⟩=>ht L' w0 hI a w' he hh
theorem WA.doneF {F:qP->World->Prop} (L':qP) (hq:Region.seqB .any ops g n listed=true) (hI:F L' w) (hs:Sub L L'):WA P N ops fl D n g (EndsF N F) 0 listed L w:=fun _ _ _ _ e _ ha=>⟨hq,L',w,hI,e,ha.sub hs⟩
theorem WA.y {v:Value} (k:Nat) (ho:ops[k]? = some ⟨some d,op,ty,pos,af,none⟩) (hf:(fl k && ((Region.ready .any ops listed).contains k && (Region.free .any ops listed k && Nat.blt k n)))=true) (hd:Nat.blt d N=true) (hy:∀ w',D w'->Yld P N w' ⟨some d,op,ty,pos,af,none⟩ L v)
  (h:WA P N ops fl D n g K f (listed.setIfInBounds k true) ((d,v) :: L) w):WA P N ops fl D n g K (f+1) listed L w:=fun ok inv a w1 e hw ha=>by
 simp only [Bool.and_eq_true] at hf
 obtain ⟨hfl,hr,hfr,hkn⟩:=hf
 have hr':k∈Region.ready .any ops listed:=by simpa using hr
 have hkn':k<n:=by simpa [Nat.blt_eq] using hkn
 exact float_firstT ho hfl (Region.noSelect_spec ok.sel) ok.sink ok.chain ok.lt hkn' (fun _ _ _ hL=>seqB_ready hL.1) f listed a w1 hw inv (Region.free_spec ho hfr) hr'
  (.inl ⟨by simp [Region.wanted],fun w' hw'=>hy w' hw' a w' (Eqv.refl _) ha⟩) (h ok (inv.set hr' hkn') _ _ e hw (ha.put hd v))
def AllL {α:Type} (p:α->Prop):List α->Prop
 | []=>True
 | [x]=>p x
 | x :: y :: l=>p x/\AllL p (y :: l)
theorem AllL.mem {α:Type} {p:α->Prop}:∀ {l:List α},AllL p l->∀ x∈l,p x
 | [],_,x,h=>by simp at h
 | [y],h,x,hx=>by simp at hx; subst hx; exact h
 | y :: z :: l,h,x,hx=>by
  rcases List.mem_cons.1 hx with rfl | hx
  ·exact h.1
  ·exact AllL.mem h.2 x hx
theorem WA.split (is:List Nat) (hr:Region.ready .any ops listed=is) (hc:(!is.isEmpty && is.all fun i=>Nat.blt i n)=true) (h:AllL (WI P N ops fl D n g K f listed L w) is):WA P N ops fl D n g K (f+1) listed L w:=fun ok inv a w1 e hw ha=>by
 simp only [Bool.and_eq_true] at hc
 refine ⟨fun h0=>?_,fun i hi=>?_⟩
 ·rw [hr] at h0; subst h0; simp at hc
 ·have hi':=hi
  rw [hr] at hi'
  have hin:i<n:=by have:=List.all_eq_true.1 hc.2 i hi'; simpa [Nat.blt_eq] using this
  obtain ⟨o,ho,hfl,hs⟩:=h.mem i hi' ok (inv.set hi hin) a w1 e hw ha
  exact ⟨hin,o,ho,.inr ⟨hfl,hs⟩⟩
theorem WI.put {i:Nat} {R:Value->World->Prop} (ho:ops[i]? = some ⟨some d,op,ty,pos,af,none⟩) (hf:fl i=false) (hd:Nat.blt d N=true) (hr:Eff P N w ⟨some d,op,ty,pos,af,none⟩ L R) (hD:∀ v w',R v w'->D w')
  (hk:∀ v w',R v w'->WA P N ops fl D n g K f (listed.setIfInBounds i true) ((d,v) :: L) w'):WI P N ops fl D n g K f listed L w i:=fun ok inv a w1 e hw ha=>by
 refine ⟨_,ho,hf,?_⟩
 unfold sRun
 rw [if_pos (by simp [Region.wanted])]
 obtain ⟨v,w',h,hR⟩:=hr a w1 e ha
 rw [h]
 exact ⟨hD v w' hR,hk v w' hR ok inv _ w' (Eqv.refl _) (hD v w' hR) (ha.put hd v)⟩
theorem WI.eff {i:Nat} {R:World->Prop} (ho:ops[i]? = some ⟨none,op,ty,pos,af,none⟩) (hf:fl i=false) (hr:Ef0 P N w ⟨none,op,ty,pos,af,none⟩ L R) (hD:∀ w',R w'->D w')
  (hk:∀ w',R w'->WA P N ops fl D n g K f (listed.setIfInBounds i true) L w'):WI P N ops fl D n g K f listed L w i:=fun ok inv a w1 e hw ha=>by
 refine ⟨_,ho,hf,?_⟩
 unfold sRun
 rw [if_pos (by simp [Region.wanted])]
 obtain ⟨w',h,hR⟩:=hr a w1 e ha
 rw [h]
 exact ⟨hD w' hR,hk w' hR ok inv _ w' (Eqv.refl _) (hD w' hR) ha⟩
theorem WI.call {i:Nat} {R:Value->World->Prop} {fn:FuncId} {as_:List Operand} {ts:Array TypeId} {vs:List Value} (ho:ops[i]? = some ⟨some d,.call ⟨.value (.func fn),⟨as_⟩,ts⟩,ty,pos,af,gd⟩) (hf:fl i=false) (hg:Wants N ops L gd) (hd:Nat.blt d N=true) (hv:opvs L as_=some vs) (hc:Fn P fn ⟨vs⟩ w R) (hD:∀ v w',R v w'->∀ w2,Eqv w' w2->D w2)
  (hk:∀ v w',R v w'->WA P N ops fl D n g K f (listed.setIfInBounds i true) ((d,v) :: L) w'):WI P N ops fl D n g K f listed L w i:=fun ok inv a w1 e hw ha=>by
 refine ⟨_,ho,hf,?_⟩
 unfold sRun
 rw [if_pos (Wants.wanted (o:=⟨some d,.call ⟨.value (.func fn),⟨as_⟩,ts⟩,ty,pos,af,gd⟩) hg ha),run_enter ha hv hc.1]
 refine (hc.2 w1 e).mono ?_
 rintro en w' ⟨v,w0,rfl,h0,hR⟩
 exact ⟨v,rfl,hD v w0 hR w' h0,hk v w0 hR ok inv _ w' h0 (hD v w0 hR w' h0) (ha.put hd v)⟩
end
end
 section
open Go Go.RowKit
attribute [local irreducible] WL WC WX WQ WK Yld Eff Ef0 Fn
theorem Nm.no {w:World} {a b:Value} {z:Int} {m:Nat} (h:Nm w (.agg ⟨[a,b]⟩) z m):∀ u∈[a,b],∀ x,u≠vd x:=by
 obtain ⟨neg,A,c,l,h1,_⟩:=h
 simp only [Value.agg.injEq,Array.mk.injEq,List.cons.injEq,and_true] at h1
 obtain ⟨rfl,rfl⟩:=h1
 intro u hu x
 simp only [List.mem_cons,List.not_mem_nil,or_false] at hu
 rcases hu with rfl | rfl <;> intro e <;> cases e
def Floor (x y q r:Int):Prop:=x=q*y+r/\((0<=r/\r<y)∨(y<r/\r<=0))
theorem Floor.ne {x y q r:Int} (h:Floor x y q r):y≠0:=by
 rcases h.2 with h | h <;> omega
theorem Floor.unique {x y q r q' r':Int} (h:Floor x y q r) (h':Floor x y q' r'):q=q'/\r=r':=by
 obtain ⟨h1,h2⟩:=h
 obtain ⟨h3,h4⟩:=h'
 have key:∀ a b s t:Int,a*y+s=b*y+t->((0<=s/\s<y)∨(y<s/\s<=0))->((0<=t/\t<y)∨(y<t/\t<=0))->¬ a<b:=by
  intro a b s t e hs ht hab
  obtain ⟨d,hd⟩:=Int.le.dest (show a+1<=b by omega)
  have hb:b=a+1+(d:Int):=by omega
  subst hb
  have e2:(a+1+(d:Int))*y=a*y+y+(d:Int)*y:=by grind
  rw [e2] at e
  rcases hs with hs | hs <;> rcases ht with ht | ht <;> try omega
  ·have:0<=(d:Int)*y:=Int.mul_nonneg (by omega) (by omega)
   omega
  ·have:0<=(d:Int)*(-y):=Int.mul_nonneg (by omega) (by omega)
   rw [Int.mul_neg] at this
   omega
 have hq:q=q':=by
  have a1:=key q q' r r' (by omega) h2 h4
  have a2:=key q' q r' r (by omega) h4 h2
  omega
 subst hq
 exact ⟨rfl,by omega⟩
theorem floor_of (na nb:Bool) (va vb q r:Nat) (h:va=q*vb+r) (hr:r<vb) (hs:na=nb∨r=0):Floor (bif na then -(va:Int) else va) (bif nb then -(vb:Int) else vb) (bif na != nb then -(q:Int) else q) (bif na then -(r:Int) else r):=by
 have e:((va:Nat):Int)=(q:Int)*(vb:Int)+(r:Int):=by rw [h]; simp
 unfold Floor
 cases na <;> cases nb <;> simp at hs |-
 ·exact ⟨by omega,by omega⟩
 ·subst hs; exact ⟨by rw [Int.neg_mul_neg]; simpa using e,by omega⟩
 ·subst hs; refine ⟨by rw [e]; simp [Int.neg_mul],by omega⟩
 ·exact ⟨by rw [Int.mul_neg]; omega,by omega⟩
theorem floor_off (na nb:Bool) (va vb q r:Nat) (h:va=q*vb+r) (hr:r<vb) (hs:na≠nb) (h0:0<r):Floor (bif na then -(va:Int) else va) (bif nb then -(vb:Int) else vb) ((bif na != nb then -(q:Int) else q) - 1) ((bif na then -(r:Int) else r)+(bif nb then -(vb:Int) else vb)):=by
 have e:((va:Nat):Int)=(q:Int)*(vb:Int)+(r:Int):=by rw [h]; simp
 unfold Floor
 cases na <;> cases nb <;> simp at hs |-
 ·exact ⟨by rw [Int.sub_mul,Int.neg_mul,Int.mul_neg]; omega,by omega⟩
 ·exact ⟨by rw [Int.sub_mul,Int.neg_mul]; omega,by omega⟩
set_option maxHeartbeats 4000000 in
theorem floor_fn (va vb_:Value) (x y:Int) (m:Nat) (w:World) (ha:Nm w va x m) (hb:Nm w vb_ y m) (hm:m<=90000):Fn Tryz.prog 165 ⟨[va,vb_]⟩ w fun v w'=>(∃ q r qz rz,v=.tuple #[q,r,.bool (!decide (y=0))]/\Nm w' q qz (m+4)/\Nm w' r rz (m+4)/\(y≠0->Floor x y qz rz)/\(y=0->qz=0/\rz=0))/\w.grownBy w' none:=by
 obtain ⟨na,A,c,la,rfl,hA,hDa,hCa,hla,hna,rfl⟩:=ha
 have hb':=hb
 obtain ⟨nb,B,cb,lb,rfl,hB,hDb,hCb,hlb,hnb,hy⟩:=hb
 refine Fn.enter (by kernel_rfl) Tryz.func165 rfl Tryz.ntmps165 rfl ?_
 repeat (first | refine zg ?_ | refine WC.block ?_ | refine zc ?_ | refine zh ?_ | refine za ?_ | refine zt ?_ | refine zy ?_ | refine zx ?_ | refine zi ?_ | refine zv ?_ | refine zw ?_ | refine zd rfl (ze qH rfl) ?_ | refine zd rfl (zq rfl rfl rfl) ?_ | refine zJ rfl rfl rfl rfl ?_ | refine zb rfl rfl rfl rfl (ze qH rfl) ?_)
 refine z4 (us:=[.bool na,.slice A la.length c]) rfl rfl rfl (fun g1 w1 hB1 hg1 hl1=>?_)
 repeat (first | refine zg ?_ | refine WC.block ?_ | refine zc ?_ | refine zh ?_ | refine za ?_ | refine zt ?_ | refine zy ?_ | refine zx ?_ | refine zi ?_ | refine zv ?_ | refine zw ?_ | refine zd rfl (ze qH rfl) ?_ | refine zd rfl (zq rfl rfl rfl) ?_ | refine zJ rfl rfl rfl rfl ?_ | refine zb rfl rfl rfl rfl (ze qH rfl) ?_)
 refine z4 (us:=[.bool nb,.slice B lb.length cb]) rfl rfl rfl (fun g2 w2 hB2 hg2 hl2=>?_)
 repeat (first | refine zg ?_ | refine WC.block ?_ | refine zc ?_ | refine zh ?_ | refine za ?_ | refine zt ?_ | refine zy ?_ | refine zx ?_ | refine zi ?_ | refine zv ?_ | refine zw ?_ | refine zd rfl (ze qH rfl) ?_ | refine zd rfl (zq rfl rfl rfl) ?_ | refine zJ rfl rfl rfl rfl ?_ | refine zb rfl rfl rfl rfl (ze qH rfl) ?_)
 refine WL.alloc rfl qX (fun g3 w3 hB3 hg3 hl3=>?_)
 repeat (first | refine zg ?_ | refine WC.block ?_ | refine zc ?_ | refine zh ?_ | refine za ?_ | refine zt ?_ | refine zy ?_ | refine zx ?_ | refine zi ?_ | refine zv ?_ | refine zw ?_ | refine zd rfl (ze qH rfl) ?_ | refine zd rfl (zq rfl rfl rfl) ?_ | refine zJ rfl rfl rfl rfl ?_ | refine zb rfl rfl rfl rfl (ze qH rfl) ?_)
 refine WL.alloc rfl qX (fun g4 w4 hB4 hg4 hl4=>?_)
 have hlt1:=hB1.lt
 have hlt2:=hB2.lt
 have hlt3:=hB3.lt
 have hlt4:=hB4.lt
 have hz1:=hg1.size
 have hz2:=hg2.size
 have hz3:=hg3.size
 have hz4:=hg4.size
 have hB14:=((hB1.keep hg2 (by simp)).keep hg3 (by simp)).keep hg4 (by simp)
 have hB24:=(hB2.keep hg3 (by simp)).keep hg4 (by simp)
 have hB34:=hB3.keep hg4 (by simp)
 have hg14:=qI (qI (qI hg1 hg2) hg3) hg4
 have hA4:=hA.grown hg14
 have hB4':=hB.grown hg14
 repeat (first | refine zd rfl (zH qH hB14 rfl rfl rfl) ?_ | refine zd rfl (zH qH hB24 rfl rfl rfl) ?_ | refine zg ?_ | refine WC.block ?_ | refine zc ?_ | refine zh ?_ | refine za ?_ | refine zt ?_ | refine zy ?_ | refine zx ?_ | refine zi ?_ | refine zv ?_ | refine zw ?_ | refine zd rfl (ze qH rfl) ?_ | refine zd rfl (zq rfl rfl rfl) ?_ | refine zJ rfl rfl rfl rfl ?_ | refine zb rfl rfl rfl rfl (ze qH rfl) ?_)
 refine zE rfl (fun h=>?_) (fun h=>?_)
 ·simp only [decide_eq_true_eq] at h
  have hlb0:lb=[]:=List.length_eq_zero_iff.mp (by omega)
  have hy0:y=0:=by rw [hy,hlb0]; cases nb <;> rfl
  repeat (first | refine zg ?_ | refine WC.block ?_ | refine zc ?_ | refine zh ?_ | refine za ?_ | refine zt ?_ | refine zy ?_ | refine zx ?_ | refine zi ?_ | refine zv ?_ | refine zw ?_ | refine zd rfl (ze qH rfl) ?_ | refine zd rfl (zq rfl rfl rfl) ?_ | refine zJ rfl rfl rfl rfl ?_ | refine zb rfl rfl rfl rfl (ze qH rfl) ?_)
  refine zd rfl (z3 (us:=[.bool false,.slice none 0 0]) qX places75 rfl rfl) ?_
  refine zd rfl (z3 (us:=[.bool false,.slice none 0 0]) qX places75 rfl rfl) ?_
  refine zT (vs:=[.bool false,.slice none 0 0]) qH rfl rfl rfl (by intro u hu; simp at hu; rcases hu with rfl | rfl <;> rfl) hB34 rfl rfl (fun w5 hB5 hg5=>?_)
  have hB45:=hB4.keep hg5 (by simp; omega)
  refine zT (vs:=[.bool false,.slice none 0 0]) qH rfl rfl rfl (by intro u hu; simp at hu; rcases hu with rfl | rfl <;> rfl) hB45 rfl rfl (fun w6 hB6 hg6=>?_)
  have hB56:=hB5.keep hg6 (by simp; omega)
  repeat (first | refine zg ?_ | refine WC.block ?_ | refine zc ?_ | refine zh ?_ | refine za ?_ | refine zt ?_ | refine zy ?_ | refine zx ?_ | refine zi ?_ | refine zv ?_ | refine zw ?_ | refine zd rfl (ze qH rfl) ?_ | refine zd rfl (zq rfl rfl rfl) ?_ | refine zJ rfl rfl rfl rfl ?_ | refine zb rfl rfl rfl rfl (ze qH rfl) ?_)
  have hz0:∀ w:World,Nm w (.agg ⟨[.bool false,.slice none 0 0]⟩) 0 (m+4):=fun w=>⟨false,none,0,[],rfl,Rd.nil _ _ (by simp [maxLen]),Dg.nil,fun h=>absurd rfl h,by simp,by simp,rfl⟩
  exact WX.retcct qH rfl rfl rfl hB56 rfl rfl rfl hB6 rfl rfl ⟨⟨_,_,0,0,by rw [decide_eq_true hy0]; rfl,hz0 _,hz0 _,⟨fun e=>absurd hy0 e,fun _=>⟨rfl,rfl⟩⟩⟩,jp (jp hg14 hg5 (by omega)) hg6 (by omega)⟩
 ·simp only [decide_eq_false_iff_not] at h
  have hlb0:lb≠[]:=fun e=>h (by rw [e]; rfl)
  have hpos:=val_pos hCb hlb0
  have hy0:y≠0:=by rw [hy]; cases nb <;> simp <;> omega
  repeat (first | refine zd rfl (zH qH hB14 rfl rfl rfl) ?_ | refine zd rfl (zH qH hB24 rfl rfl rfl) ?_ | refine zg ?_ | refine WC.block ?_ | refine zc ?_ | refine zh ?_ | refine za ?_ | refine zt ?_ | refine zy ?_ | refine zx ?_ | refine zi ?_ | refine zv ?_ | refine zw ?_ | refine zd rfl (ze qH rfl) ?_ | refine zd rfl (zq rfl rfl rfl) ?_ | refine zJ rfl rfl rfl rfl ?_ | refine zb rfl rfl rfl rfl (ze qH rfl) ?_)
  refine zK rfl rfl (divide_fn A c la B cb lb w4 hA4 hB4' hDa hDb hCb hlb0 (by omega) (by omega)) ?_
  rintro _ w5 ⟨Q,cq,q,R,cr,r,rfl,hRQ,hRR,hDq,hDr,hCr,hql,hv,hvr,hg5⟩
  have hB15:=hB14.keep hg5 (by simp)
  have hB25:=hB24.keep hg5 (by simp)
  have hrl:=val_len_le hDb hCr (by omega:val r<=val lb)
  repeat (first | refine zg ?_ | refine WC.block ?_ | refine zc ?_ | refine zh ?_ | refine za ?_ | refine zt ?_ | refine zy ?_ | refine zx ?_ | refine zi ?_ | refine zv ?_ | refine zw ?_ | refine zd rfl (ze qH rfl) ?_ | refine zd rfl (zq rfl rfl rfl) ?_ | refine zJ rfl rfl rfl rfl ?_ | refine zb rfl rfl rfl rfl (ze qH rfl) ?_)
  have hbt:=Tryz.underlying4
  refine WC.orders4 (S1:=Nat) (S2:=Nat) (S3:=Value) (S4:=Value) 13 (fun k=>Nat.blt k 6 || (Nat.blt 6 k && Nat.blt k 10)) (fun w'=>w5.grownBy w' none) (fun g9 g10 q1 r1=>[(9,.pointer (some ⟨g9,0,none⟩)),(10,.pointer (some ⟨g10,0,none⟩)),(31,q1),(35,r1),(2,.pointer (some ⟨g1,0,none⟩)),(3,.pointer (some ⟨g2,0,none⟩)),(4,.pointer (some ⟨g3,0,none⟩)),(5,.pointer (some ⟨g4,0,none⟩))]) (fun g9 g10 q1 r1 w'=>Bl w' g9 75 [.bool false,.slice none 0 0]/\Bl w' g10 75 [.bool false,.slice none 0 0]/\Nm w' q1 (bif na != nb then -(val q:Int) else (val q:Int)) q.length/\Nm w' r1 (bif na then -(val r:Int) else (val r:Int)) r.length/\g9≠g10/\w5.heap.size<=g9/\w5.heap.size<=g10/\w5.grownBy w' none) jg (by kernel_rfl) (fun w' e=>qN (qR _ _) e) ?_ ?_
  ·have hz5:=hg5.size
   refine WA.y 0 rfl (by kernel_rfl) rfl (fun w' h=>ze qH rfl) ?_
   refine WA.y 1 rfl (by kernel_rfl) rfl (fun w' h=>zH qH (hB15.keep h (by simp)) rfl rfl rfl) ?_
   refine WA.y 2 rfl (by kernel_rfl) rfl (fun w' h=>ze qH rfl) ?_
   refine WA.y 3 rfl (by kernel_rfl) rfl (fun w' h=>zH qH (hB25.keep h (by simp)) rfl rfl rfl) ?_
   refine WA.y 4 rfl (by kernel_rfl) rfl (fun w' h=>qf hbt rfl rfl) ?_
   refine WA.y 5 rfl (by kernel_rfl) rfl (fun w' h=>ze qH rfl) ?_
   refine WA.y 7 rfl (by kernel_rfl) rfl (fun w' h=>ze qH rfl) ?_
   refine WA.y 8 rfl (by kernel_rfl) rfl (fun w' h=>zH qH (hB15.keep h (by simp)) rfl rfl rfl) ?_
   refine WA.y 9 rfl (by kernel_rfl) rfl (fun w' h=>ze qH rfl) ?_
   refine WA.split [6,11,12] (by kernel_rfl) (by kernel_rfl) ⟨?_,?_,?_⟩
   ·refine WI.call rfl rfl qK rfl rfl (js (na != nb) Q cq q w5 hRQ hDq (by omega)) (fun v w' h w2 e=>qN (qI (qR _ _) h.2) e) ?_
    rintro q1 v1 ⟨hNq,gs1⟩
    have gz1:=gs1.size
    have gt1:w5.grownBy v1 none:=qI (qR _ _) gs1
    refine WA.split [10,11,12] (by kernel_rfl) (by kernel_rfl) ⟨?_,?_,?_⟩
    ·refine WI.call rfl rfl qK rfl rfl (js na R cr r v1 (hRR.grown gt1) hDr (by omega)) (fun v w' h w2 e=>qN (qI (gt1) h.2) e) ?_
     rintro r1 v2 ⟨hNr,gs2⟩
     have gz2:=gs2.size
     have gt2:w5.grownBy v2 none:=qI (gt1) gs2
     refine WA.split [11,12] (by kernel_rfl) (by kernel_rfl) ⟨?_,?_⟩
     ·refine WI.put rfl rfl rfl (Eff.alloc qX) (fun v w' h=>qI (gt2) h.2.2) ?_
      rintro _ v3 ⟨rfl,hBa,gs3⟩
      have hlta:=hBa.lt
      have gz3:=gs3.size
      have gt3:w5.grownBy v3 none:=qI (gt2) gs3
      refine WA.split [12] (by kernel_rfl) (by kernel_rfl) ?_
      ·refine WI.put rfl rfl rfl (Eff.alloc qX) (fun v w' h=>qI (gt3) h.2.2) ?_
       rintro _ v4 ⟨rfl,hBb,gs4⟩
       have hltb:=hBb.lt
       have gz4:=gs4.size
       have gt4:w5.grownBy v4 none:=qI (gt3) gs4
       exact WA.done4 _ _ q1 r1 (by kernel_rfl) ⟨(hBa.keep gs4 (by simp)),hBb,(((hNq.grown gs2).grown gs3).grown gs4),((hNr.grown gs3).grown gs4),by omega,by omega,by omega,gt4⟩ (by repeat (first | exact zS | refine Sub.cons rfl ?_))
     ·refine WI.put rfl rfl rfl (Eff.alloc qX) (fun v w' h=>qI (gt2) h.2.2) ?_
      rintro _ v3 ⟨rfl,hBb,gs3⟩
      have hltb:=hBb.lt
      have gz3:=gs3.size
      have gt3:w5.grownBy v3 none:=qI (gt2) gs3
      refine WA.split [11] (by kernel_rfl) (by kernel_rfl) ?_
      ·refine WI.put rfl rfl rfl (Eff.alloc qX) (fun v w' h=>qI (gt3) h.2.2) ?_
       rintro _ v4 ⟨rfl,hBa,gs4⟩
       have hlta:=hBa.lt
       have gz4:=gs4.size
       have gt4:w5.grownBy v4 none:=qI (gt3) gs4
       exact WA.done4 _ _ q1 r1 (by kernel_rfl) ⟨hBa,(hBb.keep gs4 (by simp)),(((hNq.grown gs2).grown gs3).grown gs4),((hNr.grown gs3).grown gs4),by omega,by omega,by omega,gt4⟩ (by repeat (first | exact zS | refine Sub.cons rfl ?_))
    ·refine WI.put rfl rfl rfl (Eff.alloc qX) (fun v w' h=>qI (gt1) h.2.2) ?_
     rintro _ v2 ⟨rfl,hBa,gs2⟩
     have hlta:=hBa.lt
     have gz2:=gs2.size
     have gt2:w5.grownBy v2 none:=qI (gt1) gs2
     refine WA.split [10,12] (by kernel_rfl) (by kernel_rfl) ⟨?_,?_⟩
     ·refine WI.call rfl rfl qK rfl rfl (js na R cr r v2 (hRR.grown gt2) hDr (by omega)) (fun v w' h w2 e=>qN (qI (gt2) h.2) e) ?_
      rintro r1 v3 ⟨hNr,gs3⟩
      have gz3:=gs3.size
      have gt3:w5.grownBy v3 none:=qI (gt2) gs3
      refine WA.split [12] (by kernel_rfl) (by kernel_rfl) ?_
      ·refine WI.put rfl rfl rfl (Eff.alloc qX) (fun v w' h=>qI (gt3) h.2.2) ?_
       rintro _ v4 ⟨rfl,hBb,gs4⟩
       have hltb:=hBb.lt
       have gz4:=gs4.size
       have gt4:w5.grownBy v4 none:=qI (gt3) gs4
       exact WA.done4 _ _ q1 r1 (by kernel_rfl) ⟨((hBa.keep gs3 (by simp)).keep gs4 (by simp)),hBb,(((hNq.grown gs2).grown gs3).grown gs4),(hNr.grown gs4),by omega,by omega,by omega,gt4⟩ (by repeat (first | exact zS | refine Sub.cons rfl ?_))
     ·refine WI.put rfl rfl rfl (Eff.alloc qX) (fun v w' h=>qI (gt2) h.2.2) ?_
      rintro _ v3 ⟨rfl,hBb,gs3⟩
      have hltb:=hBb.lt
      have gz3:=gs3.size
      have gt3:w5.grownBy v3 none:=qI (gt2) gs3
      refine WA.split [10] (by kernel_rfl) (by kernel_rfl) ?_
      ·refine WI.call rfl rfl qK rfl rfl (js na R cr r v3 (hRR.grown gt3) hDr (by omega)) (fun v w' h w2 e=>qN (qI (gt3) h.2) e) ?_
       rintro r1 v4 ⟨hNr,gs4⟩
       have gz4:=gs4.size
       have gt4:w5.grownBy v4 none:=qI (gt3) gs4
       exact WA.done4 _ _ q1 r1 (by kernel_rfl) ⟨((hBa.keep gs3 (by simp)).keep gs4 (by simp)),(hBb.keep gs4 (by simp)),(((hNq.grown gs2).grown gs3).grown gs4),hNr,by omega,by omega,by omega,gt4⟩ (by repeat (first | exact zS | refine Sub.cons rfl ?_))
    ·refine WI.put rfl rfl rfl (Eff.alloc qX) (fun v w' h=>qI (gt1) h.2.2) ?_
     rintro _ v2 ⟨rfl,hBb,gs2⟩
     have hltb:=hBb.lt
     have gz2:=gs2.size
     have gt2:w5.grownBy v2 none:=qI (gt1) gs2
     refine WA.split [10,11] (by kernel_rfl) (by kernel_rfl) ⟨?_,?_⟩
     ·refine WI.call rfl rfl qK rfl rfl (js na R cr r v2 (hRR.grown gt2) hDr (by omega)) (fun v w' h w2 e=>qN (qI (gt2) h.2) e) ?_
      rintro r1 v3 ⟨hNr,gs3⟩
      have gz3:=gs3.size
      have gt3:w5.grownBy v3 none:=qI (gt2) gs3
      refine WA.split [11] (by kernel_rfl) (by kernel_rfl) ?_
      ·refine WI.put rfl rfl rfl (Eff.alloc qX) (fun v w' h=>qI (gt3) h.2.2) ?_
       rintro _ v4 ⟨rfl,hBa,gs4⟩
       have hlta:=hBa.lt
       have gz4:=gs4.size
       have gt4:w5.grownBy v4 none:=qI (gt3) gs4
       exact WA.done4 _ _ q1 r1 (by kernel_rfl) ⟨hBa,((hBb.keep gs3 (by simp)).keep gs4 (by simp)),(((hNq.grown gs2).grown gs3).grown gs4),(hNr.grown gs4),by omega,by omega,by omega,gt4⟩ (by repeat (first | exact zS | refine Sub.cons rfl ?_))
     ·refine WI.put rfl rfl rfl (Eff.alloc qX) (fun v w' h=>qI (gt2) h.2.2) ?_
      rintro _ v3 ⟨rfl,hBa,gs3⟩
      have hlta:=hBa.lt
      have gz3:=gs3.size
      have gt3:w5.grownBy v3 none:=qI (gt2) gs3
      refine WA.split [10] (by kernel_rfl) (by kernel_rfl) ?_
      ·refine WI.call rfl rfl qK rfl rfl (js na R cr r v3 (hRR.grown gt3) hDr (by omega)) (fun v w' h w2 e=>qN (qI (gt3) h.2) e) ?_
       rintro r1 v4 ⟨hNr,gs4⟩
       have gz4:=gs4.size
       have gt4:w5.grownBy v4 none:=qI (gt3) gs4
       exact WA.done4 _ _ q1 r1 (by kernel_rfl) ⟨(hBa.keep gs4 (by simp)),((hBb.keep gs3 (by simp)).keep gs4 (by simp)),(((hNq.grown gs2).grown gs3).grown gs4),hNr,by omega,by omega,by omega,gt4⟩ (by repeat (first | exact zS | refine Sub.cons rfl ?_))
   ·refine WI.put rfl rfl rfl (Eff.alloc qX) (fun v w' h=>qI (qR _ _) h.2.2) ?_
    rintro _ v1 ⟨rfl,hBa,gs1⟩
    have hlta:=hBa.lt
    have gz1:=gs1.size
    have gt1:w5.grownBy v1 none:=qI (qR _ _) gs1
    refine WA.split [6,12] (by kernel_rfl) (by kernel_rfl) ⟨?_,?_⟩
    ·refine WI.call rfl rfl qK rfl rfl (js (na != nb) Q cq q v1 (hRQ.grown gt1) hDq (by omega)) (fun v w' h w2 e=>qN (qI (gt1) h.2) e) ?_
     rintro q1 v2 ⟨hNq,gs2⟩
     have gz2:=gs2.size
     have gt2:w5.grownBy v2 none:=qI (gt1) gs2
     refine WA.split [10,12] (by kernel_rfl) (by kernel_rfl) ⟨?_,?_⟩
     ·refine WI.call rfl rfl qK rfl rfl (js na R cr r v2 (hRR.grown gt2) hDr (by omega)) (fun v w' h w2 e=>qN (qI (gt2) h.2) e) ?_
      rintro r1 v3 ⟨hNr,gs3⟩
      have gz3:=gs3.size
      have gt3:w5.grownBy v3 none:=qI (gt2) gs3
      refine WA.split [12] (by kernel_rfl) (by kernel_rfl) ?_
      ·refine WI.put rfl rfl rfl (Eff.alloc qX) (fun v w' h=>qI (gt3) h.2.2) ?_
       rintro _ v4 ⟨rfl,hBb,gs4⟩
       have hltb:=hBb.lt
       have gz4:=gs4.size
       have gt4:w5.grownBy v4 none:=qI (gt3) gs4
       exact WA.done4 _ _ q1 r1 (by kernel_rfl) ⟨(((hBa.keep gs2 (by simp)).keep gs3 (by simp)).keep gs4 (by simp)),hBb,((hNq.grown gs3).grown gs4),(hNr.grown gs4),by omega,by omega,by omega,gt4⟩ (by repeat (first | exact zS | refine Sub.cons rfl ?_))
     ·refine WI.put rfl rfl rfl (Eff.alloc qX) (fun v w' h=>qI (gt2) h.2.2) ?_
      rintro _ v3 ⟨rfl,hBb,gs3⟩
      have hltb:=hBb.lt
      have gz3:=gs3.size
      have gt3:w5.grownBy v3 none:=qI (gt2) gs3
      refine WA.split [10] (by kernel_rfl) (by kernel_rfl) ?_
      ·refine WI.call rfl rfl qK rfl rfl (js na R cr r v3 (hRR.grown gt3) hDr (by omega)) (fun v w' h w2 e=>qN (qI (gt3) h.2) e) ?_
       rintro r1 v4 ⟨hNr,gs4⟩
       have gz4:=gs4.size
       have gt4:w5.grownBy v4 none:=qI (gt3) gs4
       exact WA.done4 _ _ q1 r1 (by kernel_rfl) ⟨(((hBa.keep gs2 (by simp)).keep gs3 (by simp)).keep gs4 (by simp)),(hBb.keep gs4 (by simp)),((hNq.grown gs3).grown gs4),hNr,by omega,by omega,by omega,gt4⟩ (by repeat (first | exact zS | refine Sub.cons rfl ?_))
    ·refine WI.put rfl rfl rfl (Eff.alloc qX) (fun v w' h=>qI (gt1) h.2.2) ?_
     rintro _ v2 ⟨rfl,hBb,gs2⟩
     have hltb:=hBb.lt
     have gz2:=gs2.size
     have gt2:w5.grownBy v2 none:=qI (gt1) gs2
     refine WA.split [6] (by kernel_rfl) (by kernel_rfl) ?_
     ·refine WI.call rfl rfl qK rfl rfl (js (na != nb) Q cq q v2 (hRQ.grown gt2) hDq (by omega)) (fun v w' h w2 e=>qN (qI (gt2) h.2) e) ?_
      rintro q1 v3 ⟨hNq,gs3⟩
      have gz3:=gs3.size
      have gt3:w5.grownBy v3 none:=qI (gt2) gs3
      refine WA.split [10] (by kernel_rfl) (by kernel_rfl) ?_
      ·refine WI.call rfl rfl qK rfl rfl (js na R cr r v3 (hRR.grown gt3) hDr (by omega)) (fun v w' h w2 e=>qN (qI (gt3) h.2) e) ?_
       rintro r1 v4 ⟨hNr,gs4⟩
       have gz4:=gs4.size
       have gt4:w5.grownBy v4 none:=qI (gt3) gs4
       exact WA.done4 _ _ q1 r1 (by kernel_rfl) ⟨(((hBa.keep gs2 (by simp)).keep gs3 (by simp)).keep gs4 (by simp)),((hBb.keep gs3 (by simp)).keep gs4 (by simp)),(hNq.grown gs4),hNr,by omega,by omega,by omega,gt4⟩ (by repeat (first | exact zS | refine Sub.cons rfl ?_))
   ·refine WI.put rfl rfl rfl (Eff.alloc qX) (fun v w' h=>qI (qR _ _) h.2.2) ?_
    rintro _ v1 ⟨rfl,hBb,gs1⟩
    have hltb:=hBb.lt
    have gz1:=gs1.size
    have gt1:w5.grownBy v1 none:=qI (qR _ _) gs1
    refine WA.split [6,11] (by kernel_rfl) (by kernel_rfl) ⟨?_,?_⟩
    ·refine WI.call rfl rfl qK rfl rfl (js (na != nb) Q cq q v1 (hRQ.grown gt1) hDq (by omega)) (fun v w' h w2 e=>qN (qI (gt1) h.2) e) ?_
     rintro q1 v2 ⟨hNq,gs2⟩
     have gz2:=gs2.size
     have gt2:w5.grownBy v2 none:=qI (gt1) gs2
     refine WA.split [10,11] (by kernel_rfl) (by kernel_rfl) ⟨?_,?_⟩
     ·refine WI.call rfl rfl qK rfl rfl (js na R cr r v2 (hRR.grown gt2) hDr (by omega)) (fun v w' h w2 e=>qN (qI (gt2) h.2) e) ?_
      rintro r1 v3 ⟨hNr,gs3⟩
      have gz3:=gs3.size
      have gt3:w5.grownBy v3 none:=qI (gt2) gs3
      refine WA.split [11] (by kernel_rfl) (by kernel_rfl) ?_
      ·refine WI.put rfl rfl rfl (Eff.alloc qX) (fun v w' h=>qI (gt3) h.2.2) ?_
       rintro _ v4 ⟨rfl,hBa,gs4⟩
       have hlta:=hBa.lt
       have gz4:=gs4.size
       have gt4:w5.grownBy v4 none:=qI (gt3) gs4
       exact WA.done4 _ _ q1 r1 (by kernel_rfl) ⟨hBa,(((hBb.keep gs2 (by simp)).keep gs3 (by simp)).keep gs4 (by simp)),((hNq.grown gs3).grown gs4),(hNr.grown gs4),by omega,by omega,by omega,gt4⟩ (by repeat (first | exact zS | refine Sub.cons rfl ?_))
     ·refine WI.put rfl rfl rfl (Eff.alloc qX) (fun v w' h=>qI (gt2) h.2.2) ?_
      rintro _ v3 ⟨rfl,hBa,gs3⟩
      have hlta:=hBa.lt
      have gz3:=gs3.size
      have gt3:w5.grownBy v3 none:=qI (gt2) gs3
      refine WA.split [10] (by kernel_rfl) (by kernel_rfl) ?_
      ·refine WI.call rfl rfl qK rfl rfl (js na R cr r v3 (hRR.grown gt3) hDr (by omega)) (fun v w' h w2 e=>qN (qI (gt3) h.2) e) ?_
       rintro r1 v4 ⟨hNr,gs4⟩
       have gz4:=gs4.size
       have gt4:w5.grownBy v4 none:=qI (gt3) gs4
       exact WA.done4 _ _ q1 r1 (by kernel_rfl) ⟨(hBa.keep gs4 (by simp)),(((hBb.keep gs2 (by simp)).keep gs3 (by simp)).keep gs4 (by simp)),((hNq.grown gs3).grown gs4),hNr,by omega,by omega,by omega,gt4⟩ (by repeat (first | exact zS | refine Sub.cons rfl ?_))
    ·refine WI.put rfl rfl rfl (Eff.alloc qX) (fun v w' h=>qI (gt1) h.2.2) ?_
     rintro _ v2 ⟨rfl,hBa,gs2⟩
     have hlta:=hBa.lt
     have gz2:=gs2.size
     have gt2:w5.grownBy v2 none:=qI (gt1) gs2
     refine WA.split [6] (by kernel_rfl) (by kernel_rfl) ?_
     ·refine WI.call rfl rfl qK rfl rfl (js (na != nb) Q cq q v2 (hRQ.grown gt2) hDq (by omega)) (fun v w' h w2 e=>qN (qI (gt2) h.2) e) ?_
      rintro q1 v3 ⟨hNq,gs3⟩
      have gz3:=gs3.size
      have gt3:w5.grownBy v3 none:=qI (gt2) gs3
      refine WA.split [10] (by kernel_rfl) (by kernel_rfl) ?_
      ·refine WI.call rfl rfl qK rfl rfl (js na R cr r v3 (hRR.grown gt3) hDr (by omega)) (fun v w' h w2 e=>qN (qI (gt3) h.2) e) ?_
       rintro r1 v4 ⟨hNr,gs4⟩
       have gz4:=gs4.size
       have gt4:w5.grownBy v4 none:=qI (gt3) gs4
       exact WA.done4 _ _ q1 r1 (by kernel_rfl) ⟨((hBa.keep gs3 (by simp)).keep gs4 (by simp)),(((hBb.keep gs2 (by simp)).keep gs3 (by simp)).keep gs4 (by simp)),(hNq.grown gs4),hNr,by omega,by omega,by omega,gt4⟩ (by repeat (first | exact zS | refine Sub.cons rfl ?_))
  rintro g9 g10 q1 r1 w9 ⟨hB89,hB9,hN69,hN79,hne9,hge9,hge10,hg59⟩
  have hz5:=hg5.size
  have hlt8:=hB89.lt
  have hlt9:=hB9.lt
  obtain ⟨a,b,rfl,hoa,hob⟩:=hN69.agg
  refine zT (vs:=[a,b]) qH rfl rfl rfl (by intro u hu; simp at hu; rcases hu with rfl | rfl <;> assumption) hB89 rfl rfl (fun wa hBa hga=>?_)
  have hg5a:=jp hg59 hga (by omega)
  have hBa10:=hB9.keep hga (by simp; omega)
  have hN7a:=hN79.stored hB89 jk hga
  have hN6a:=hN69.stored hB89 jk hga
  obtain ⟨nr,Ar,cr1,lr,rfl,hR7,hD7,hC7,hl7,hn7,hz7⟩:=hN7a
  have hN7a:Nm wa (.agg ⟨[.bool nr,.slice Ar lr.length cr1]⟩) (bif na then -(val r:Int) else (val r:Int)) r.length:=⟨nr,Ar,cr1,lr,rfl,hR7,hD7,hC7,hl7,hn7,hz7⟩
  refine zT (vs:=[.bool nr,.slice Ar lr.length cr1]) qH rfl rfl rfl (by intro u hu; simp at hu; rcases hu with rfl | rfl <;> rfl) hBa10 rfl rfl (fun wb hBb hgb=>?_)
  have hg5b:=jp hg5a hgb (by omega)
  have hBab:=hBa.keep hgb (by simp; omega)
  have hN6b:=hN6a.stored hBa10 jk hgb
  have hN7b:=hN7a.stored hBa10 jk hgb
  have hlr:lr=[]↔val r=0:=by
   rw [<-val_zero hC7]
   cases na <;> cases nr <;> simp at hz7 <;> omega
  have hB1b:=hB15.keep hg5b (by simp)
  have hB2b:=hB25.keep hg5b (by simp)
  have hfl:=floor_of na nb (val la) (val lb) (val q) (val r) hv hvr
  have hfo:=floor_off na nb (val la) (val lb) (val q) (val r) hv hvr
  rw [<-hy] at hfl hfo
  have hgx:w.grownBy wb none:=qI (qI hg14 hg5) hg5b
  have hB3b:=(hB34.keep hg5 (by simp)).keep hg5b (by simp)
  have hB4b:=(hB4.keep hg5 (by simp)).keep hg5b (by simp)
  have hq1:q.length<=m:=by omega
  have hr1:r.length<=m:=by omega
  clear hga hgb hg59 hg5a
  repeat (first | refine zd rfl (zH qH hBb rfl rfl rfl) ?_ | refine zg ?_ | refine WC.block ?_ | refine zc ?_ | refine zh ?_ | refine za ?_ | refine zt ?_ | refine zy ?_ | refine zx ?_ | refine zi ?_ | refine zv ?_ | refine zw ?_ | refine zd rfl (ze qH rfl) ?_ | refine zd rfl (zq rfl rfl rfl) ?_ | refine zJ rfl rfl rfl rfl ?_ | refine zb rfl rfl rfl rfl (ze qH rfl) ?_)
  generalize hbl:decide ((0:Int)<(lr.length:Int))=bl
  cases bl
  ·simp only [decide_eq_false_iff_not] at hbl
   have hr0:val r=0:=hlr.mp (List.length_eq_zero_iff.mp (by omega))
   repeat (first | refine zg ?_ | refine WC.block ?_ | refine zc ?_ | refine zh ?_ | refine za ?_ | refine zt ?_ | refine zy ?_ | refine zx ?_ | refine zi ?_ | refine zv ?_ | refine zw ?_ | refine zd rfl (ze qH rfl) ?_ | refine zd rfl (zq rfl rfl rfl) ?_ | refine zJ rfl rfl rfl rfl ?_ | refine zb rfl rfl rfl rfl (ze qH rfl) ?_)
   refine WC.mergeW (S:=Unit) (fun _=>[(9,.pointer (some ⟨g9,0,none⟩)),(10,.pointer (some ⟨g10,0,none⟩)),(4,.pointer (some ⟨g3,0,none⟩)),(5,.pointer (some ⟨g4,0,none⟩))]) (fun _ w'=>∃ a' b' c' d' qz rz,Bl w' g9 75 [a',b']/\Bl w' g10 75 [c',d']/\a'.oneCell'=true/\b'.oneCell'=true/\c'.oneCell'=true/\d'.oneCell'=true/\Nm w' (.agg ⟨[a',b']⟩) qz (m+4)/\Nm w' (.agg ⟨[c',d']⟩) rz (m+4)/\Floor (bif na then -(val la:Int) else (val la:Int)) y qz rz/\w.grownBy w' none/\Bl w' g3 75 [.bool false,.slice none 0 0]/\Bl w' g4 75 [.bool false,.slice none 0 0]) rfl (fun h=>by cases h) (fun _ Q' hQ=>?_) ?_
   ·repeat (first | refine zg ?_ | refine WC.block ?_ | refine zc ?_ | refine zh ?_ | refine za ?_ | refine zt ?_ | refine zy ?_ | refine zx ?_ | refine zi ?_ | refine zv ?_ | refine zw ?_ | refine zd rfl (ze qH rfl) ?_ | refine zd rfl (zq rfl rfl rfl) ?_ | refine zJ rfl rfl rfl rfl ?_ | refine zb rfl rfl rfl rfl (ze qH rfl) ?_)
    exact WX.weaken (by repeat (first | exact zS | refine Sub.cons rfl ?_)) (hQ () wb ⟨a,b,_,_,_,_,hBab,hBb,hoa,hob,rfl,rfl,hN6b.mono (by omega),hN7b.mono (by omega),hfl (.inr hr0),hgx,hB3b,hB4b⟩)
   ·rintro _ wz ⟨a',b',c',d',qz,rz,hBq,hBr,ho1,ho2,ho3,ho4,hNq,hNr,hFl,hgz,hB3z,hB4z⟩
    repeat (first | refine zg ?_ | refine WC.block ?_ | refine zc ?_ | refine zh ?_ | refine za ?_ | refine zt ?_ | refine zy ?_ | refine zx ?_ | refine zi ?_ | refine zv ?_ | refine zw ?_ | refine zd rfl (ze qH rfl) ?_ | refine zd rfl (zq rfl rfl rfl) ?_ | refine zJ rfl rfl rfl rfl ?_ | refine zb rfl rfl rfl rfl (ze qH rfl) ?_)
    refine WC.chain (fun k=>Nat.blt k 2 || Nat.beq k 4) (fun w'=>Bl w' g9 75 [a',b']/\Bl w' g10 75 [c',d']) jg (by kernel_rfl) (fun w' e=>⟨jz e hBq,jz e hBr⟩) ?_
    refine z1 rfl rfl (fun w' h=>zO (vs:=[a',b']) qH h.1 rfl rfl rfl rfl) ?_
    refine z1 rfl rfl (fun w' h=>zO (vs:=[c',d']) qH h.2 rfl rfl rfl rfl) ?_
    refine qw rfl (zU (vs:=[a',b']) qH rfl rfl rfl (by intro u hu; simp at hu; rcases hu with rfl | rfl <;> assumption) hB3z rfl rfl) (fun w' h=>⟨hBq.keep h.2 (by simp; omega),hBr.keep h.2 (by simp; omega)⟩) ?_
    rintro wy ⟨hBy3,hgy⟩
    have hB4y:=hB4z.keep hgy (by simp; omega)
    have hBqy:=hBq.keep hgy (by simp; omega)
    have hBry:=hBr.keep hgy (by simp; omega)
    refine qw rfl (zU (vs:=[c',d']) qH rfl rfl rfl (by intro u hu; simp at hu; rcases hu with rfl | rfl <;> assumption) hB4y rfl rfl) (fun w' h=>⟨hBqy.keep h.2 (by simp; omega),hBry.keep h.2 (by simp; omega)⟩) ?_
    rintro wx ⟨hBx4,hgx2⟩
    repeat (first | refine z1 rfl rfl (fun _ _=>Yld.add rfl rfl (by simp only [In]; omega)) ?_ | refine z1 rfl rfl (fun _ _=>Yld.sub rfl rfl (by simp only [In]; omega)) ?_ | refine z1 rfl rfl (fun _ _=>zC rfl rfl (by simp only [In]; omega)) ?_ | refine z1 rfl rfl (fun _ _=>zr qH rfl rfl rfl rfl) ?_ | refine z1 rfl rfl (fun _ _=>zu qH rfl rfl rfl (by simp only [In]; omega)) ?_ | refine z1 rfl rfl (fun _ _=>zz rfl rfl (by omega) (by omega) (by simp only [In]; omega)) ?_ | refine z1 rfl rfl (fun _ _=>zA rfl rfl (by omega) (by omega)) ?_ | refine z1 rfl rfl (fun _ _=>zI rfl rfl (by omega)) ?_ | refine z1 rfl rfl (fun _ _=>zG rfl rfl (by omega)) ?_ | refine z1 rfl rfl (fun _ _=>ze qH rfl) ?_)
    refine qx ?_
    repeat (first | refine zg ?_ | refine WC.block ?_ | refine zc ?_ | refine zh ?_ | refine za ?_ | refine zt ?_ | refine zy ?_ | refine zx ?_ | refine zi ?_ | refine zv ?_ | refine zw ?_ | refine zd rfl (ze qH rfl) ?_ | refine zd rfl (zq rfl rfl rfl) ?_ | refine zJ rfl rfl rfl rfl ?_ | refine zb rfl rfl rfl rfl (ze qH rfl) ?_)
    exact WX.retcct qH rfl rfl rfl (hBy3.keep hgx2 (by simp; omega)) rfl rfl rfl hBx4 rfl rfl ⟨⟨_,_,qz,rz,by rw [decide_eq_false hy0]; rfl,(hNq.stored hB3z jk hgy).stored hB4y jk hgx2,(hNr.stored hB3z jk hgy).stored hB4y jk hgx2,⟨fun _=>hFl,fun e=>absurd e hy0⟩⟩,jp (jp hgz hgy (by omega)) hgx2 (by omega)⟩
  ·simp only [decide_eq_true_eq] at hbl
   have hr0:0<val r:=by
    rcases Nat.eq_zero_or_pos (val r) with e | e
    ·rw [hlr.mpr e] at hbl; simp at hbl
    ·exact e
   repeat (first | refine zb rfl rfl rfl rfl (zH qH hB1b rfl rfl rfl) ?_ | refine zb rfl rfl rfl rfl (zH qH hB2b rfl rfl rfl) ?_ | refine zb rfl rfl rfl rfl (qf hbt rfl rfl) ?_ | refine zg ?_ | refine WC.block ?_ | refine zc ?_ | refine zh ?_ | refine za ?_ | refine zt ?_ | refine zy ?_ | refine zx ?_ | refine zi ?_ | refine zv ?_ | refine zw ?_ | refine zd rfl (ze qH rfl) ?_ | refine zd rfl (zq rfl rfl rfl) ?_ | refine zJ rfl rfl rfl rfl ?_ | refine zb rfl rfl rfl rfl (ze qH rfl) ?_)
   refine WC.mergeW (S:=Unit) (fun _=>[(9,.pointer (some ⟨g9,0,none⟩)),(10,.pointer (some ⟨g10,0,none⟩)),(4,.pointer (some ⟨g3,0,none⟩)),(5,.pointer (some ⟨g4,0,none⟩))]) (fun _ w'=>∃ a' b' c' d' qz rz,Bl w' g9 75 [a',b']/\Bl w' g10 75 [c',d']/\a'.oneCell'=true/\b'.oneCell'=true/\c'.oneCell'=true/\d'.oneCell'=true/\Nm w' (.agg ⟨[a',b']⟩) qz (m+4)/\Nm w' (.agg ⟨[c',d']⟩) rz (m+4)/\Floor (bif na then -(val la:Int) else (val la:Int)) y qz rz/\w.grownBy w' none/\Bl w' g3 75 [.bool false,.slice none 0 0]/\Bl w' g4 75 [.bool false,.slice none 0 0]) rfl (fun h Q' hQ=>?_) (fun h Q' hQ=>?_) ?_
   ·have hne:na≠nb:=by intro e; subst e; simp at h
    repeat (first | refine zg ?_ | refine WC.block ?_ | refine zc ?_ | refine zh ?_ | refine za ?_ | refine zt ?_ | refine zy ?_ | refine zx ?_ | refine zi ?_ | refine zv ?_ | refine zw ?_ | refine zd rfl (ze qH rfl) ?_ | refine zd rfl (zq rfl rfl rfl) ?_ | refine zJ rfl rfl rfl rfl ?_ | refine zb rfl rfl rfl rfl (ze qH rfl) ?_)
    refine WC.chainT 6 (fun k=>Nat.beq k 0 || Nat.beq k 3 || Nat.beq k 4) (fun w'=>wb.grownBy w' none) jg (by kernel_rfl) (fun w' e=>qN (qR _ _) e) ?_
    have hNb3:Nm wb (.agg ⟨[a,b]⟩) (bif na != nb then -(val q:Int) else (val q:Int)) (m+3):=hN6b.mono (by omega)
    have hby:=(hb'.grown hgx).mono (by omega:m<=m+3)
    rw [hy] at hby
    refine z1 rfl rfl (fun w' h=>zO (vs:=[a,b]) qH (hBab.keep h (by simp)) rfl rfl rfl rfl) ?_
    refine qe rfl qK rfl rfl (of_fn 1 wb (by omega) (by omega)) (fun v w' h w2 e=>qN h.2 e) ?_
    rintro o1 v1 ⟨hNo,gs1⟩
    refine qe rfl qK rfl rfl (sub_fn _ _ _ 1 (m+3) v1 (hNb3.grown gs1) (hNo.mono (by omega)) (by omega)) (fun v w' h w2 e=>qN (qI gs1 h.2) e) ?_
    rintro q2 v2 ⟨hNq2,gs2⟩
    refine z1 rfl rfl (fun w' h=>zO (vs:=[.bool nr,.slice Ar lr.length cr1]) qH (hBb.keep h (by simp)) rfl rfl rfl rfl) ?_
    refine z1 rfl rfl (fun w' h=>zO (vs:=[.bool nb,.slice B lb.length cb]) qH (hB2b.keep h (by simp)) rfl rfl rfl rfl) ?_
    have gt2:=qI gs1 gs2
    refine qe rfl qK rfl rfl (add_fn _ _ _ _ (m+3) v2 ((hN7b.mono (by omega)).grown gt2) (hby.grown gt2) (by omega)) (fun v w' h w2 e=>qN (qI gt2 h.2) e) ?_
    rintro r2 v3 ⟨hNr2,gs3⟩
    refine WK.tail ?_
    have gt3:=qI gt2 gs3
    obtain ⟨a2,b2,rfl,hoa2,hob2⟩:=hNq2.agg
    obtain ⟨c2,d2,rfl,hoc2,hod2⟩:=hNr2.agg
    have hNq3:=hNq2.grown gs3
    refine zT (vs:=[a2,b2]) qH rfl rfl rfl (by intro u hu; simp at hu; rcases hu with rfl | rfl <;> assumption) (hBab.keep gt3 (by simp)) rfl rfl (fun v4 hB4v gs4=>?_)
    refine zT (vs:=[c2,d2]) qH rfl rfl rfl (by intro u hu; simp at hu; rcases hu with rfl | rfl <;> assumption) ((hBb.keep gt3 (by simp)).keep gs4 (by simp; omega)) rfl rfl (fun v5 hB5v gs5=>?_)
    repeat (first | refine zg ?_ | refine WC.block ?_ | refine zc ?_ | refine zh ?_ | refine za ?_ | refine zt ?_ | refine zy ?_ | refine zx ?_ | refine zi ?_ | refine zv ?_ | refine zw ?_ | refine zd rfl (ze qH rfl) ?_ | refine zd rfl (zq rfl rfl rfl) ?_ | refine zJ rfl rfl rfl rfl ?_ | refine zb rfl rfl rfl rfl (ze qH rfl) ?_)
    have hBv3:=hBab.keep gt3 (by simp)
    have hBv4:=(hBb.keep gt3 (by simp)).keep gs4 (by simp; omega)
    have gz3:=gt3.size
    exact WX.weaken (by repeat (first | exact zS | refine Sub.cons rfl ?_)) (hQ () v5 ⟨a2,b2,c2,d2,_,_,hB4v.keep gs5 (by simp; omega),hB5v,hoa2,hob2,hoc2,hod2,(hNq3.stored hBv3 hN6b.no gs4).stored hBv4 hN7b.no gs5,(hNr2.stored hBv3 hN6b.no gs4).stored hBv4 hN7b.no gs5,by rw [hy]; rw [hy] at hfo; exact hfo hne hr0,
     jp (jp (qI hgx gt3) gs4 (by omega)) gs5 (by omega),((hB3b.keep gt3 (by simp)).keep gs4 (by simp; omega)).keep gs5 (by simp; omega),((hB4b.keep gt3 (by simp)).keep gs4 (by simp; omega)).keep gs5 (by simp; omega)⟩)
   ·have hne:na=nb:=by cases na <;> cases nb <;> simp at h <;> rfl
    repeat (first | refine zg ?_ | refine WC.block ?_ | refine zc ?_ | refine zh ?_ | refine za ?_ | refine zt ?_ | refine zy ?_ | refine zx ?_ | refine zi ?_ | refine zv ?_ | refine zw ?_ | refine zd rfl (ze qH rfl) ?_ | refine zd rfl (zq rfl rfl rfl) ?_ | refine zJ rfl rfl rfl rfl ?_ | refine zb rfl rfl rfl rfl (ze qH rfl) ?_)
    exact WX.weaken (by repeat (first | exact zS | refine Sub.cons rfl ?_)) (hQ () wb ⟨a,b,_,_,_,_,hBab,hBb,hoa,hob,rfl,rfl,hN6b.mono (by omega),hN7b.mono (by omega),hfl (.inl hne),hgx,hB3b,hB4b⟩)
   ·rintro _ wz ⟨a',b',c',d',qz,rz,hBq,hBr,ho1,ho2,ho3,ho4,hNq,hNr,hFl,hgz,hB3z,hB4z⟩
    repeat (first | refine zg ?_ | refine WC.block ?_ | refine zc ?_ | refine zh ?_ | refine za ?_ | refine zt ?_ | refine zy ?_ | refine zx ?_ | refine zi ?_ | refine zv ?_ | refine zw ?_ | refine zd rfl (ze qH rfl) ?_ | refine zd rfl (zq rfl rfl rfl) ?_ | refine zJ rfl rfl rfl rfl ?_ | refine zb rfl rfl rfl rfl (ze qH rfl) ?_)
    refine WC.chain (fun k=>Nat.blt k 2 || Nat.beq k 4) (fun w'=>Bl w' g9 75 [a',b']/\Bl w' g10 75 [c',d']) jg (by kernel_rfl) (fun w' e=>⟨jz e hBq,jz e hBr⟩) ?_
    refine z1 rfl rfl (fun w' h=>zO (vs:=[a',b']) qH h.1 rfl rfl rfl rfl) ?_
    refine z1 rfl rfl (fun w' h=>zO (vs:=[c',d']) qH h.2 rfl rfl rfl rfl) ?_
    refine qw rfl (zU (vs:=[a',b']) qH rfl rfl rfl (by intro u hu; simp at hu; rcases hu with rfl | rfl <;> assumption) hB3z rfl rfl) (fun w' h=>⟨hBq.keep h.2 (by simp; omega),hBr.keep h.2 (by simp; omega)⟩) ?_
    rintro wy ⟨hBy3,hgy⟩
    have hB4y:=hB4z.keep hgy (by simp; omega)
    have hBqy:=hBq.keep hgy (by simp; omega)
    have hBry:=hBr.keep hgy (by simp; omega)
    refine qw rfl (zU (vs:=[c',d']) qH rfl rfl rfl (by intro u hu; simp at hu; rcases hu with rfl | rfl <;> assumption) hB4y rfl rfl) (fun w' h=>⟨hBqy.keep h.2 (by simp; omega),hBry.keep h.2 (by simp; omega)⟩) ?_
    rintro wx ⟨hBx4,hgx2⟩
    repeat (first | refine z1 rfl rfl (fun _ _=>Yld.add rfl rfl (by simp only [In]; omega)) ?_ | refine z1 rfl rfl (fun _ _=>Yld.sub rfl rfl (by simp only [In]; omega)) ?_ | refine z1 rfl rfl (fun _ _=>zC rfl rfl (by simp only [In]; omega)) ?_ | refine z1 rfl rfl (fun _ _=>zr qH rfl rfl rfl rfl) ?_ | refine z1 rfl rfl (fun _ _=>zu qH rfl rfl rfl (by simp only [In]; omega)) ?_ | refine z1 rfl rfl (fun _ _=>zz rfl rfl (by omega) (by omega) (by simp only [In]; omega)) ?_ | refine z1 rfl rfl (fun _ _=>zA rfl rfl (by omega) (by omega)) ?_ | refine z1 rfl rfl (fun _ _=>zI rfl rfl (by omega)) ?_ | refine z1 rfl rfl (fun _ _=>zG rfl rfl (by omega)) ?_ | refine z1 rfl rfl (fun _ _=>ze qH rfl) ?_)
    refine qx ?_
    repeat (first | refine zg ?_ | refine WC.block ?_ | refine zc ?_ | refine zh ?_ | refine za ?_ | refine zt ?_ | refine zy ?_ | refine zx ?_ | refine zi ?_ | refine zv ?_ | refine zw ?_ | refine zd rfl (ze qH rfl) ?_ | refine zd rfl (zq rfl rfl rfl) ?_ | refine zJ rfl rfl rfl rfl ?_ | refine zb rfl rfl rfl rfl (ze qH rfl) ?_)
    exact WX.retcct qH rfl rfl rfl (hBy3.keep hgx2 (by simp; omega)) rfl rfl rfl hBx4 rfl rfl ⟨⟨_,_,qz,rz,by rw [decide_eq_false hy0]; rfl,(hNq.stored hB3z jk hgy).stored hB4y jk hgx2,(hNr.stored hB3z jk hgy).stored hB4y jk hgx2,⟨fun _=>hFl,fun e=>absurd e hy0⟩⟩,jp (jp hgz hgy (by omega)) hgx2 (by omega)⟩
end
 section
open Go Go.RowKit
attribute [local irreducible] WL WC WX WQ WK Yld Eff Ef0 Fn
theorem div_fn (va vb_:Value) (x y:Int) (m:Nat) (w:World) (ha:Nm w va x m) (hb:Nm w vb_ y m) (hm:m<=90000):Fn Tryz.prog 108 ⟨[va,vb_]⟩ w fun v w'=>(∃ u uz,v=.tuple #[u,.bool (!decide (y=0))]/\Nm w' u uz (m+4)/\(y≠0->∃ oz,Floor x y uz oz)/\(y=0->uz=0))/\w.grownBy w' none:=by
 obtain ⟨a1,a2,rfl,ho1,ho2⟩:=ha.agg
 obtain ⟨b1,b2,rfl,ho3,ho4⟩:=hb.agg
 refine Fn.enter (by kernel_rfl) Tryz.func108 rfl Tryz.ntmps108 rfl ?_
 repeat (first | refine zg ?_ | refine WC.block ?_ | refine zc ?_ | refine zh ?_ | refine za ?_ | refine zt ?_ | refine zy ?_ | refine zx ?_ | refine zm ?_ | refine zi ?_ | refine zf ?_ | refine zn ?_ | refine zk ?_ | refine zl rfl ?_ | refine zv ?_ | refine zw ?_ | refine zj ?_ | refine zp ?_ | refine zo ?_ | refine zd rfl (ze qH rfl) ?_)
 refine z4 (us:=[a1,a2]) rfl rfl rfl (fun g1 w1 hB1 hg1 hl1=>?_)
 repeat (first | refine zg ?_ | refine WC.block ?_ | refine zc ?_ | refine zh ?_ | refine za ?_ | refine zt ?_ | refine zy ?_ | refine zx ?_ | refine zm ?_ | refine zi ?_ | refine zf ?_ | refine zn ?_ | refine zk ?_ | refine zl rfl ?_ | refine zv ?_ | refine zw ?_ | refine zj ?_ | refine zp ?_ | refine zo ?_ | refine zd rfl (ze qH rfl) ?_)
 refine z4 (us:=[b1,b2]) rfl rfl rfl (fun g2 w2 hB2 hg2 hl2=>?_)
 repeat (first | refine zg ?_ | refine WC.block ?_ | refine zc ?_ | refine zh ?_ | refine za ?_ | refine zt ?_ | refine zy ?_ | refine zx ?_ | refine zm ?_ | refine zi ?_ | refine zf ?_ | refine zn ?_ | refine zk ?_ | refine zl rfl ?_ | refine zv ?_ | refine zw ?_ | refine zj ?_ | refine zp ?_ | refine zo ?_ | refine zd rfl (ze qH rfl) ?_)
 refine WL.alloc rfl qX (fun g4 w3 hB4 hg3 hl4=>?_)
 have hB13:=(hB1.keep hg2 (by simp)).keep hg3 (by simp)
 have hB23:=hB2.keep hg3 (by simp)
 have hg13:=qI (qI hg1 hg2) hg3
 have hlt4:=hB4.lt
 have hz1:=hg1.size
 have hz2:=hg2.size
 have hz3:=hg3.size
 repeat (first | refine zg ?_ | refine WC.block ?_ | refine zc ?_ | refine zh ?_ | refine za ?_ | refine zt ?_ | refine zy ?_ | refine zx ?_ | refine zm ?_ | refine zi ?_ | refine zf ?_ | refine zn ?_ | refine zk ?_ | refine zl rfl ?_ | refine zv ?_ | refine zw ?_ | refine zj ?_ | refine zp ?_ | refine zo ?_ | refine zd rfl (ze qH rfl) ?_)
 refine zd rfl (zO (vs:=[a1,a2]) qH hB13 rfl rfl rfl rfl) ?_
 refine zd rfl (zO (vs:=[b1,b2]) qH hB23 rfl rfl rfl rfl) ?_
 refine zK rfl rfl (floor_fn _ _ x y m w3 (ha.grown hg13) (hb.grown hg13) hm) ?_
 rintro _ w5 ⟨⟨q,r,qz,rz,rfl,hNq,hNr,hfl⟩,hg5⟩
 have hz5:=hg5.size
 repeat (first | refine zg ?_ | refine WC.block ?_ | refine zc ?_ | refine zh ?_ | refine za ?_ | refine zt ?_ | refine zy ?_ | refine zx ?_ | refine zm ?_ | refine zi ?_ | refine zf ?_ | refine zn ?_ | refine zk ?_ | refine zl rfl ?_ | refine zv ?_ | refine zw ?_ | refine zj ?_ | refine zp ?_ | refine zo ?_ | refine zd rfl (ze qH rfl) ?_)
 refine WL.alloc rfl qX (fun g6 w6 hB6 hg6 hl6=>?_)
 have hz6:=hg6.size
 have hlt6:=hB6.lt
 refine WL.alloc rfl qX (fun g7 w7 hB7 hg7 hl7=>?_)
 have hlt7:=hB7.lt
 obtain ⟨c1,c2,rfl,ho5,ho6⟩:=hNq.agg
 obtain ⟨d1,d2,rfl,ho7,ho8⟩:=hNr.agg
 have hB67:=hB6.keep hg7 (by simp)
 refine zT (vs:=[c1,c2]) qH rfl rfl rfl (by intro u hu; simp at hu; rcases hu with rfl | rfl <;> assumption) hB67 rfl rfl (fun w8 hB8 hg8=>?_)
 have hB78:=hB7.keep hg8 (by simp; omega)
 refine zT (vs:=[d1,d2]) qH rfl rfl rfl (by intro u hu; simp at hu; rcases hu with rfl | rfl <;> assumption) hB78 rfl rfl (fun w9 hB9 hg9=>?_)
 have hB89:=hB8.keep hg9 (by simp; omega)
 have hg39:w3.grownBy w9 none:=jp (jp (qI (qI hg5 hg6) hg7) hg8 (by omega)) hg9 (by omega)
 have hB49:=hB4.keep hg39 (by simp)
 repeat (first | refine zg ?_ | refine WC.block ?_ | refine zc ?_ | refine zh ?_ | refine za ?_ | refine zt ?_ | refine zy ?_ | refine zx ?_ | refine zm ?_ | refine zi ?_ | refine zf ?_ | refine zn ?_ | refine zk ?_ | refine zl rfl ?_ | refine zv ?_ | refine zw ?_ | refine zj ?_ | refine zp ?_ | refine zo ?_ | refine zd rfl (ze qH rfl) ?_)
 refine zd rfl (zO (vs:=[c1,c2]) qH hB89 rfl rfl rfl rfl) ?_
 repeat (first | refine zg ?_ | refine WC.block ?_ | refine zc ?_ | refine zh ?_ | refine za ?_ | refine zt ?_ | refine zy ?_ | refine zx ?_ | refine zm ?_ | refine zi ?_ | refine zf ?_ | refine zn ?_ | refine zk ?_ | refine zl rfl ?_ | refine zv ?_ | refine zw ?_ | refine zj ?_ | refine zp ?_ | refine zo ?_ | refine zd rfl (ze qH rfl) ?_)
 have hN9:=((((hNq.grown hg6).grown hg7).stored hB67 jk hg8).stored hB78 jk hg9)
 refine zT (vs:=[c1,c2]) qH rfl rfl rfl (by intro u hu; simp at hu; rcases hu with rfl | rfl <;> assumption) hB49 rfl rfl (fun wa hBa hga=>?_)
 repeat (first | refine zg ?_ | refine WC.block ?_ | refine zc ?_ | refine zh ?_ | refine za ?_ | refine zt ?_ | refine zy ?_ | refine zx ?_ | refine zm ?_ | refine zi ?_ | refine zf ?_ | refine zn ?_ | refine zk ?_ | refine zl rfl ?_ | refine zv ?_ | refine zw ?_ | refine zj ?_ | refine zp ?_ | refine zo ?_ | refine zd rfl (ze qH rfl) ?_)
 exact WX.retct qH rfl rfl rfl hBa rfl rfl ⟨⟨_,qz,rfl,hN9.stored hB49 jk hga,⟨fun h=>⟨rz,hfl.1 h⟩,fun h=>(hfl.2 h).1⟩⟩,jp (qI hg13 hg39) hga (by omega)⟩
theorem mod_fn (va vb_:Value) (x y:Int) (m:Nat) (w:World) (ha:Nm w va x m) (hb:Nm w vb_ y m) (hm:m<=90000):Fn Tryz.prog 195 ⟨[va,vb_]⟩ w fun v w'=>(∃ u uz,v=.tuple #[u,.bool (!decide (y=0))]/\Nm w' u uz (m+4)/\(y≠0->∃ oz,Floor x y oz uz)/\(y=0->uz=0))/\w.grownBy w' none:=by
 obtain ⟨a1,a2,rfl,ho1,ho2⟩:=ha.agg
 obtain ⟨b1,b2,rfl,ho3,ho4⟩:=hb.agg
 refine Fn.enter (by kernel_rfl) Tryz.func195 rfl Tryz.ntmps195 rfl ?_
 repeat (first | refine zg ?_ | refine WC.block ?_ | refine zc ?_ | refine zh ?_ | refine za ?_ | refine zt ?_ | refine zy ?_ | refine zx ?_ | refine zm ?_ | refine zi ?_ | refine zf ?_ | refine zn ?_ | refine zk ?_ | refine zl rfl ?_ | refine zv ?_ | refine zw ?_ | refine zj ?_ | refine zp ?_ | refine zo ?_ | refine zd rfl (ze qH rfl) ?_)
 refine z4 (us:=[a1,a2]) rfl rfl rfl (fun g1 w1 hB1 hg1 hl1=>?_)
 repeat (first | refine zg ?_ | refine WC.block ?_ | refine zc ?_ | refine zh ?_ | refine za ?_ | refine zt ?_ | refine zy ?_ | refine zx ?_ | refine zm ?_ | refine zi ?_ | refine zf ?_ | refine zn ?_ | refine zk ?_ | refine zl rfl ?_ | refine zv ?_ | refine zw ?_ | refine zj ?_ | refine zp ?_ | refine zo ?_ | refine zd rfl (ze qH rfl) ?_)
 refine z4 (us:=[b1,b2]) rfl rfl rfl (fun g2 w2 hB2 hg2 hl2=>?_)
 repeat (first | refine zg ?_ | refine WC.block ?_ | refine zc ?_ | refine zh ?_ | refine za ?_ | refine zt ?_ | refine zy ?_ | refine zx ?_ | refine zm ?_ | refine zi ?_ | refine zf ?_ | refine zn ?_ | refine zk ?_ | refine zl rfl ?_ | refine zv ?_ | refine zw ?_ | refine zj ?_ | refine zp ?_ | refine zo ?_ | refine zd rfl (ze qH rfl) ?_)
 refine WL.alloc rfl qX (fun g4 w3 hB4 hg3 hl4=>?_)
 have hB13:=(hB1.keep hg2 (by simp)).keep hg3 (by simp)
 have hB23:=hB2.keep hg3 (by simp)
 have hg13:=qI (qI hg1 hg2) hg3
 have hlt4:=hB4.lt
 have hz1:=hg1.size
 have hz2:=hg2.size
 have hz3:=hg3.size
 repeat (first | refine zg ?_ | refine WC.block ?_ | refine zc ?_ | refine zh ?_ | refine za ?_ | refine zt ?_ | refine zy ?_ | refine zx ?_ | refine zm ?_ | refine zi ?_ | refine zf ?_ | refine zn ?_ | refine zk ?_ | refine zl rfl ?_ | refine zv ?_ | refine zw ?_ | refine zj ?_ | refine zp ?_ | refine zo ?_ | refine zd rfl (ze qH rfl) ?_)
 refine zd rfl (zO (vs:=[a1,a2]) qH hB13 rfl rfl rfl rfl) ?_
 refine zd rfl (zO (vs:=[b1,b2]) qH hB23 rfl rfl rfl rfl) ?_
 refine zK rfl rfl (floor_fn _ _ x y m w3 (ha.grown hg13) (hb.grown hg13) hm) ?_
 rintro _ w5 ⟨⟨q,r,qz,rz,rfl,hNq,hNr,hfl⟩,hg5⟩
 have hz5:=hg5.size
 repeat (first | refine zg ?_ | refine WC.block ?_ | refine zc ?_ | refine zh ?_ | refine za ?_ | refine zt ?_ | refine zy ?_ | refine zx ?_ | refine zm ?_ | refine zi ?_ | refine zf ?_ | refine zn ?_ | refine zk ?_ | refine zl rfl ?_ | refine zv ?_ | refine zw ?_ | refine zj ?_ | refine zp ?_ | refine zo ?_ | refine zd rfl (ze qH rfl) ?_)
 refine WL.alloc rfl qX (fun g6 w6 hB6 hg6 hl6=>?_)
 have hz6:=hg6.size
 have hlt6:=hB6.lt
 refine WL.alloc rfl qX (fun g7 w7 hB7 hg7 hl7=>?_)
 have hlt7:=hB7.lt
 obtain ⟨c1,c2,rfl,ho5,ho6⟩:=hNq.agg
 obtain ⟨d1,d2,rfl,ho7,ho8⟩:=hNr.agg
 have hB67:=hB6.keep hg7 (by simp)
 refine zT (vs:=[c1,c2]) qH rfl rfl rfl (by intro u hu; simp at hu; rcases hu with rfl | rfl <;> assumption) hB67 rfl rfl (fun w8 hB8 hg8=>?_)
 have hB78:=hB7.keep hg8 (by simp; omega)
 refine zT (vs:=[d1,d2]) qH rfl rfl rfl (by intro u hu; simp at hu; rcases hu with rfl | rfl <;> assumption) hB78 rfl rfl (fun w9 hB9 hg9=>?_)
 have hB89:=hB8.keep hg9 (by simp; omega)
 have hg39:w3.grownBy w9 none:=jp (jp (qI (qI hg5 hg6) hg7) hg8 (by omega)) hg9 (by omega)
 have hB49:=hB4.keep hg39 (by simp)
 repeat (first | refine zg ?_ | refine WC.block ?_ | refine zc ?_ | refine zh ?_ | refine za ?_ | refine zt ?_ | refine zy ?_ | refine zx ?_ | refine zm ?_ | refine zi ?_ | refine zf ?_ | refine zn ?_ | refine zk ?_ | refine zl rfl ?_ | refine zv ?_ | refine zw ?_ | refine zj ?_ | refine zp ?_ | refine zo ?_ | refine zd rfl (ze qH rfl) ?_)
 refine zd rfl (zO (vs:=[d1,d2]) qH hB9 rfl rfl rfl rfl) ?_
 repeat (first | refine zg ?_ | refine WC.block ?_ | refine zc ?_ | refine zh ?_ | refine za ?_ | refine zt ?_ | refine zy ?_ | refine zx ?_ | refine zm ?_ | refine zi ?_ | refine zf ?_ | refine zn ?_ | refine zk ?_ | refine zl rfl ?_ | refine zv ?_ | refine zw ?_ | refine zj ?_ | refine zp ?_ | refine zo ?_ | refine zd rfl (ze qH rfl) ?_)
 have hN9:=((((hNr.grown hg6).grown hg7).stored hB67 jk hg8).stored hB78 jk hg9)
 refine zT (vs:=[d1,d2]) qH rfl rfl rfl (by intro u hu; simp at hu; rcases hu with rfl | rfl <;> assumption) hB49 rfl rfl (fun wa hBa hga=>?_)
 repeat (first | refine zg ?_ | refine WC.block ?_ | refine zc ?_ | refine zh ?_ | refine za ?_ | refine zt ?_ | refine zy ?_ | refine zx ?_ | refine zm ?_ | refine zi ?_ | refine zf ?_ | refine zn ?_ | refine zk ?_ | refine zl rfl ?_ | refine zv ?_ | refine zw ?_ | refine zj ?_ | refine zp ?_ | refine zo ?_ | refine zd rfl (ze qH rfl) ?_)
 exact WX.retct qH rfl rfl rfl hBa rfl rfl ⟨⟨_,rz,rfl,hN9.stored hB49 jk hga,⟨fun h=>⟨qz,hfl.1 h⟩,fun h=>(hfl.2 h).2⟩⟩,jp (qI hg13 hg39) hga (by omega)⟩
end
 section
open Go Go.RowKit
attribute [local irreducible] WL WC WX WQ WK Yld Eff Ef0 Fn
theorem val_cut' (l:List Nat) (k:Nat):val (l.drop k)<=val l:=by
 rcases Nat.lt_or_ge l.length k with h | h
 ·rw [List.drop_eq_nil_of_le (by omega)]; simp [val]
 ·have:=val_app (l.take k) (l.drop k)
  rw [List.take_append_drop,List.length_take,Nat.min_eq_left h] at this
  have h1:0<1000000000 ^ k:=Nat.pow_pos (by omega)
  have h2:1*val (l.drop k)<=1000000000 ^ k*val (l.drop k):=Nat.mul_le_mul_right _ h1
  omega
def In64 (x:Int):Prop := -9223372036854775808<=x/\x<=9223372036854775807
set_option maxHeartbeats 1000000 in
theorem int_fn (v:Value) (x:Int) (m:Nat) (w:World) (hN:Nm w v x m) (hm:m<=90000):Fn Tryz.prog 110 ⟨[v]⟩ w fun r w'=>((In64 x/\r=.tuple #[vi x,.bool true])∨(¬ In64 x/\r=.tuple #[vi 0,.bool false]))/\w.grownBy w' none:=by
 have hN0:=hN
 obtain ⟨neg,A,c,l,rfl,hR,hD,hC,hl,hn,hz⟩:=hN
 refine Fn.enter (by kernel_rfl) Tryz.func110 rfl Tryz.ntmps110 rfl ?_
 repeat (first | refine zg ?_ | refine WC.block ?_ | refine zc ?_ | refine zh ?_ | refine za ?_ | refine zt ?_ | refine zy ?_ | refine zx ?_ | refine zm ?_ | refine zi ?_ | refine zf ?_ | refine zn ?_ | refine zk ?_ | refine zl rfl ?_ | refine zv ?_ | refine zw ?_ | refine zj ?_ | refine zp ?_ | refine zo ?_ | refine zd rfl (Yld.sub rfl rfl (by simp only [In]; omega)) ?_ | refine zd rfl (zC rfl rfl (by simp only [In]; omega)) ?_ | refine zd rfl (zr qH rfl rfl rfl rfl) ?_ | refine zd rfl (zu qH rfl rfl rfl (by simp only [In]; omega)) ?_ | refine zd rfl (ze qH rfl) ?_ | refine zd rfl (zq rfl rfl rfl) ?_ | refine zJ rfl rfl rfl rfl ?_ | refine zb rfl rfl rfl rfl (ze qH rfl) ?_)
 refine z4 (us:=[.bool neg,.slice A l.length c]) rfl rfl rfl (fun g1 w1 hB1 hg1 hl1=>?_)
 repeat (first | refine zg ?_ | refine WC.block ?_ | refine zc ?_ | refine zh ?_ | refine za ?_ | refine zt ?_ | refine zy ?_ | refine zx ?_ | refine zm ?_ | refine zi ?_ | refine zf ?_ | refine zn ?_ | refine zk ?_ | refine zl rfl ?_ | refine zv ?_ | refine zw ?_ | refine zj ?_ | refine zp ?_ | refine zo ?_ | refine zd rfl (Yld.sub rfl rfl (by simp only [In]; omega)) ?_ | refine zd rfl (zC rfl rfl (by simp only [In]; omega)) ?_ | refine zd rfl (zr qH rfl rfl rfl rfl) ?_ | refine zd rfl (zu qH rfl rfl rfl (by simp only [In]; omega)) ?_ | refine zd rfl (ze qH rfl) ?_ | refine zd rfl (zq rfl rfl rfl) ?_ | refine zJ rfl rfl rfl rfl ?_ | refine zb rfl rfl rfl rfl (ze qH rfl) ?_)
 refine WC.chain (fun k=>Nat.beq k 0 || Nat.beq k 3 || Nat.beq k 4 || Nat.beq k 5 || Nat.beq k 8 || Nat.beq k 9) (fun w'=>w1.grownBy w' none) jg (by kernel_rfl) (fun w' e=>qN (qR _ _) e) ?_
 refine z1 rfl rfl (fun w' h=>zO (vs:=[.bool neg,.slice A l.length c]) qH (hB1.keep h (by simp)) rfl rfl rfl rfl) ?_
 refine qe rfl qK rfl rfl (of_fn (-9223372036854775808) w1 (by omega) (by omega)) (fun v w' h w2 e=>qN h.2 e) ?_
 rintro o1 v1 ⟨hNo,gs1⟩
 have hc1:=ncmp_fn _ _ _ _ (m+3) v1 (((hN0.grown hg1).grown gs1).mono (by omega)) (hNo.mono (by omega)) (by omega)
 refine qe rfl qK rfl rfl hc1 (fun v w' h w2 e=>qN (qI gs1 h.2) e) ?_
 rintro _ v2 ⟨rfl,gs2⟩
 clear hc1
 have gt2:=qI gs1 gs2
 rcases Int.lt_or_le x (-9223372036854775808) with hx | hx
 ·rw [if_pos hx]
  repeat (first | refine z1 rfl rfl (fun _ _=>Yld.sub rfl rfl (by simp only [In]; omega)) ?_ | refine z1 rfl rfl (fun _ _=>zC rfl rfl (by simp only [In]; omega)) ?_ | refine z1 rfl rfl (fun _ _=>zr qH rfl rfl rfl rfl) ?_ | refine z1 rfl rfl (fun _ _=>zu qH rfl rfl rfl (by simp only [In]; omega)) ?_ | refine z1 rfl rfl (fun _ _=>ze qH rfl) ?_)
  refine WK.no rfl rfl rfl rfl ?_
  refine WK.no rfl rfl rfl rfl ?_
  refine WK.no rfl rfl rfl rfl ?_
  refine WK.no rfl rfl rfl rfl ?_
  refine z1 rfl rfl (fun _ _=>zq rfl rfl rfl) ?_
  refine qx ?_
  repeat (first | refine zg ?_ | refine WC.block ?_ | refine zc ?_ | refine zh ?_ | refine za ?_ | refine zt ?_ | refine zy ?_ | refine zx ?_ | refine zm ?_ | refine zi ?_ | refine zf ?_ | refine zn ?_ | refine zk ?_ | refine zl rfl ?_ | refine zv ?_ | refine zw ?_ | refine zj ?_ | refine zp ?_ | refine zo ?_ | refine zd rfl (Yld.sub rfl rfl (by simp only [In]; omega)) ?_ | refine zd rfl (zC rfl rfl (by simp only [In]; omega)) ?_ | refine zd rfl (zr qH rfl rfl rfl rfl) ?_ | refine zd rfl (zu qH rfl rfl rfl (by simp only [In]; omega)) ?_ | refine zd rfl (ze qH rfl) ?_ | refine zd rfl (zq rfl rfl rfl) ?_ | refine zJ rfl rfl rfl rfl ?_ | refine zb rfl rfl rfl rfl (ze qH rfl) ?_)
  refine zE rfl (fun _=>?_) (fun h=>by cases h)
  repeat (first | refine zg ?_ | refine WC.block ?_ | refine zc ?_ | refine zh ?_ | refine za ?_ | refine zt ?_ | refine zy ?_ | refine zx ?_ | refine zm ?_ | refine zi ?_ | refine zf ?_ | refine zn ?_ | refine zk ?_ | refine zl rfl ?_ | refine zv ?_ | refine zw ?_ | refine zj ?_ | refine zp ?_ | refine zo ?_ | refine zd rfl (Yld.sub rfl rfl (by simp only [In]; omega)) ?_ | refine zd rfl (zC rfl rfl (by simp only [In]; omega)) ?_ | refine zd rfl (zr qH rfl rfl rfl rfl) ?_ | refine zd rfl (zu qH rfl rfl rfl (by simp only [In]; omega)) ?_ | refine zd rfl (ze qH rfl) ?_ | refine zd rfl (zq rfl rfl rfl) ?_ | refine zJ rfl rfl rfl rfl ?_ | refine zb rfl rfl rfl rfl (ze qH rfl) ?_)
  exact zW rfl rfl rfl ⟨.inr ⟨fun h=>by unfold In64 at h; omega,rfl⟩,qI hg1 gt2⟩
 ·have hd:decide ((if x < -9223372036854775808 then (-1:Int) else if -9223372036854775808<x then 1 else 0)<0)=false:=by rw [if_neg (by omega)]; split <;> rfl
  repeat (first | refine z1 rfl rfl (fun _ _=>Yld.sub rfl rfl (by simp only [In]; omega)) ?_ | refine z1 rfl rfl (fun _ _=>zC rfl rfl (by simp only [In]; omega)) ?_ | refine z1 rfl rfl (fun _ _=>zr qH rfl rfl rfl rfl) ?_ | refine z1 rfl rfl (fun _ _=>zu qH rfl rfl rfl (by simp only [In]; omega)) ?_ | refine z1 rfl rfl (fun _ _=>ze qH rfl) ?_)
  rw [hd]
  refine WK.yw rfl (qM rfl rfl rfl) rfl (fun w' h=>zO (vs:=[.bool neg,.slice A l.length c]) qH (hB1.keep h (by simp)) rfl rfl rfl rfl) ?_
  refine qe rfl (qM rfl rfl rfl) rfl rfl (of_fn 9223372036854775807 v2 (by omega) (by omega)) (fun v w' h w2 e=>qN (qI gt2 h.2) e) ?_
  rintro o2 v3 ⟨hNo2,gs3⟩
  have gt3:=qI gt2 gs3
  refine qe rfl (qM rfl rfl rfl) rfl rfl (ncmp_fn _ _ _ _ (m+3) v3 (((hN0.grown hg1).grown gt3).mono (by omega)) (hNo2.mono (by omega)) (by omega)) (fun v w' h w2 e=>qN (qI gt3 h.2) e) ?_
  rintro _ v4 ⟨rfl,gs4⟩
  have gt4:=qI gt3 gs4
  refine WK.yw rfl (qM rfl rfl rfl) rfl (fun _ _=>ze qH rfl) ?_
  refine z1 rfl rfl (fun _ _=>zq rfl rfl rfl) ?_
  refine qx ?_
  repeat (first | refine zg ?_ | refine WC.block ?_ | refine zc ?_ | refine zh ?_ | refine za ?_ | refine zt ?_ | refine zy ?_ | refine zx ?_ | refine zm ?_ | refine zi ?_ | refine zf ?_ | refine zn ?_ | refine zk ?_ | refine zl rfl ?_ | refine zv ?_ | refine zw ?_ | refine zj ?_ | refine zp ?_ | refine zo ?_ | refine zd rfl (Yld.sub rfl rfl (by simp only [In]; omega)) ?_ | refine zd rfl (zC rfl rfl (by simp only [In]; omega)) ?_ | refine zd rfl (zr qH rfl rfl rfl rfl) ?_ | refine zd rfl (zu qH rfl rfl rfl (by simp only [In]; omega)) ?_ | refine zd rfl (ze qH rfl) ?_ | refine zd rfl (zq rfl rfl rfl) ?_ | refine zJ rfl rfl rfl rfl ?_ | refine zb rfl rfl rfl rfl (ze qH rfl) ?_)
  have hB4:=hB1.keep gt4 (by simp)
  have hR4:=(hR.grown hg1).grown gt4
  rcases Int.lt_or_le 9223372036854775807 x with hx2 | hx2
  ·have hd2:decide (0<(if x<9223372036854775807 then (-1:Int) else if 9223372036854775807<x then 1 else 0))=true:=by rw [if_neg (by omega),if_pos hx2]; rfl
   rw [hd2]
   refine zE rfl (fun _=>?_) (fun h=>by cases h)
   repeat (first | refine zg ?_ | refine WC.block ?_ | refine zc ?_ | refine zh ?_ | refine za ?_ | refine zt ?_ | refine zy ?_ | refine zx ?_ | refine zm ?_ | refine zi ?_ | refine zf ?_ | refine zn ?_ | refine zk ?_ | refine zl rfl ?_ | refine zv ?_ | refine zw ?_ | refine zj ?_ | refine zp ?_ | refine zo ?_ | refine zd rfl (Yld.sub rfl rfl (by simp only [In]; omega)) ?_ | refine zd rfl (zC rfl rfl (by simp only [In]; omega)) ?_ | refine zd rfl (zr qH rfl rfl rfl rfl) ?_ | refine zd rfl (zu qH rfl rfl rfl (by simp only [In]; omega)) ?_ | refine zd rfl (ze qH rfl) ?_ | refine zd rfl (zq rfl rfl rfl) ?_ | refine zJ rfl rfl rfl rfl ?_ | refine zb rfl rfl rfl rfl (ze qH rfl) ?_)
   exact zW rfl rfl rfl ⟨.inr ⟨fun h=>by unfold In64 at h; omega,rfl⟩,qI hg1 gt4⟩
  ·have hd2:decide (0<(if x<9223372036854775807 then (-1:Int) else if 9223372036854775807<x then 1 else 0))=false:=by
    rcases Int.lt_or_le x 9223372036854775807 with h | h
    ·rw [if_pos h]; rfl
    ·rw [if_neg (by omega),if_neg (by omega)]; rfl
   rw [hd2]
   refine zE rfl (fun h=>by cases h) (fun _=>?_)
   have hvl:val l<=9223372036854775808:=by cases neg <;> simp at hz <;> omega
   repeat (first | refine zd rfl (zH qH hB4 rfl rfl rfl) ?_ | refine zg ?_ | refine WC.block ?_ | refine zc ?_ | refine zh ?_ | refine za ?_ | refine zt ?_ | refine zy ?_ | refine zx ?_ | refine zm ?_ | refine zi ?_ | refine zf ?_ | refine zn ?_ | refine zk ?_ | refine zl rfl ?_ | refine zv ?_ | refine zw ?_ | refine zj ?_ | refine zp ?_ | refine zo ?_ | refine zd rfl (Yld.sub rfl rfl (by simp only [In]; omega)) ?_ | refine zd rfl (zC rfl rfl (by simp only [In]; omega)) ?_ | refine zd rfl (zr qH rfl rfl rfl rfl) ?_ | refine zd rfl (zu qH rfl rfl rfl (by simp only [In]; omega)) ?_ | refine zd rfl (ze qH rfl) ?_ | refine zd rfl (zq rfl rfl rfl) ?_ | refine zJ rfl rfl rfl rfl ?_ | refine zb rfl rfl rfl rfl (ze qH rfl) ?_)
   refine WC.loop (S:=Nat) (fun j=>j) (fun j=>[(5,.int .i64 ((j:Int) - 1)),(4,.int .i64 (-(val (l.drop j):Int))),(1,.pointer (some ⟨g1,0,none⟩))])
    (fun j w2=>j<=l.length/\w2=v4) l.length ⟨by omega,rfl⟩ (by rw [List.drop_eq_nil_of_le (Nat.le_refl _)]; repeat (first | exact zS | refine Sub.cons rfl ?_)) (fun j w2 ⟨hj,hw2⟩=>?_)
   subst hw2
   repeat (first | refine zg ?_ | refine WC.block ?_ | refine zc ?_ | refine zh ?_ | refine za ?_ | refine zt ?_ | refine zy ?_ | refine zx ?_ | refine zm ?_ | refine zi ?_ | refine zf ?_ | refine zn ?_ | refine zk ?_ | refine zl rfl ?_ | refine zv ?_ | refine zw ?_ | refine zj ?_ | refine zp ?_ | refine zo ?_ | refine zd rfl (Yld.sub rfl rfl (by simp only [In]; omega)) ?_ | refine zd rfl (zC rfl rfl (by simp only [In]; omega)) ?_ | refine zd rfl (zr qH rfl rfl rfl rfl) ?_ | refine zd rfl (zu qH rfl rfl rfl (by simp only [In]; omega)) ?_ | refine zd rfl (ze qH rfl) ?_ | refine zd rfl (zq rfl rfl rfl) ?_ | refine zJ rfl rfl rfl rfl ?_ | refine zb rfl rfl rfl rfl (ze qH rfl) ?_)
   refine zE rfl (fun h=>?_) (fun h=>?_)
   ·simp only [decide_eq_true_eq] at h
    obtain ⟨i,rfl⟩:∃ i,j=i+1:=⟨j - 1,by omega⟩
    have hjt:(((i+1:Nat):Int) - 1).toNat=i:=by omega
    have hda:=hD (((i+1:Nat):Int) - 1).toNat
    have hdc:=drop_cons' l i (by omega)
    have hcut:=val_cut' l i
    rw [hjt] at hda
    have hda2:l.getD (((i+1:Nat):Int) - 1).toNat 0=l.getD i 0:=by rw [hjt]
    generalize hV:val (l.drop (i+1))=V at *
    repeat (first | refine zd rfl (zH qH hB4 rfl rfl rfl) ?_ | refine zd rfl (qm qH hR4 rfl rfl rfl rfl (by omega) (by omega)) ?_ | refine zd rfl (zQ 0 qH hR4 rfl rfl (by omega)) ?_ | refine zg ?_ | refine WC.block ?_ | refine zc ?_ | refine zh ?_ | refine za ?_ | refine zt ?_ | refine zy ?_ | refine zx ?_ | refine zm ?_ | refine zi ?_ | refine zf ?_ | refine zn ?_ | refine zk ?_ | refine zl rfl ?_ | refine zv ?_ | refine zw ?_ | refine zj ?_ | refine zp ?_ | refine zo ?_ | refine zd rfl (Yld.sub rfl rfl (by simp only [In]; omega)) ?_ | refine zd rfl (zC rfl rfl (by simp only [In]; omega)) ?_ | refine zd rfl (zr qH rfl rfl rfl rfl) ?_ | refine zd rfl (zu qH rfl rfl rfl (by simp only [In]; omega)) ?_ | refine zd rfl (ze qH rfl) ?_ | refine zd rfl (zq rfl rfl rfl) ?_ | refine zJ rfl rfl rfl rfl ?_ | refine zb rfl rfl rfl rfl (ze qH rfl) ?_)
    have hsl:((i+1:Nat):Int) - 1 - 1=(i:Int) - 1:=by omega
    have hvv : -(V:Int)*1000000000 - ((l.getD (((i+1:Nat):Int) - 1).toNat 0:Nat):Int) = -(val (l.drop i):Int):=by rw [hda2]; omega
    rw [hsl,hvv]
    exact WX.round i ⟨by omega,rfl⟩ (by omega) (by repeat (first | exact zS | refine Sub.cons rfl ?_))
   ·simp only [decide_eq_false_iff_not] at h
    obtain rfl:j=0:=by omega
    repeat (first | refine zd rfl (zH qH hB4 rfl rfl rfl) ?_ | refine zg ?_ | refine WC.block ?_ | refine zc ?_ | refine zh ?_ | refine za ?_ | refine zt ?_ | refine zy ?_ | refine zx ?_ | refine zm ?_ | refine zi ?_ | refine zf ?_ | refine zn ?_ | refine zk ?_ | refine zl rfl ?_ | refine zv ?_ | refine zw ?_ | refine zj ?_ | refine zp ?_ | refine zo ?_ | refine zd rfl (Yld.sub rfl rfl (by simp only [In]; omega)) ?_ | refine zd rfl (zC rfl rfl (by simp only [In]; omega)) ?_ | refine zd rfl (zr qH rfl rfl rfl rfl) ?_ | refine zd rfl (zu qH rfl rfl rfl (by simp only [In]; omega)) ?_ | refine zd rfl (ze qH rfl) ?_ | refine zd rfl (zq rfl rfl rfl) ?_ | refine zJ rfl rfl rfl rfl ?_ | refine zb rfl rfl rfl rfl (ze qH rfl) ?_)
    rw [List.drop_zero]
    have hgx:=qI hg1 gt4
    refine zE rfl (fun h=>?_) (fun h=>?_)
    ·have hneg:neg=false:=by simpa using h
     subst hneg
     repeat (first | refine zg ?_ | refine WC.block ?_ | refine zc ?_ | refine zh ?_ | refine za ?_ | refine zt ?_ | refine zy ?_ | refine zx ?_ | refine zm ?_ | refine zi ?_ | refine zf ?_ | refine zn ?_ | refine zk ?_ | refine zl rfl ?_ | refine zv ?_ | refine zw ?_ | refine zj ?_ | refine zp ?_ | refine zo ?_ | refine zd rfl (Yld.sub rfl rfl (by simp only [In]; omega)) ?_ | refine zd rfl (zC rfl rfl (by simp only [In]; omega)) ?_ | refine zd rfl (zr qH rfl rfl rfl rfl) ?_ | refine zd rfl (zu qH rfl rfl rfl (by simp only [In]; omega)) ?_ | refine zd rfl (ze qH rfl) ?_ | refine zd rfl (zq rfl rfl rfl) ?_ | refine zJ rfl rfl rfl rfl ?_ | refine zb rfl rfl rfl rfl (ze qH rfl) ?_)
     have hw:IntKind.i64.wrap (0 - -(val l:Int))=x:=by rw [In.wrap (by simp only [In]; simp at hz; omega)]; simp at hz; omega
     rw [hw]
     exact zW rfl rfl rfl ⟨.inl ⟨⟨by omega,by omega⟩,rfl⟩,hgx⟩
    ·have hneg:neg=true:=by simpa using h
     subst hneg
     repeat (first | refine zg ?_ | refine WC.block ?_ | refine zc ?_ | refine zh ?_ | refine za ?_ | refine zt ?_ | refine zy ?_ | refine zx ?_ | refine zm ?_ | refine zi ?_ | refine zf ?_ | refine zn ?_ | refine zk ?_ | refine zl rfl ?_ | refine zv ?_ | refine zw ?_ | refine zj ?_ | refine zp ?_ | refine zo ?_ | refine zd rfl (Yld.sub rfl rfl (by simp only [In]; omega)) ?_ | refine zd rfl (zC rfl rfl (by simp only [In]; omega)) ?_ | refine zd rfl (zr qH rfl rfl rfl rfl) ?_ | refine zd rfl (zu qH rfl rfl rfl (by simp only [In]; omega)) ?_ | refine zd rfl (ze qH rfl) ?_ | refine zd rfl (zq rfl rfl rfl) ?_ | refine zJ rfl rfl rfl rfl ?_ | refine zb rfl rfl rfl rfl (ze qH rfl) ?_)
     have hw : -(val l:Int)=x:=by simp at hz; omega
     rw [hw]
     exact zW rfl rfl rfl ⟨.inl ⟨⟨by omega,by omega⟩,rfl⟩,hgx⟩
end
 section
open Go Go.RowKit
attribute [local irreducible] WL WC WX WQ WK WJ Yld Eff Ef0 Fn
theorem getD_set_eqB (l:List UInt8) (j:Nat) (d:UInt8) (h:j<l.length):(l.set j d).getD j 0=d:=by simp [List.getD,h]
theorem getD_set_neB (l:List UInt8) (j i:Nat) (d:UInt8) (h:j≠i):(l.set j d).getD i 0=l.getD i 0:=by simp [List.getD,List.getElem?_set_ne h]
theorem gr_row {a b c:World} {row:Option Nat} (h:a.grownBy b row) (k:b.grownBy c row):a.grownBy c row:=qI h k
theorem rev_end (xs ys:List UInt8) (i:Nat) (hl:ys.length=xs.length) (hi:xs.length<=2*i+1) (h:∀ t,t<xs.length->ys.getD t 0=if t<i∨xs.length - i<=t then xs.getD (xs.length - 1 - t) 0 else xs.getD t 0):ys=xs.reverse:=by
 apply List.ext_getElem
 ·simp [hl]
 ·intro t h1 h2
  have h3:t<xs.length:=by omega
  have e:=h t h3
  rw [List.getElem_reverse]
  have e1:ys.getD t 0=ys[t]:=by simp [List.getD,h1]
  have e2:xs.getD (xs.length - 1 - t) 0=xs[xs.length - 1 - t]:=by simp [List.getD,(by omega:xs.length - 1 - t<xs.length)]
  rw [<-e1,<-e2,e]
  split
  ·rfl
  ·congr 1; omega
set_option maxHeartbeats 1000000 in
theorem reverse_fn (A:Option Addr) (c B:Nat) (xs:List UInt8) (w:World) (hO:Own vb w B 5 A c xs):Fn Tryz.prog 112 ⟨[.slice A xs.length c]⟩ w fun v w'=>v=.tuple #[]/\Own vb w' B 5 A c xs.reverse/\w.grownBy w' (blk A):=by
 have hlen:=hO.len
 simp only [maxLen] at hlen
 refine Fn.enter (by kernel_rfl) Tryz.func112 rfl Tryz.ntmps112 rfl ?_
 repeat (first | refine zg ?_ | refine WC.block ?_ | refine zc ?_ | refine zh ?_ | refine za ?_ | refine zt ?_ | refine zy ?_ | refine zx ?_ | refine zm ?_ | refine zi ?_ | refine zf ?_ | refine zn ?_ | refine zk ?_ | refine zl rfl ?_ | refine zv ?_ | refine zw ?_ | refine zj ?_ | refine zp ?_ | refine zo ?_ | refine zd rfl (Yld.add rfl rfl (by simp only [In]; omega)) ?_ | refine zd rfl (Yld.sub rfl rfl (by simp only [In]; omega)) ?_ | refine zd rfl (zC rfl rfl (by simp only [In]; omega)) ?_ | refine zd rfl (zr qH rfl rfl rfl rfl) ?_ | refine zd rfl (zu qH rfl rfl rfl (by simp only [In]; omega)) ?_ | refine zd rfl (zz rfl rfl (by omega) (by omega) (by simp only [In]; omega)) ?_ | refine zd rfl (zA rfl rfl (by omega) (by omega)) ?_ | refine zd rfl (zI rfl rfl (by omega)) ?_ | refine zd rfl (zG rfl rfl (by omega)) ?_ | refine zd rfl (ze qH rfl) ?_ | refine zd rfl (zF qJ rfl rfl rfl) ?_ | refine zd rfl (zD rfl rfl) ?_ | refine zd rfl (zB rfl rfl) ?_ | refine zd rfl (zq rfl rfl rfl) ?_ | refine zJ rfl rfl rfl rfl ?_ | refine zb rfl rfl rfl rfl (Yld.add rfl rfl (by simp only [In]; omega)) ?_ | refine zb rfl rfl rfl rfl (Yld.sub rfl rfl (by simp only [In]; omega)) ?_ | refine zb rfl rfl rfl rfl (zC rfl rfl (by simp only [In]; omega)) ?_ | refine zb rfl rfl rfl rfl (zr qH rfl rfl rfl rfl) ?_ | refine zb rfl rfl rfl rfl (zu qH rfl rfl rfl (by simp only [In]; omega)) ?_ | refine zb rfl rfl rfl rfl (zz rfl rfl (by omega) (by omega) (by simp only [In]; omega)) ?_ | refine zb rfl rfl rfl rfl (zA rfl rfl (by omega) (by omega)) ?_ | refine zb rfl rfl rfl rfl (zI rfl rfl (by omega)) ?_ | refine zb rfl rfl rfl rfl (zG rfl rfl (by omega)) ?_ | refine zb rfl rfl rfl rfl (ze qH rfl) ?_ | refine zb rfl rfl rfl rfl (zF qJ rfl rfl rfl) ?_ | refine zb rfl rfl rfl rfl (zD rfl rfl) ?_ | refine zb rfl rfl rfl rfl (zB rfl rfl) ?_ | refine zb rfl rfl rfl rfl (zq rfl rfl rfl) ?_)
 refine WC.loop2 (S1:=Nat) (S2:=List UInt8) (fun i _=>xs.length - i) (fun i _=>[(2,vi i),(3,.int .i64 ((xs.length:Int) - 1 - (i:Int))),(0,.slice A xs.length c)])
  (fun i ys w2=>ys.length=xs.length/\2*i<=xs.length+1/\(∀ t,t<xs.length->ys.getD t 0=if t<i∨xs.length - i<=t then xs.getD (xs.length - 1 - t) 0 else xs.getD t 0)/\Own vb w2 B 5 A c ys/\w.grownBy w2 (blk A))
  0 xs ⟨rfl,by omega,fun t ht=>by rw [if_neg (by omega)],hO,qR _ _⟩ (by rw [show (xs.length:Int) - 1 - ((0:Nat):Int)=(xs.length:Int) - 1 by omega]; repeat (first | exact zS | refine Sub.cons rfl ?_)) (fun i ys w2 ⟨hyl,hi,hy,hO2,hg2⟩=>?_)
 repeat (first | refine zg ?_ | refine WC.block ?_ | refine zc ?_ | refine zh ?_ | refine za ?_ | refine zt ?_ | refine zy ?_ | refine zx ?_ | refine zm ?_ | refine zi ?_ | refine zf ?_ | refine zn ?_ | refine zk ?_ | refine zl rfl ?_ | refine zv ?_ | refine zw ?_ | refine zj ?_ | refine zp ?_ | refine zo ?_ | refine zd rfl (Yld.add rfl rfl (by simp only [In]; omega)) ?_ | refine zd rfl (Yld.sub rfl rfl (by simp only [In]; omega)) ?_ | refine zd rfl (zC rfl rfl (by simp only [In]; omega)) ?_ | refine zd rfl (zr qH rfl rfl rfl rfl) ?_ | refine zd rfl (zu qH rfl rfl rfl (by simp only [In]; omega)) ?_ | refine zd rfl (zz rfl rfl (by omega) (by omega) (by simp only [In]; omega)) ?_ | refine zd rfl (zA rfl rfl (by omega) (by omega)) ?_ | refine zd rfl (zI rfl rfl (by omega)) ?_ | refine zd rfl (zG rfl rfl (by omega)) ?_ | refine zd rfl (ze qH rfl) ?_ | refine zd rfl (zF qJ rfl rfl rfl) ?_ | refine zd rfl (zD rfl rfl) ?_ | refine zd rfl (zB rfl rfl) ?_ | refine zd rfl (zq rfl rfl rfl) ?_ | refine zJ rfl rfl rfl rfl ?_ | refine zb rfl rfl rfl rfl (Yld.add rfl rfl (by simp only [In]; omega)) ?_ | refine zb rfl rfl rfl rfl (Yld.sub rfl rfl (by simp only [In]; omega)) ?_ | refine zb rfl rfl rfl rfl (zC rfl rfl (by simp only [In]; omega)) ?_ | refine zb rfl rfl rfl rfl (zr qH rfl rfl rfl rfl) ?_ | refine zb rfl rfl rfl rfl (zu qH rfl rfl rfl (by simp only [In]; omega)) ?_ | refine zb rfl rfl rfl rfl (zz rfl rfl (by omega) (by omega) (by simp only [In]; omega)) ?_ | refine zb rfl rfl rfl rfl (zA rfl rfl (by omega) (by omega)) ?_ | refine zb rfl rfl rfl rfl (zI rfl rfl (by omega)) ?_ | refine zb rfl rfl rfl rfl (zG rfl rfl (by omega)) ?_ | refine zb rfl rfl rfl rfl (ze qH rfl) ?_ | refine zb rfl rfl rfl rfl (zF qJ rfl rfl rfl) ?_ | refine zb rfl rfl rfl rfl (zD rfl rfl) ?_ | refine zb rfl rfl rfl rfl (zB rfl rfl) ?_ | refine zb rfl rfl rfl rfl (zq rfl rfl rfl) ?_)
 refine zE rfl (fun h=>?_) (fun h=>?_)
 ·simp only [decide_eq_true_eq] at h
  have hR2:=hO2.rd
  have hjt:((xs.length:Int) - 1 - (i:Int)).toNat=xs.length - 1 - i:=by omega
  repeat (first | refine zg ?_ | refine WC.block ?_ | refine zc ?_ | refine zh ?_ | refine za ?_ | refine zt ?_ | refine zy ?_ | refine zx ?_ | refine zm ?_ | refine zi ?_ | refine zf ?_ | refine zn ?_ | refine zk ?_ | refine zl rfl ?_ | refine zv ?_ | refine zw ?_ | refine zj ?_ | refine zp ?_ | refine zo ?_ | refine zd rfl (Yld.add rfl rfl (by simp only [In]; omega)) ?_ | refine zd rfl (Yld.sub rfl rfl (by simp only [In]; omega)) ?_ | refine zd rfl (zC rfl rfl (by simp only [In]; omega)) ?_ | refine zd rfl (zr qH rfl rfl rfl rfl) ?_ | refine zd rfl (zu qH rfl rfl rfl (by simp only [In]; omega)) ?_ | refine zd rfl (zz rfl rfl (by omega) (by omega) (by simp only [In]; omega)) ?_ | refine zd rfl (zA rfl rfl (by omega) (by omega)) ?_ | refine zd rfl (zI rfl rfl (by omega)) ?_ | refine zd rfl (zG rfl rfl (by omega)) ?_ | refine zd rfl (ze qH rfl) ?_ | refine zd rfl (zF qJ rfl rfl rfl) ?_ | refine zd rfl (zD rfl rfl) ?_ | refine zd rfl (zB rfl rfl) ?_ | refine zd rfl (zq rfl rfl rfl) ?_ | refine zJ rfl rfl rfl rfl ?_ | refine zb rfl rfl rfl rfl (Yld.add rfl rfl (by simp only [In]; omega)) ?_ | refine zb rfl rfl rfl rfl (Yld.sub rfl rfl (by simp only [In]; omega)) ?_ | refine zb rfl rfl rfl rfl (zC rfl rfl (by simp only [In]; omega)) ?_ | refine zb rfl rfl rfl rfl (zr qH rfl rfl rfl rfl) ?_ | refine zb rfl rfl rfl rfl (zu qH rfl rfl rfl (by simp only [In]; omega)) ?_ | refine zb rfl rfl rfl rfl (zz rfl rfl (by omega) (by omega) (by simp only [In]; omega)) ?_ | refine zb rfl rfl rfl rfl (zA rfl rfl (by omega) (by omega)) ?_ | refine zb rfl rfl rfl rfl (zI rfl rfl (by omega)) ?_ | refine zb rfl rfl rfl rfl (zG rfl rfl (by omega)) ?_ | refine zb rfl rfl rfl rfl (ze qH rfl) ?_ | refine zb rfl rfl rfl rfl (zF qJ rfl rfl rfl) ?_ | refine zb rfl rfl rfl rfl (zD rfl rfl) ?_ | refine zb rfl rfl rfl rfl (zB rfl rfl) ?_ | refine zb rfl rfl rfl rfl (zq rfl rfl rfl) ?_)
  refine WC.chainJ (fun k => !(Nat.beq k 13 || Nat.beq k 15)) (LD [7,11] (fun w'=>Rd vb w' A c ys)) jg (by kernel_rfl) (fun k w' e _=>rd_eqv e hR2) ?_
  have hyl3:xs.length=(ys.set i (ys.getD (xs.length - 1 - i) 0)).length:=by simp [hyl]
  repeat (first | refine zL rfl rfl (fun _ _=>Yld.iaddrNW qH hR2 rfl rfl hyl.symm rfl (by omega)) ?_ | refine zL rfl rfl (fun _ _=>zP qH hR2 rfl rfl hyl.symm rfl (by omega) (by omega)) ?_ | refine zL rfl rfl (fun w' h=>zQ 0 qH (h rfl) rfl rfl (by omega)) ?_ | refine zL rfl rfl (fun _ _=>Yld.add rfl rfl (by simp only [In]; omega)) ?_ | refine zL rfl rfl (fun _ _=>Yld.sub rfl rfl (by simp only [In]; omega)) ?_ | refine zL rfl rfl (fun _ _=>zC rfl rfl (by simp only [In]; omega)) ?_ | refine zL rfl rfl (fun _ _=>zr qH rfl rfl rfl rfl) ?_ | refine zL rfl rfl (fun _ _=>zu qH rfl rfl rfl (by simp only [In]; omega)) ?_ | refine zL rfl rfl (fun _ _=>zz rfl rfl (by omega) (by omega) (by simp only [In]; omega)) ?_ | refine zL rfl rfl (fun _ _=>zA rfl rfl (by omega) (by omega)) ?_ | refine zL rfl rfl (fun _ _=>zI rfl rfl (by omega)) ?_ | refine zL rfl rfl (fun _ _=>zG rfl rfl (by omega)) ?_ | refine zL rfl rfl (fun _ _=>ze qH rfl) ?_ | refine zL rfl rfl (fun _ _=>zF qJ rfl rfl rfl) ?_ | refine zL rfl rfl (fun _ _=>zD rfl rfl) ?_ | refine zL rfl rfl (fun _ _=>zB rfl rfl) ?_ | refine zL rfl rfl (fun _ _=>zq rfl rfl rfl) ?_ | refine WJ.no rfl rfl rfl rfl ?_ | refine WJ.gun rfl rfl rfl rfl ?_ | refine z5 rfl (qM rfl rfl rfl) rfl (fun _ _=>Yld.add rfl rfl (by simp only [In]; omega)) ?_ | refine z5 rfl (qM rfl rfl rfl) rfl (fun _ _=>Yld.sub rfl rfl (by simp only [In]; omega)) ?_ | refine z5 rfl (qM rfl rfl rfl) rfl (fun _ _=>zC rfl rfl (by simp only [In]; omega)) ?_ | refine z5 rfl (qM rfl rfl rfl) rfl (fun _ _=>zr qH rfl rfl rfl rfl) ?_ | refine z5 rfl (qM rfl rfl rfl) rfl (fun _ _=>zu qH rfl rfl rfl (by simp only [In]; omega)) ?_ | refine z5 rfl (qM rfl rfl rfl) rfl (fun _ _=>zz rfl rfl (by omega) (by omega) (by simp only [In]; omega)) ?_ | refine z5 rfl (qM rfl rfl rfl) rfl (fun _ _=>zA rfl rfl (by omega) (by omega)) ?_ | refine z5 rfl (qM rfl rfl rfl) rfl (fun _ _=>zI rfl rfl (by omega)) ?_ | refine z5 rfl (qM rfl rfl rfl) rfl (fun _ _=>zG rfl rfl (by omega)) ?_ | refine z5 rfl (qM rfl rfl rfl) rfl (fun _ _=>ze qH rfl) ?_)
  rw [hjt]
  refine qt rfl (qj (v:=ys.getD (xs.length - 1 - i) 0) one5 One.b hO2 rfl rfl (by omega)) (fun w' _=>qi (by kernel_rfl)) ?_
  rintro w3 ⟨hO3,hg3⟩
  repeat (first | refine zL rfl rfl (fun _ _=>Yld.iaddrNW qH hR2 rfl rfl hyl.symm rfl (by omega)) ?_ | refine zL rfl rfl (fun _ _=>zP qH hR2 rfl rfl hyl.symm rfl (by omega) (by omega)) ?_ | refine zL rfl rfl (fun _ _=>Yld.add rfl rfl (by simp only [In]; omega)) ?_ | refine zL rfl rfl (fun _ _=>Yld.sub rfl rfl (by simp only [In]; omega)) ?_ | refine zL rfl rfl (fun _ _=>zC rfl rfl (by simp only [In]; omega)) ?_ | refine zL rfl rfl (fun _ _=>zr qH rfl rfl rfl rfl) ?_ | refine zL rfl rfl (fun _ _=>zu qH rfl rfl rfl (by simp only [In]; omega)) ?_ | refine zL rfl rfl (fun _ _=>zz rfl rfl (by omega) (by omega) (by simp only [In]; omega)) ?_ | refine zL rfl rfl (fun _ _=>zA rfl rfl (by omega) (by omega)) ?_ | refine zL rfl rfl (fun _ _=>zI rfl rfl (by omega)) ?_ | refine zL rfl rfl (fun _ _=>zG rfl rfl (by omega)) ?_ | refine zL rfl rfl (fun _ _=>ze qH rfl) ?_ | refine zL rfl rfl (fun _ _=>zF qJ rfl rfl rfl) ?_ | refine zL rfl rfl (fun _ _=>zD rfl rfl) ?_ | refine zL rfl rfl (fun _ _=>zB rfl rfl) ?_ | refine zL rfl rfl (fun _ _=>zq rfl rfl rfl) ?_ | refine WJ.no rfl rfl rfl rfl ?_ | refine WJ.gun rfl rfl rfl rfl ?_ | refine z5 rfl (qM rfl rfl rfl) rfl (fun _ _=>Yld.add rfl rfl (by simp only [In]; omega)) ?_ | refine z5 rfl (qM rfl rfl rfl) rfl (fun _ _=>Yld.sub rfl rfl (by simp only [In]; omega)) ?_ | refine z5 rfl (qM rfl rfl rfl) rfl (fun _ _=>zC rfl rfl (by simp only [In]; omega)) ?_ | refine z5 rfl (qM rfl rfl rfl) rfl (fun _ _=>zr qH rfl rfl rfl rfl) ?_ | refine z5 rfl (qM rfl rfl rfl) rfl (fun _ _=>zu qH rfl rfl rfl (by simp only [In]; omega)) ?_ | refine z5 rfl (qM rfl rfl rfl) rfl (fun _ _=>zz rfl rfl (by omega) (by omega) (by simp only [In]; omega)) ?_ | refine z5 rfl (qM rfl rfl rfl) rfl (fun _ _=>zA rfl rfl (by omega) (by omega)) ?_ | refine z5 rfl (qM rfl rfl rfl) rfl (fun _ _=>zI rfl rfl (by omega)) ?_ | refine z5 rfl (qM rfl rfl rfl) rfl (fun _ _=>zG rfl rfl (by omega)) ?_ | refine z5 rfl (qM rfl rfl rfl) rfl (fun _ _=>ze qH rfl) ?_)
  rw [hjt]
  refine qt rfl (qj (v:=ys.getD i 0) one5 One.b hO3 rfl rfl (by simp; omega)) (fun w' _=>qi (by kernel_rfl)) ?_
  rintro w4 ⟨hO4,hg4⟩
  refine qh ?_
  repeat (first | refine zg ?_ | refine WC.block ?_ | refine zc ?_ | refine zh ?_ | refine za ?_ | refine zt ?_ | refine zy ?_ | refine zx ?_ | refine zm ?_ | refine zi ?_ | refine zf ?_ | refine zn ?_ | refine zk ?_ | refine zl rfl ?_ | refine zv ?_ | refine zw ?_ | refine zj ?_ | refine zp ?_ | refine zo ?_ | refine zd rfl (Yld.add rfl rfl (by simp only [In]; omega)) ?_ | refine zd rfl (Yld.sub rfl rfl (by simp only [In]; omega)) ?_ | refine zd rfl (zC rfl rfl (by simp only [In]; omega)) ?_ | refine zd rfl (zr qH rfl rfl rfl rfl) ?_ | refine zd rfl (zu qH rfl rfl rfl (by simp only [In]; omega)) ?_ | refine zd rfl (zz rfl rfl (by omega) (by omega) (by simp only [In]; omega)) ?_ | refine zd rfl (zA rfl rfl (by omega) (by omega)) ?_ | refine zd rfl (zI rfl rfl (by omega)) ?_ | refine zd rfl (zG rfl rfl (by omega)) ?_ | refine zd rfl (ze qH rfl) ?_ | refine zd rfl (zF qJ rfl rfl rfl) ?_ | refine zd rfl (zD rfl rfl) ?_ | refine zd rfl (zB rfl rfl) ?_ | refine zd rfl (zq rfl rfl rfl) ?_ | refine zJ rfl rfl rfl rfl ?_ | refine zb rfl rfl rfl rfl (Yld.add rfl rfl (by simp only [In]; omega)) ?_ | refine zb rfl rfl rfl rfl (Yld.sub rfl rfl (by simp only [In]; omega)) ?_ | refine zb rfl rfl rfl rfl (zC rfl rfl (by simp only [In]; omega)) ?_ | refine zb rfl rfl rfl rfl (zr qH rfl rfl rfl rfl) ?_ | refine zb rfl rfl rfl rfl (zu qH rfl rfl rfl (by simp only [In]; omega)) ?_ | refine zb rfl rfl rfl rfl (zz rfl rfl (by omega) (by omega) (by simp only [In]; omega)) ?_ | refine zb rfl rfl rfl rfl (zA rfl rfl (by omega) (by omega)) ?_ | refine zb rfl rfl rfl rfl (zI rfl rfl (by omega)) ?_ | refine zb rfl rfl rfl rfl (zG rfl rfl (by omega)) ?_ | refine zb rfl rfl rfl rfl (ze qH rfl) ?_ | refine zb rfl rfl rfl rfl (zF qJ rfl rfl rfl) ?_ | refine zb rfl rfl rfl rfl (zD rfl rfl) ?_ | refine zb rfl rfl rfl rfl (zB rfl rfl) ?_ | refine zb rfl rfl rfl rfl (zq rfl rfl rfl) ?_)
  have e1:(i:Int)+1=((i+1:Nat):Int):=by omega
  have e2:(xs.length:Int) - 1 - (i:Int) - 1=(xs.length:Int) - 1 - ((i+1:Nat):Int):=by omega
  rw [e1,e2]
  refine WX.round2 (i+1) ((ys.set i (ys.getD (xs.length - 1 - i) 0)).set (xs.length - 1 - i) (ys.getD i 0)) ⟨by simp [hyl],by omega,fun t ht=>?_,hO4,gr_row (gr_row hg2 hg3) hg4⟩ (by omega) (by repeat (first | exact zS | refine Sub.cons rfl ?_))
  have hy1:=hy i (by omega)
  have hy2:=hy (xs.length - 1 - i) (by omega)
  rw [if_neg (by omega)] at hy1 hy2
  rcases Classical.em (xs.length - 1 - i=t) with et | et
  ·subst et
   rw [getD_set_eqB _ _ _ (by simp; omega),if_pos (by omega),hy1]
   congr 1; omega
  ·rw [getD_set_neB _ _ _ _ et]
   rcases Classical.em (i=t) with et2 | et2
   ·subst et2
    rw [getD_set_eqB _ _ _ (by omega),if_pos (by omega),hy2]
   ·rw [getD_set_neB _ _ _ _ et2,hy t ht]
    by_cases hc:t<i∨xs.length - i<=t
    ·rw [if_pos hc,if_pos (by omega)]
    ·rw [if_neg hc,if_neg (by omega)]
 ·simp only [decide_eq_false_iff_not] at h
  repeat (first | refine zg ?_ | refine WC.block ?_ | refine zc ?_ | refine zh ?_ | refine za ?_ | refine zt ?_ | refine zy ?_ | refine zx ?_ | refine zm ?_ | refine zi ?_ | refine zf ?_ | refine zn ?_ | refine zk ?_ | refine zl rfl ?_ | refine zv ?_ | refine zw ?_ | refine zj ?_ | refine zp ?_ | refine zo ?_ | refine zd rfl (Yld.add rfl rfl (by simp only [In]; omega)) ?_ | refine zd rfl (Yld.sub rfl rfl (by simp only [In]; omega)) ?_ | refine zd rfl (zC rfl rfl (by simp only [In]; omega)) ?_ | refine zd rfl (zr qH rfl rfl rfl rfl) ?_ | refine zd rfl (zu qH rfl rfl rfl (by simp only [In]; omega)) ?_ | refine zd rfl (zz rfl rfl (by omega) (by omega) (by simp only [In]; omega)) ?_ | refine zd rfl (zA rfl rfl (by omega) (by omega)) ?_ | refine zd rfl (zI rfl rfl (by omega)) ?_ | refine zd rfl (zG rfl rfl (by omega)) ?_ | refine zd rfl (ze qH rfl) ?_ | refine zd rfl (zF qJ rfl rfl rfl) ?_ | refine zd rfl (zD rfl rfl) ?_ | refine zd rfl (zB rfl rfl) ?_ | refine zd rfl (zq rfl rfl rfl) ?_ | refine zJ rfl rfl rfl rfl ?_ | refine zb rfl rfl rfl rfl (Yld.add rfl rfl (by simp only [In]; omega)) ?_ | refine zb rfl rfl rfl rfl (Yld.sub rfl rfl (by simp only [In]; omega)) ?_ | refine zb rfl rfl rfl rfl (zC rfl rfl (by simp only [In]; omega)) ?_ | refine zb rfl rfl rfl rfl (zr qH rfl rfl rfl rfl) ?_ | refine zb rfl rfl rfl rfl (zu qH rfl rfl rfl (by simp only [In]; omega)) ?_ | refine zb rfl rfl rfl rfl (zz rfl rfl (by omega) (by omega) (by simp only [In]; omega)) ?_ | refine zb rfl rfl rfl rfl (zA rfl rfl (by omega) (by omega)) ?_ | refine zb rfl rfl rfl rfl (zI rfl rfl (by omega)) ?_ | refine zb rfl rfl rfl rfl (zG rfl rfl (by omega)) ?_ | refine zb rfl rfl rfl rfl (ze qH rfl) ?_ | refine zb rfl rfl rfl rfl (zF qJ rfl rfl rfl) ?_ | refine zb rfl rfl rfl rfl (zD rfl rfl) ?_ | refine zb rfl rfl rfl rfl (zB rfl rfl) ?_ | refine zb rfl rfl rfl rfl (zq rfl rfl rfl) ?_)
  have e:=rev_end xs ys i hyl (by omega) hy
  subst e
  exact qa rfl ⟨rfl,hO2,hg2⟩
end
 section
open Go Go.RowKit
attribute [local irreducible] WL WC WX WQ WK WJ Yld Eff Ef0 Fn
set_option maxHeartbeats 2000000 in
theorem text_fn (v:Value) (x:Int) (m:Nat) (w:World) (hN:Nm w v x m) (hm:m<=90000):Fn Tryz.prog 48 ⟨[v]⟩ w fun r w'=>r=vs (txt x)/\w.grownBy w' none:=by
 obtain ⟨neg,A,c,l,rfl,hR,hD,hC,hl,hn,hz⟩:=hN
 refine Fn.enter (by kernel_rfl) Tryz.func48 rfl Tryz.ntmps48 rfl ?_
 repeat (first | refine zg ?_ | refine WC.block ?_ | refine zc ?_ | refine zh ?_ | refine za ?_ | refine zt ?_ | refine zy ?_ | refine zx ?_ | refine zm ?_ | refine zi ?_ | refine zf ?_ | refine zn ?_ | refine zk ?_ | refine zl rfl ?_ | refine zv ?_ | refine zw ?_ | refine zj ?_ | refine zp ?_ | refine zo ?_ | refine zd rfl (Yld.add rfl rfl (by simp only [In]; omega)) ?_ | refine zd rfl (Yld.sub rfl rfl (by simp only [In]; omega)) ?_ | refine zd rfl (zr qH rfl rfl rfl rfl) ?_ | refine zd rfl (zu qH rfl rfl rfl (by simp only [In]; omega)) ?_ | refine zd rfl (zz rfl rfl (by omega) (by omega) (by simp only [In]; omega)) ?_ | refine zd rfl (zA rfl rfl (by omega) (by omega)) ?_ | refine zd rfl (ze qH rfl) ?_ | refine zd rfl (zq rfl rfl rfl) ?_ | refine zJ rfl rfl rfl rfl ?_ | refine zb rfl rfl rfl rfl (Yld.sub rfl rfl (by simp only [In]; omega)) ?_ | refine zb rfl rfl rfl rfl (ze qH rfl) ?_ | refine zb rfl rfl rfl rfl (zq rfl rfl rfl) ?_)
 refine z4 (us:=[.bool neg,.slice A l.length c]) rfl rfl rfl (fun g1 w1 hB1 hg1 hl1=>?_)
 repeat (first | refine zd rfl (zH qH hB1 rfl rfl rfl) ?_ | refine zg ?_ | refine WC.block ?_ | refine zc ?_ | refine zh ?_ | refine za ?_ | refine zt ?_ | refine zy ?_ | refine zx ?_ | refine zm ?_ | refine zi ?_ | refine zf ?_ | refine zn ?_ | refine zk ?_ | refine zl rfl ?_ | refine zv ?_ | refine zw ?_ | refine zj ?_ | refine zp ?_ | refine zo ?_ | refine zd rfl (Yld.add rfl rfl (by simp only [In]; omega)) ?_ | refine zd rfl (Yld.sub rfl rfl (by simp only [In]; omega)) ?_ | refine zd rfl (zr qH rfl rfl rfl rfl) ?_ | refine zd rfl (zu qH rfl rfl rfl (by simp only [In]; omega)) ?_ | refine zd rfl (zz rfl rfl (by omega) (by omega) (by simp only [In]; omega)) ?_ | refine zd rfl (zA rfl rfl (by omega) (by omega)) ?_ | refine zd rfl (ze qH rfl) ?_ | refine zd rfl (zq rfl rfl rfl) ?_ | refine zJ rfl rfl rfl rfl ?_ | refine zb rfl rfl rfl rfl (Yld.sub rfl rfl (by simp only [In]; omega)) ?_ | refine zb rfl rfl rfl rfl (ze qH rfl) ?_ | refine zb rfl rfl rfl rfl (zq rfl rfl rfl) ?_)
 refine zE rfl (fun h=>?_) (fun h=>?_)
 ·simp only [decide_eq_true_eq] at h
  have hl0:l=[]:=List.length_eq_zero_iff.mp (by omega)
  have hx0:x=0:=by subst hl0; cases neg <;> simpa [val] using hz
  repeat (first | refine zg ?_ | refine WC.block ?_ | refine zc ?_ | refine zh ?_ | refine za ?_ | refine zt ?_ | refine zy ?_ | refine zx ?_ | refine zm ?_ | refine zi ?_ | refine zf ?_ | refine zn ?_ | refine zk ?_ | refine zl rfl ?_ | refine zv ?_ | refine zw ?_ | refine zj ?_ | refine zp ?_ | refine zo ?_ | refine zd rfl (Yld.add rfl rfl (by simp only [In]; omega)) ?_ | refine zd rfl (Yld.sub rfl rfl (by simp only [In]; omega)) ?_ | refine zd rfl (zr qH rfl rfl rfl rfl) ?_ | refine zd rfl (zu qH rfl rfl rfl (by simp only [In]; omega)) ?_ | refine zd rfl (zz rfl rfl (by omega) (by omega) (by simp only [In]; omega)) ?_ | refine zd rfl (zA rfl rfl (by omega) (by omega)) ?_ | refine zd rfl (ze qH rfl) ?_ | refine zd rfl (zq rfl rfl rfl) ?_ | refine zJ rfl rfl rfl rfl ?_ | refine zb rfl rfl rfl rfl (Yld.sub rfl rfl (by simp only [In]; omega)) ?_ | refine zb rfl rfl rfl rfl (ze qH rfl) ?_ | refine zb rfl rfl rfl rfl (zq rfl rfl rfl) ?_)
  exact zM rfl rfl ⟨by rw [hx0]; rfl,hg1⟩
 ·simp only [decide_eq_false_iff_not] at h
  have hl0:l≠[]:=fun e=>h (by rw [e]; rfl)
  have hpos:=val_pos hC hl0
  have hx0:x≠0:=by cases neg <;> simp at hz <;> omega
  have hR1:=hR.grown hg1
  repeat (first | refine zd rfl (zH qH hB1 rfl rfl rfl) ?_ | refine zg ?_ | refine WC.block ?_ | refine zc ?_ | refine zh ?_ | refine za ?_ | refine zt ?_ | refine zy ?_ | refine zx ?_ | refine zm ?_ | refine zi ?_ | refine zf ?_ | refine zn ?_ | refine zk ?_ | refine zl rfl ?_ | refine zv ?_ | refine zw ?_ | refine zj ?_ | refine zp ?_ | refine zo ?_ | refine zd rfl (Yld.add rfl rfl (by simp only [In]; omega)) ?_ | refine zd rfl (Yld.sub rfl rfl (by simp only [In]; omega)) ?_ | refine zd rfl (zr qH rfl rfl rfl rfl) ?_ | refine zd rfl (zu qH rfl rfl rfl (by simp only [In]; omega)) ?_ | refine zd rfl (zz rfl rfl (by omega) (by omega) (by simp only [In]; omega)) ?_ | refine zd rfl (zA rfl rfl (by omega) (by omega)) ?_ | refine zd rfl (ze qH rfl) ?_ | refine zd rfl (zq rfl rfl rfl) ?_ | refine zJ rfl rfl rfl rfl ?_ | refine zb rfl rfl rfl rfl (Yld.sub rfl rfl (by simp only [In]; omega)) ?_ | refine zb rfl rfl rfl rfl (ze qH rfl) ?_ | refine zb rfl rfl rfl rfl (zq rfl rfl rfl) ?_)
  refine WC.loop4 (S1:=Nat) (S2:=List UInt8) (S3:=Option Addr) (S4:=Nat) (fun i _ _ _=>l.length - i)
   (fun i b A' c'=>[(14,vi i),(13,.int .i64 (l.length:Int)),(12,.slice A l.length c),(3,.slice A' b.length c'),(1,.pointer (some ⟨g1,0,none⟩))])
   (fun i b A' c' w2=>i<=l.length/\b++dd (val (l.drop i))=dd (val l)/\b.length<=9*i/\Own vb w2 w1.heap.size 5 A' c' b/\w1.grownBy w2 none) 0 [] none 0 ⟨by omega,rfl,by simp,Own.nil _ _ _ _,qR _ _⟩ (by repeat (first | exact zS | refine Sub.cons rfl ?_)) (fun i b A' c' w2 ⟨hi,hb,hbl,hO,hg2⟩=>?_)
  have hR2:=hR1.grown hg2
  repeat (first | refine zg ?_ | refine WC.block ?_ | refine zc ?_ | refine zh ?_ | refine za ?_ | refine zt ?_ | refine zy ?_ | refine zx ?_ | refine zm ?_ | refine zi ?_ | refine zf ?_ | refine zn ?_ | refine zk ?_ | refine zl rfl ?_ | refine zv ?_ | refine zw ?_ | refine zj ?_ | refine zp ?_ | refine zo ?_ | refine zd rfl (Yld.add rfl rfl (by simp only [In]; omega)) ?_ | refine zd rfl (Yld.sub rfl rfl (by simp only [In]; omega)) ?_ | refine zd rfl (zr qH rfl rfl rfl rfl) ?_ | refine zd rfl (zu qH rfl rfl rfl (by simp only [In]; omega)) ?_ | refine zd rfl (zz rfl rfl (by omega) (by omega) (by simp only [In]; omega)) ?_ | refine zd rfl (zA rfl rfl (by omega) (by omega)) ?_ | refine zd rfl (ze qH rfl) ?_ | refine zd rfl (zq rfl rfl rfl) ?_ | refine zJ rfl rfl rfl rfl ?_ | refine zb rfl rfl rfl rfl (Yld.sub rfl rfl (by simp only [In]; omega)) ?_ | refine zb rfl rfl rfl rfl (ze qH rfl) ?_ | refine zb rfl rfl rfl rfl (zq rfl rfl rfl) ?_)
  refine zE rfl (fun h=>?_) (fun h=>?_)
  ·simp only [decide_eq_true_eq] at h
   have hxi:=hD i
   have hdc:=drop_cons' l i (by omega)
   have hyy:i+1<l.length↔0<val (l.drop (i+1)):=by
    have:=drop_pos hC (i+1)
    omega
   repeat (first | refine zd rfl (qr qH hR2 rfl rfl rfl rfl (by omega)) ?_ | refine zd rfl (zQ 0 qH hR2 rfl rfl (by omega)) ?_ | refine zg ?_ | refine WC.block ?_ | refine zc ?_ | refine zh ?_ | refine za ?_ | refine zt ?_ | refine zy ?_ | refine zx ?_ | refine zm ?_ | refine zi ?_ | refine zf ?_ | refine zn ?_ | refine zk ?_ | refine zl rfl ?_ | refine zv ?_ | refine zw ?_ | refine zj ?_ | refine zp ?_ | refine zo ?_ | refine zd rfl (Yld.add rfl rfl (by simp only [In]; omega)) ?_ | refine zd rfl (Yld.sub rfl rfl (by simp only [In]; omega)) ?_ | refine zd rfl (zr qH rfl rfl rfl rfl) ?_ | refine zd rfl (zu qH rfl rfl rfl (by simp only [In]; omega)) ?_ | refine zd rfl (zz rfl rfl (by omega) (by omega) (by simp only [In]; omega)) ?_ | refine zd rfl (zA rfl rfl (by omega) (by omega)) ?_ | refine zd rfl (ze qH rfl) ?_ | refine zd rfl (zq rfl rfl rfl) ?_ | refine zJ rfl rfl rfl rfl ?_ | refine zb rfl rfl rfl rfl (Yld.sub rfl rfl (by simp only [In]; omega)) ?_ | refine zb rfl rfl rfl rfl (ze qH rfl) ?_ | refine zb rfl rfl rfl rfl (zq rfl rfl rfl) ?_)
   generalize l.getD i 0=d at *
   generalize hY:val (l.drop (i+1))=y at *
   refine WC.loop5 (S1:=Nat) (S2:=Nat) (S3:=List UInt8) (S4:=Option Addr) (S5:=Nat) (fun k _ _ _ _=>9 - k)
    (fun k v b A' c'=>[(6,vi k),(5,vd v),(4,vi i),(14,vi i),(13,.int .i64 (l.length:Int)),(12,.slice A l.length c),(3,.slice A' b.length c'),(1,.pointer (some ⟨g1,0,none⟩))])
    (fun k v b A' c' w3=>k<=9/\v<10 ^ (9 - k)/\b++rest k v y=dd (val l)/\b.length<=9*i+k/\Own vb w3 w1.heap.size 5 A' c' b/\w1.grownBy w3 none) 0 d b A' c' ⟨by omega,by omega,by rw [<-rest_start d y hxi,<-hdc]; exact hb,by omega,hO,hg2⟩ (by repeat (first | exact zS | refine Sub.cons rfl ?_)) (fun k v b A' c' w3 ⟨hk,hv,hb3,hbl3,hO3,hg3⟩=>?_)
   have hB3:=hB1.keep hg3 (by simp)
   refine zg ?_
   refine WC.seqW [(32,.bool (decide (k<9/\(0<v∨0<y)))),(6,vi k),(5,vd v),(4,vi i),(14,vi i),(13,.int .i64 (l.length:Int)),(12,.slice A l.length c),(3,.slice A' b.length c'),(1,.pointer (some ⟨g1,0,none⟩))] (fun Q' hQ=>?_) ?_
   ·repeat (first | refine zg ?_ | refine WC.block ?_ | refine zc ?_ | refine zh ?_ | refine za ?_ | refine zt ?_ | refine zy ?_ | refine zx ?_ | refine zm ?_ | refine zi ?_ | refine zf ?_ | refine zn ?_ | refine zk ?_ | refine zl rfl ?_ | refine zv ?_ | refine zw ?_ | refine zj ?_ | refine zp ?_ | refine zo ?_ | refine zd rfl (Yld.add rfl rfl (by simp only [In]; omega)) ?_ | refine zd rfl (Yld.sub rfl rfl (by simp only [In]; omega)) ?_ | refine zd rfl (zr qH rfl rfl rfl rfl) ?_ | refine zd rfl (zu qH rfl rfl rfl (by simp only [In]; omega)) ?_ | refine zd rfl (zz rfl rfl (by omega) (by omega) (by simp only [In]; omega)) ?_ | refine zd rfl (zA rfl rfl (by omega) (by omega)) ?_ | refine zd rfl (ze qH rfl) ?_ | refine zd rfl (zq rfl rfl rfl) ?_ | refine zJ rfl rfl rfl rfl ?_ | refine zb rfl rfl rfl rfl (Yld.sub rfl rfl (by simp only [In]; omega)) ?_ | refine zb rfl rfl rfl rfl (ze qH rfl) ?_ | refine zb rfl rfl rfl rfl (zq rfl rfl rfl) ?_)
    rcases Nat.lt_or_ge k 9 with h9 | h9
    ·have e9:decide ((k:Int)<9)=true:=by simp; omega
     rw [e9]
     repeat (first | refine zb rfl rfl rfl rfl (zH qH hB3 rfl rfl rfl) ?_ | refine zg ?_ | refine WC.block ?_ | refine zc ?_ | refine zh ?_ | refine za ?_ | refine zt ?_ | refine zy ?_ | refine zx ?_ | refine zm ?_ | refine zi ?_ | refine zf ?_ | refine zn ?_ | refine zk ?_ | refine zl rfl ?_ | refine zv ?_ | refine zw ?_ | refine zj ?_ | refine zp ?_ | refine zo ?_ | refine zd rfl (Yld.add rfl rfl (by simp only [In]; omega)) ?_ | refine zd rfl (Yld.sub rfl rfl (by simp only [In]; omega)) ?_ | refine zd rfl (zr qH rfl rfl rfl rfl) ?_ | refine zd rfl (zu qH rfl rfl rfl (by simp only [In]; omega)) ?_ | refine zd rfl (zz rfl rfl (by omega) (by omega) (by simp only [In]; omega)) ?_ | refine zd rfl (zA rfl rfl (by omega) (by omega)) ?_ | refine zd rfl (ze qH rfl) ?_ | refine zd rfl (zq rfl rfl rfl) ?_ | refine zJ rfl rfl rfl rfl ?_ | refine zb rfl rfl rfl rfl (Yld.sub rfl rfl (by simp only [In]; omega)) ?_ | refine zb rfl rfl rfl rfl (ze qH rfl) ?_ | refine zb rfl rfl rfl rfl (zq rfl rfl rfl) ?_)
     rcases Nat.lt_or_ge (i+1) l.length with h8 | h8
     ·have e8:decide ((i:Int)<(l.length:Int) - 1)=true:=by simp; omega
      have ee:decide (k<9/\(0<v∨0<y))=true:=decide_eq_true ⟨h9,.inr (hyy.mp h8)⟩
      rw [e8]
      rw [ee] at hQ
      repeat (first | refine zg ?_ | refine WC.block ?_ | refine zc ?_ | refine zh ?_ | refine za ?_ | refine zt ?_ | refine zy ?_ | refine zx ?_ | refine zm ?_ | refine zi ?_ | refine zf ?_ | refine zn ?_ | refine zk ?_ | refine zl rfl ?_ | refine zv ?_ | refine zw ?_ | refine zj ?_ | refine zp ?_ | refine zo ?_ | refine zd rfl (Yld.add rfl rfl (by simp only [In]; omega)) ?_ | refine zd rfl (Yld.sub rfl rfl (by simp only [In]; omega)) ?_ | refine zd rfl (zr qH rfl rfl rfl rfl) ?_ | refine zd rfl (zu qH rfl rfl rfl (by simp only [In]; omega)) ?_ | refine zd rfl (zz rfl rfl (by omega) (by omega) (by simp only [In]; omega)) ?_ | refine zd rfl (zA rfl rfl (by omega) (by omega)) ?_ | refine zd rfl (ze qH rfl) ?_ | refine zd rfl (zq rfl rfl rfl) ?_ | refine zJ rfl rfl rfl rfl ?_ | refine zb rfl rfl rfl rfl (Yld.sub rfl rfl (by simp only [In]; omega)) ?_ | refine zb rfl rfl rfl rfl (ze qH rfl) ?_ | refine zb rfl rfl rfl rfl (zq rfl rfl rfl) ?_ | refine qn rfl rfl rfl rfl ?_)
      exact WX.weaken (by repeat (first | exact zS | refine Sub.cons rfl ?_)) hQ
     ·have e8:decide ((i:Int)<(l.length:Int) - 1)=false:=by simp; omega
      have hy0:¬ 0<y:=fun e=>by have:=hyy.mpr e; omega
      have ee:decide (k<9/\(0<v∨0<y))=decide ((0:Int)<(v:Int)):=by
       rw [decide_eq_decide]; omega
      rw [e8]
      rw [ee] at hQ
      repeat (first | refine zg ?_ | refine WC.block ?_ | refine zc ?_ | refine zh ?_ | refine za ?_ | refine zt ?_ | refine zy ?_ | refine zx ?_ | refine zm ?_ | refine zi ?_ | refine zf ?_ | refine zn ?_ | refine zk ?_ | refine zl rfl ?_ | refine zv ?_ | refine zw ?_ | refine zj ?_ | refine zp ?_ | refine zo ?_ | refine zd rfl (Yld.add rfl rfl (by simp only [In]; omega)) ?_ | refine zd rfl (Yld.sub rfl rfl (by simp only [In]; omega)) ?_ | refine zd rfl (zr qH rfl rfl rfl rfl) ?_ | refine zd rfl (zu qH rfl rfl rfl (by simp only [In]; omega)) ?_ | refine zd rfl (zz rfl rfl (by omega) (by omega) (by simp only [In]; omega)) ?_ | refine zd rfl (zA rfl rfl (by omega) (by omega)) ?_ | refine zd rfl (ze qH rfl) ?_ | refine zd rfl (zq rfl rfl rfl) ?_ | refine zJ rfl rfl rfl rfl ?_ | refine zb rfl rfl rfl rfl (Yld.sub rfl rfl (by simp only [In]; omega)) ?_ | refine zb rfl rfl rfl rfl (ze qH rfl) ?_ | refine zb rfl rfl rfl rfl (zq rfl rfl rfl) ?_ | refine qn rfl rfl rfl rfl ?_)
      exact WX.weaken (by repeat (first | exact zS | refine Sub.cons rfl ?_)) hQ
    ·have e9:decide ((k:Int)<9)=false:=by simp; omega
     have ee:decide (k<9/\(0<v∨0<y))=false:=decide_eq_false (by omega)
     rw [e9]
     rw [ee] at hQ
     repeat (first | refine zg ?_ | refine WC.block ?_ | refine zc ?_ | refine zh ?_ | refine za ?_ | refine zt ?_ | refine zy ?_ | refine zx ?_ | refine zm ?_ | refine zi ?_ | refine zf ?_ | refine zn ?_ | refine zk ?_ | refine zl rfl ?_ | refine zv ?_ | refine zw ?_ | refine zj ?_ | refine zp ?_ | refine zo ?_ | refine zd rfl (Yld.add rfl rfl (by simp only [In]; omega)) ?_ | refine zd rfl (Yld.sub rfl rfl (by simp only [In]; omega)) ?_ | refine zd rfl (zr qH rfl rfl rfl rfl) ?_ | refine zd rfl (zu qH rfl rfl rfl (by simp only [In]; omega)) ?_ | refine zd rfl (zz rfl rfl (by omega) (by omega) (by simp only [In]; omega)) ?_ | refine zd rfl (zA rfl rfl (by omega) (by omega)) ?_ | refine zd rfl (ze qH rfl) ?_ | refine zd rfl (zq rfl rfl rfl) ?_ | refine zJ rfl rfl rfl rfl ?_ | refine zb rfl rfl rfl rfl (Yld.sub rfl rfl (by simp only [In]; omega)) ?_ | refine zb rfl rfl rfl rfl (ze qH rfl) ?_ | refine zb rfl rfl rfl rfl (zq rfl rfl rfl) ?_ | refine qn rfl rfl rfl rfl ?_)
     exact WX.weaken (by repeat (first | exact zS | refine Sub.cons rfl ?_)) hQ
   ·repeat (first | refine zg ?_ | refine WC.block ?_ | refine zc ?_ | refine zh ?_ | refine za ?_ | refine zt ?_ | refine zy ?_ | refine zx ?_ | refine zm ?_ | refine zi ?_ | refine zf ?_ | refine zn ?_ | refine zk ?_ | refine zl rfl ?_ | refine zv ?_ | refine zw ?_ | refine zj ?_ | refine zp ?_ | refine zo ?_ | refine zd rfl (Yld.add rfl rfl (by simp only [In]; omega)) ?_ | refine zd rfl (Yld.sub rfl rfl (by simp only [In]; omega)) ?_ | refine zd rfl (zr qH rfl rfl rfl rfl) ?_ | refine zd rfl (zu qH rfl rfl rfl (by simp only [In]; omega)) ?_ | refine zd rfl (zz rfl rfl (by omega) (by omega) (by simp only [In]; omega)) ?_ | refine zd rfl (zA rfl rfl (by omega) (by omega)) ?_ | refine zd rfl (ze qH rfl) ?_ | refine zd rfl (zq rfl rfl rfl) ?_ | refine zJ rfl rfl rfl rfl ?_ | refine zb rfl rfl rfl rfl (Yld.sub rfl rfl (by simp only [In]; omega)) ?_ | refine zb rfl rfl rfl rfl (ze qH rfl) ?_ | refine zb rfl rfl rfl rfl (zq rfl rfl rfl) ?_)
    refine zE rfl (fun h'=>?_) (fun h'=>?_)
    ·have h':=of_decide_eq_true h'
     have hst:=rest_step k v y h'.1 h'.2
     have hv32:v<10 ^ 9:=Nat.lt_of_lt_of_le hv (Nat.pow_le_pow_right (by omega) (by omega))
     repeat (first | refine zg ?_ | refine WC.block ?_ | refine zc ?_ | refine zh ?_ | refine za ?_ | refine zt ?_ | refine zy ?_ | refine zx ?_ | refine zm ?_ | refine zi ?_ | refine zf ?_ | refine zn ?_ | refine zk ?_ | refine zl rfl ?_ | refine zv ?_ | refine zw ?_ | refine zj ?_ | refine zp ?_ | refine zo ?_ | refine zd rfl (Yld.add rfl rfl (by simp only [In]; omega)) ?_ | refine zd rfl (Yld.sub rfl rfl (by simp only [In]; omega)) ?_ | refine zd rfl (zr qH rfl rfl rfl rfl) ?_ | refine zd rfl (zu qH rfl rfl rfl (by simp only [In]; omega)) ?_ | refine zd rfl (zz rfl rfl (by omega) (by omega) (by simp only [In]; omega)) ?_ | refine zd rfl (zA rfl rfl (by omega) (by omega)) ?_ | refine zd rfl (ze qH rfl) ?_ | refine zd rfl (zq rfl rfl rfl) ?_ | refine zJ rfl rfl rfl rfl ?_ | refine zb rfl rfl rfl rfl (Yld.sub rfl rfl (by simp only [In]; omega)) ?_ | refine zb rfl rfl rfl rfl (ze qH rfl) ?_ | refine zb rfl rfl rfl rfl (zq rfl rfl rfl) ?_)
     have hd:(48:Int)+(v:Int) % 10=((dc v).toNat:Int):=by rw [dc_toNat]; omega
     have hq:(v:Int) / 10=((v / 10:Nat):Int):=by omega
     rw [hd]
     refine qg (us:=[vb (dc v)]) qH rfl rfl rfl (by intro u hu; rw [List.mem_singleton] at hu; rw [hu]; rfl) rfl (by omega) (fun g4 w4 hL4 hg4 hl4=>?_)
     have hR4:Rd vb w4 (some ⟨g4,0,none⟩) 1 [dc v]:=qE hL4 (by simp) (by simp [maxLen])
     have hO4:=hO3.grown hg4
     have hz3:=hg3.size
     have hz4:=hg4.size
     refine qo qH rfl rfl One.b hO4 rfl rfl hR4 rfl rfl (by simp only [List.length_cons,List.length_nil]; omega) (by simp only [maxLen,List.length_cons,List.length_nil]; omega) (by omega) (fun A5 c5 w5 hO5 hg5 hf5=>?_)
     repeat (first | refine zg ?_ | refine WC.block ?_ | refine zc ?_ | refine zh ?_ | refine za ?_ | refine zt ?_ | refine zy ?_ | refine zx ?_ | refine zm ?_ | refine zi ?_ | refine zf ?_ | refine zn ?_ | refine zk ?_ | refine zl rfl ?_ | refine zv ?_ | refine zw ?_ | refine zj ?_ | refine zp ?_ | refine zo ?_ | refine zd rfl (Yld.add rfl rfl (by simp only [In]; omega)) ?_ | refine zd rfl (Yld.sub rfl rfl (by simp only [In]; omega)) ?_ | refine zd rfl (zr qH rfl rfl rfl rfl) ?_ | refine zd rfl (zu qH rfl rfl rfl (by simp only [In]; omega)) ?_ | refine zd rfl (zz rfl rfl (by omega) (by omega) (by simp only [In]; omega)) ?_ | refine zd rfl (zA rfl rfl (by omega) (by omega)) ?_ | refine zd rfl (ze qH rfl) ?_ | refine zd rfl (zq rfl rfl rfl) ?_ | refine zJ rfl rfl rfl rfl ?_ | refine zb rfl rfl rfl rfl (Yld.sub rfl rfl (by simp only [In]; omega)) ?_ | refine zb rfl rfl rfl rfl (ze qH rfl) ?_ | refine zb rfl rfl rfl rfl (zq rfl rfl rfl) ?_)
     rw [hq]
     refine WX.round5 (k+1) (v / 10) (b++[dc v]) A5 c5 ⟨by omega,?_,?_,by simp; omega,hO5,gr_own (qI hg3 hg4) hO4 hg5 (Nat.le_refl _)⟩ (by omega) (by repeat (first | exact zS | refine Sub.cons rfl ?_))
     ·rw [show 9 - k=(9 - (k+1))+1 by omega,Nat.pow_succ] at hv
      omega
     ·rw [List.append_assoc,<-hb3,hst]; rfl
    ·have h':=of_decide_eq_false h'
     have hen:=rest_end k v y hk hv h'
     repeat (first | refine zg ?_ | refine WC.block ?_ | refine zc ?_ | refine zh ?_ | refine za ?_ | refine zt ?_ | refine zy ?_ | refine zx ?_ | refine zm ?_ | refine zi ?_ | refine zf ?_ | refine zn ?_ | refine zk ?_ | refine zl rfl ?_ | refine zv ?_ | refine zw ?_ | refine zj ?_ | refine zp ?_ | refine zo ?_ | refine zd rfl (Yld.add rfl rfl (by simp only [In]; omega)) ?_ | refine zd rfl (Yld.sub rfl rfl (by simp only [In]; omega)) ?_ | refine zd rfl (zr qH rfl rfl rfl rfl) ?_ | refine zd rfl (zu qH rfl rfl rfl (by simp only [In]; omega)) ?_ | refine zd rfl (zz rfl rfl (by omega) (by omega) (by simp only [In]; omega)) ?_ | refine zd rfl (zA rfl rfl (by omega) (by omega)) ?_ | refine zd rfl (ze qH rfl) ?_ | refine zd rfl (zq rfl rfl rfl) ?_ | refine zJ rfl rfl rfl rfl ?_ | refine zb rfl rfl rfl rfl (Yld.sub rfl rfl (by simp only [In]; omega)) ?_ | refine zb rfl rfl rfl rfl (ze qH rfl) ?_ | refine zb rfl rfl rfl rfl (zq rfl rfl rfl) ?_)
     refine WX.round4 (i+1) b A' c' ⟨by omega,by rw [hY,<-hen]; exact hb3,by omega,hO3,hg3⟩ (by omega) (by repeat (first | exact zS | refine Sub.cons rfl ?_))
  ·simp only [decide_eq_false_iff_not] at h
   obtain rfl:i=l.length:=by omega
   rw [List.drop_eq_nil_of_le (Nat.le_refl _)] at hb
   have hb':b=dd (val l):=by simpa [val,dd_zero] using hb
   have hB2:=hB1.keep hg2 (by simp)
   repeat (first | refine zd rfl (zH qH hB2 rfl rfl rfl) ?_ | refine zg ?_ | refine WC.block ?_ | refine zc ?_ | refine zh ?_ | refine za ?_ | refine zt ?_ | refine zy ?_ | refine zx ?_ | refine zm ?_ | refine zi ?_ | refine zf ?_ | refine zn ?_ | refine zk ?_ | refine zl rfl ?_ | refine zv ?_ | refine zw ?_ | refine zj ?_ | refine zp ?_ | refine zo ?_ | refine zd rfl (Yld.add rfl rfl (by simp only [In]; omega)) ?_ | refine zd rfl (Yld.sub rfl rfl (by simp only [In]; omega)) ?_ | refine zd rfl (zr qH rfl rfl rfl rfl) ?_ | refine zd rfl (zu qH rfl rfl rfl (by simp only [In]; omega)) ?_ | refine zd rfl (zz rfl rfl (by omega) (by omega) (by simp only [In]; omega)) ?_ | refine zd rfl (zA rfl rfl (by omega) (by omega)) ?_ | refine zd rfl (ze qH rfl) ?_ | refine zd rfl (zq rfl rfl rfl) ?_ | refine zJ rfl rfl rfl rfl ?_ | refine zb rfl rfl rfl rfl (Yld.sub rfl rfl (by simp only [In]; omega)) ?_ | refine zb rfl rfl rfl rfl (ze qH rfl) ?_ | refine zb rfl rfl rfl rfl (zq rfl rfl rfl) ?_)
   have hval:x.natAbs=val l:=by cases neg <;> simp at hz <;> omega
   refine WC.mergeW (S:=List UInt8 × Option Addr × Nat) (fun s=>[(3,.slice s.2.1 s.1.length s.2.2)]) (fun s w'=>s.1=dd (val l)++(if x<0 then [45] else [])/\Own vb w' w1.heap.size 5 s.2.1 s.2.2 s.1/\w1.grownBy w' none) rfl (fun h Q' hQ=>?_) (fun h Q' hQ=>?_) ?_
   ·subst h
    have hneg:x<0:=by simp at hz; omega
    repeat (first | refine zg ?_ | refine WC.block ?_ | refine zc ?_ | refine zh ?_ | refine za ?_ | refine zt ?_ | refine zy ?_ | refine zx ?_ | refine zm ?_ | refine zi ?_ | refine zf ?_ | refine zn ?_ | refine zk ?_ | refine zl rfl ?_ | refine zv ?_ | refine zw ?_ | refine zj ?_ | refine zp ?_ | refine zo ?_ | refine zd rfl (Yld.add rfl rfl (by simp only [In]; omega)) ?_ | refine zd rfl (Yld.sub rfl rfl (by simp only [In]; omega)) ?_ | refine zd rfl (zr qH rfl rfl rfl rfl) ?_ | refine zd rfl (zu qH rfl rfl rfl (by simp only [In]; omega)) ?_ | refine zd rfl (zz rfl rfl (by omega) (by omega) (by simp only [In]; omega)) ?_ | refine zd rfl (zA rfl rfl (by omega) (by omega)) ?_ | refine zd rfl (ze qH rfl) ?_ | refine zd rfl (zq rfl rfl rfl) ?_ | refine zJ rfl rfl rfl rfl ?_ | refine zb rfl rfl rfl rfl (Yld.sub rfl rfl (by simp only [In]; omega)) ?_ | refine zb rfl rfl rfl rfl (ze qH rfl) ?_ | refine zb rfl rfl rfl rfl (zq rfl rfl rfl) ?_)
    refine qg (us:=[vb 45]) qH rfl rfl rfl (by intro u hu; rw [List.mem_singleton] at hu; rw [hu]; rfl) rfl (by omega) (fun g4 w4 hL4 hg4 hl4=>?_)
    have hR4:Rd vb w4 (some ⟨g4,0,none⟩) 1 [45]:=qE hL4 (by simp) (by simp [maxLen])
    have hO4:=hO.grown hg4
    have hz3:=hg2.size
    have hz4:=hg4.size
    refine qo qH rfl rfl One.b hO4 rfl rfl hR4 rfl rfl (by simp only [List.length_cons,List.length_nil]; omega) (by simp only [maxLen,List.length_cons,List.length_nil]; omega) (by omega) (fun A5 c5 w5 hO5 hg5 hf5=>?_)
    repeat (first | refine zg ?_ | refine WC.block ?_ | refine zc ?_ | refine zh ?_ | refine za ?_ | refine zt ?_ | refine zy ?_ | refine zx ?_ | refine zm ?_ | refine zi ?_ | refine zf ?_ | refine zn ?_ | refine zk ?_ | refine zl rfl ?_ | refine zv ?_ | refine zw ?_ | refine zj ?_ | refine zp ?_ | refine zo ?_ | refine zd rfl (Yld.add rfl rfl (by simp only [In]; omega)) ?_ | refine zd rfl (Yld.sub rfl rfl (by simp only [In]; omega)) ?_ | refine zd rfl (zr qH rfl rfl rfl rfl) ?_ | refine zd rfl (zu qH rfl rfl rfl (by simp only [In]; omega)) ?_ | refine zd rfl (zz rfl rfl (by omega) (by omega) (by simp only [In]; omega)) ?_ | refine zd rfl (zA rfl rfl (by omega) (by omega)) ?_ | refine zd rfl (ze qH rfl) ?_ | refine zd rfl (zq rfl rfl rfl) ?_ | refine zJ rfl rfl rfl rfl ?_ | refine zb rfl rfl rfl rfl (Yld.sub rfl rfl (by simp only [In]; omega)) ?_ | refine zb rfl rfl rfl rfl (ze qH rfl) ?_ | refine zb rfl rfl rfl rfl (zq rfl rfl rfl) ?_)
    exact WX.weaken (by repeat (first | exact zS | refine Sub.cons rfl ?_)) (hQ (_,A5,c5) w5 ⟨by rw [if_pos hneg,hb'],hO5,gr_own (qI hg2 hg4) hO4 hg5 (Nat.le_refl _)⟩)
   ·subst h
    have hneg:¬ x<0:=by simp at hz; omega
    repeat (first | refine zg ?_ | refine WC.block ?_ | refine zc ?_ | refine zh ?_ | refine za ?_ | refine zt ?_ | refine zy ?_ | refine zx ?_ | refine zm ?_ | refine zi ?_ | refine zf ?_ | refine zn ?_ | refine zk ?_ | refine zl rfl ?_ | refine zv ?_ | refine zw ?_ | refine zj ?_ | refine zp ?_ | refine zo ?_ | refine zd rfl (Yld.add rfl rfl (by simp only [In]; omega)) ?_ | refine zd rfl (Yld.sub rfl rfl (by simp only [In]; omega)) ?_ | refine zd rfl (zr qH rfl rfl rfl rfl) ?_ | refine zd rfl (zu qH rfl rfl rfl (by simp only [In]; omega)) ?_ | refine zd rfl (zz rfl rfl (by omega) (by omega) (by simp only [In]; omega)) ?_ | refine zd rfl (zA rfl rfl (by omega) (by omega)) ?_ | refine zd rfl (ze qH rfl) ?_ | refine zd rfl (zq rfl rfl rfl) ?_ | refine zJ rfl rfl rfl rfl ?_ | refine zb rfl rfl rfl rfl (Yld.sub rfl rfl (by simp only [In]; omega)) ?_ | refine zb rfl rfl rfl rfl (ze qH rfl) ?_ | refine zb rfl rfl rfl rfl (zq rfl rfl rfl) ?_)
    exact WX.weaken (by repeat (first | exact zS | refine Sub.cons rfl ?_)) (hQ (_,A',c') w2 ⟨by rw [if_neg hneg,hb']; simp,hO,hg2⟩)
   ·rintro ⟨b2,A2,c2⟩ w3 ⟨he,hO3,hg3⟩
    simp only at he hO3
    repeat (first | refine zg ?_ | refine WC.block ?_ | refine zc ?_ | refine zh ?_ | refine za ?_ | refine zt ?_ | refine zy ?_ | refine zx ?_ | refine zm ?_ | refine zi ?_ | refine zf ?_ | refine zn ?_ | refine zk ?_ | refine zl rfl ?_ | refine zv ?_ | refine zw ?_ | refine zj ?_ | refine zp ?_ | refine zo ?_ | refine zd rfl (Yld.add rfl rfl (by simp only [In]; omega)) ?_ | refine zd rfl (Yld.sub rfl rfl (by simp only [In]; omega)) ?_ | refine zd rfl (zr qH rfl rfl rfl rfl) ?_ | refine zd rfl (zu qH rfl rfl rfl (by simp only [In]; omega)) ?_ | refine zd rfl (zz rfl rfl (by omega) (by omega) (by simp only [In]; omega)) ?_ | refine zd rfl (zA rfl rfl (by omega) (by omega)) ?_ | refine zd rfl (ze qH rfl) ?_ | refine zd rfl (zq rfl rfl rfl) ?_ | refine zJ rfl rfl rfl rfl ?_ | refine zb rfl rfl rfl rfl (Yld.sub rfl rfl (by simp only [In]; omega)) ?_ | refine zb rfl rfl rfl rfl (ze qH rfl) ?_ | refine zb rfl rfl rfl rfl (zq rfl rfl rfl) ?_)
    refine zK rfl rfl (reverse_fn A2 c2 _ b2 w3 hO3) ?_
    rintro _ w4 ⟨rfl,hO4,hg4⟩
    repeat (first | refine zd rfl (Yld.b2s qH hO4.rd rfl rfl rfl rfl (by simp)) ?_ | refine zg ?_ | refine WC.block ?_ | refine zc ?_ | refine zh ?_ | refine za ?_ | refine zt ?_ | refine zy ?_ | refine zx ?_ | refine zm ?_ | refine zi ?_ | refine zf ?_ | refine zn ?_ | refine zk ?_ | refine zl rfl ?_ | refine zv ?_ | refine zw ?_ | refine zj ?_ | refine zp ?_ | refine zo ?_ | refine zd rfl (Yld.add rfl rfl (by simp only [In]; omega)) ?_ | refine zd rfl (Yld.sub rfl rfl (by simp only [In]; omega)) ?_ | refine zd rfl (zr qH rfl rfl rfl rfl) ?_ | refine zd rfl (zu qH rfl rfl rfl (by simp only [In]; omega)) ?_ | refine zd rfl (zz rfl rfl (by omega) (by omega) (by simp only [In]; omega)) ?_ | refine zd rfl (zA rfl rfl (by omega) (by omega)) ?_ | refine zd rfl (ze qH rfl) ?_ | refine zd rfl (zq rfl rfl rfl) ?_ | refine zJ rfl rfl rfl rfl ?_ | refine zb rfl rfl rfl rfl (Yld.sub rfl rfl (by simp only [In]; omega)) ?_ | refine zb rfl rfl rfl rfl (ze qH rfl) ?_ | refine zb rfl rfl rfl rfl (zq rfl rfl rfl) ?_)
    refine zM rfl rfl ⟨?_,qI hg1 (gr_own hg3 hO3 hg4 (Nat.le_refl _))⟩
    unfold txt
    rw [if_neg hx0,hval,he,List.reverse_append]
    split <;> rfl
end
 
section
open Go Go.RowKit
abbrev RNum (K:Int->Nat->Prop) (w:World) (v:Value) (w':World):Prop:=w.grownBy w' none/\∃ (a b:Value) (z:Int) (m:Nat),v=.agg ⟨[a,b]⟩/\Nm w' (.agg ⟨[a,b]⟩) z m/\a.oneCell'=true/\b.oneCell'=true/\K z m
theorem rnum {K:Int->Nat->Prop} {w w':World} {v:Value} {z:Int} {m:Nat} (h:Nm w' v z m) (hg:w.grownBy w' none) (H:K z m):RNum K w v w':=by
 obtain ⟨a,b,rfl,ha,hb⟩:=h.agg
 exact ⟨hg,a,b,z,m,rfl,h,ha,hb,H⟩
def M_num_Num_Add (x:Int) (m:Nat) (y:Int) (k:Nat) (K:Int->Nat->Prop):Prop:=max m k<=900000/\K (x+y) (max m k+1)
theorem W_num_Num_Add {w:World} {a b c d:Value} {x y:Int} {m k:Nat} {K:Int->Nat->Prop} (h1:Nm w (.agg ⟨[a,b]⟩) x m) (h2:Nm w (.agg ⟨[c,d]⟩) y k) (H:M_num_Num_Add x m y k K):Fn Tryz.prog 109 ⟨[.agg ⟨[a,b]⟩,.agg ⟨[c,d]⟩]⟩ w (RNum K w) :=
 (add_fn _ _ x y (max m k) w (h1.mono (by omega)) (h2.mono (by omega)) H.1).mono fun _ _ ⟨hN,hg⟩=>rnum hN hg H.2
def ks (x:Int) (m:Nat) (y:Int) (k:Nat) (K:Int->Nat->Prop):Prop:=max m k<=900000/\K (x - y) (max m k+1)
theorem jl {w:World} {a b c d:Value} {x y:Int} {m k:Nat} {K:Int->Nat->Prop} (h1:Nm w (.agg ⟨[a,b]⟩) x m) (h2:Nm w (.agg ⟨[c,d]⟩) y k) (H:ks x m y k K):Fn Tryz.prog 106 ⟨[.agg ⟨[a,b]⟩,.agg ⟨[c,d]⟩]⟩ w (RNum K w) :=
 (sub_fn _ _ x y (max m k) w (h1.mono (by omega)) (h2.mono (by omega)) H.1).mono fun _ _ ⟨hN,hg⟩=>rnum hN hg H.2
def M_num_Num_Neg (x:Int) (m:Nat) (K:Int->Nat->Prop):Prop:=m<=1000000/\K (-x) m
theorem W_num_Num_Neg {w:World} {a b:Value} {x:Int} {m:Nat} {K:Int->Nat->Prop} (h1:Nm w (.agg ⟨[a,b]⟩) x m) (H:M_num_Num_Neg x m K):Fn Tryz.prog 107 ⟨[.agg ⟨[a,b]⟩]⟩ w (RNum K w) :=
 (neg_fn _ x m w h1 H.1).mono fun _ _ ⟨hN,hg⟩=>rnum hN hg H.2
def ki (n:Int) (K:Int->Nat->Prop):Prop := -9223372036854775808<=n/\n<=9223372036854775807/\K n 3
theorem W_num_Of {w:World} {n:Int} {K:Int->Nat->Prop} (H:ki n K):Fn Tryz.prog 37 ⟨[.int .i64 n]⟩ w (RNum K w) :=
 (of_fn n w H.1 H.2.1).mono fun _ _ ⟨hN,hg⟩=>rnum hN hg H.2.2
def jJ (x:Int) (m:Nat) (y:Int) (k:Nat) (K:Int->Prop):Prop:=max m k<=900000/\K (if x<y then -1 else if y<x then 1 else 0)
theorem jS {w:World} {a b c d:Value} {x y:Int} {m k:Nat} {K:Int->Prop} (h1:Nm w (.agg ⟨[a,b]⟩) x m) (h2:Nm w (.agg ⟨[c,d]⟩) y k) (H:jJ x m y k K):Fn Tryz.prog 105 ⟨[.agg ⟨[a,b]⟩,.agg ⟨[c,d]⟩]⟩ w (fun v w'=>w.grownBy w' none/\∃ r:Int,v=.int .i64 r/\K r) :=
 (ncmp_fn _ _ x y (max m k) w (h1.mono (by omega)) (h2.mono (by omega)) H.1).mono fun _ _ ⟨hv,hg⟩=>⟨hg,_,hv,H.2⟩
def kh (x:Int) (m:Nat) (K:List UInt8->Prop):Prop:=m<=90000/\K (txt x)
theorem W_num_Num_Text {w:World} {a b:Value} {x:Int} {m:Nat} {K:List UInt8->Prop} (h1:Nm w (.agg ⟨[a,b]⟩) x m) (H:kh x m K):Fn Tryz.prog 48 ⟨[.agg ⟨[a,b]⟩]⟩ w (fun v w'=>w.grownBy w' none/\∃ r:List UInt8,v=vs r/\K r) :=
 (text_fn _ x m w h1 H.1).mono fun _ _ ⟨hv,hg⟩=>⟨hg,_,hv,H.2⟩
def M_num_Num_Div (x:Int) (m:Nat) (y:Int) (k:Nat) (K:Int->Nat->Bool->Prop):Prop:=max m k<=90000/\∀ z,(y≠0->∃ r,Floor x y z r)->(y=0->z=0)->K z (max m k+4) (!decide (y=0))
theorem jT {w:World} {a b c d:Value} {x y:Int} {m k:Nat} {K:Int->Nat->Bool->Prop} (h1:Nm w (.agg ⟨[a,b]⟩) x m) (h2:Nm w (.agg ⟨[c,d]⟩) y k) (H:M_num_Num_Div x m y k K):Fn Tryz.prog 108 ⟨[.agg ⟨[a,b]⟩,.agg ⟨[c,d]⟩]⟩ w
  (fun v w'=>w.grownBy w' none/\∃ (a b:Value) (z:Int) (m:Nat) (r:Bool),v=.tuple #[.agg ⟨[a,b]⟩,.bool r]/\Nm w' (.agg ⟨[a,b]⟩) z m/\a.oneCell'=true/\b.oneCell'=true/\K z m r) :=
 (div_fn _ _ x y (max m k) w (h1.mono (by omega)) (h2.mono (by omega)) H.1).mono fun _ _ ⟨⟨u,uz,hv,hN,hf⟩,hg⟩=>by
  obtain ⟨a,b,rfl,ha,hb⟩:=hN.agg
  exact ⟨hg,a,b,uz,_,_,hv,hN,ha,hb,H.2 uz hf.1 hf.2⟩
def M_num_Num_Mod (x:Int) (m:Nat) (y:Int) (k:Nat) (K:Int->Nat->Bool->Prop):Prop:=max m k<=90000/\∀ z,(y≠0->∃ q,Floor x y q z)->(y=0->z=0)->K z (max m k+4) (!decide (y=0))
theorem W_num_Num_Mod {w:World} {a b c d:Value} {x y:Int} {m k:Nat} {K:Int->Nat->Bool->Prop} (h1:Nm w (.agg ⟨[a,b]⟩) x m) (h2:Nm w (.agg ⟨[c,d]⟩) y k) (H:M_num_Num_Mod x m y k K):Fn Tryz.prog 195 ⟨[.agg ⟨[a,b]⟩,.agg ⟨[c,d]⟩]⟩ w
  (fun v w'=>w.grownBy w' none/\∃ (a b:Value) (z:Int) (m:Nat) (r:Bool),v=.tuple #[.agg ⟨[a,b]⟩,.bool r]/\Nm w' (.agg ⟨[a,b]⟩) z m/\a.oneCell'=true/\b.oneCell'=true/\K z m r) :=
 (mod_fn _ _ x y (max m k) w (h1.mono (by omega)) (h2.mono (by omega)) H.1).mono fun _ _ ⟨⟨u,uz,hv,hN,hf⟩,hg⟩=>by
  obtain ⟨a,b,rfl,ha,hb⟩:=hN.agg
  exact ⟨hg,a,b,uz,_,_,hv,hN,ha,hb,H.2 uz hf.1 hf.2⟩
def M_num_Num_Int (x:Int) (m:Nat) (K:Int->Bool->Prop):Prop:=m<=90000/\(In64 x->K x true)/\(¬ In64 x->K 0 false)
theorem W_num_Num_Int {w:World} {a b:Value} {x:Int} {m:Nat} {K:Int->Bool->Prop} (h1:Nm w (.agg ⟨[a,b]⟩) x m) (H:M_num_Num_Int x m K):Fn Tryz.prog 110 ⟨[.agg ⟨[a,b]⟩]⟩ w (fun v w'=>w.grownBy w' none/\∃ (r:Int) (s:Bool),v=.tuple #[.int .i64 r,.bool s]/\K r s) :=
 (int_fn _ x m w h1 H.1).mono fun _ _ ⟨hv,hg⟩=>by
  rcases hv with ⟨h,rfl⟩ | ⟨h,rfl⟩
  ·exact ⟨hg,_,_,rfl,H.2.1 h⟩
  ·exact ⟨hg,_,_,rfl,H.2.2 h⟩
theorem Nm.zero {w:World}:Nm w (.agg ⟨[.bool false,.slice none 0 0]⟩) 0 0:=⟨false,none,0,[],rfl,Rd.nil _ _ (by simp [maxLen]),fun i=>by simp,by simp [Can],by simp,(fun h=>by cases h),rfl⟩
end
 
section
open Go Go.RowKit
section
variable {P:Program} {N:Nat} {ops:Array Oper} {Q:Post} {L:qP} {w:World} {rest:List Oper} {d:Nat} {ty:TypeId} {pos:String} {af:Array Edge}
def Mth (P:Program) (t:TypeId) (u:Value) (m:String) (g:FuncId) (rv:Value):Prop:=∀ w,(method (P.types.size+Made.depth) t u m).run P w=.ok (g,rv) w
theorem qy {R:Value->World->Prop} {g:FuncId} {t:TypeId} {u rv:Value} {r:Operand} {m:String} {aa:List Operand} {ts:Array TypeId} {vs:List Value} (hd:Nat.blt d N=true) (hr:opv L r=some (.iface t u)) (hM:Mth P t u m g rv) (hv:opvs L aa=some vs) (hf:Fn P g ⟨rv :: vs⟩ w R)
  (hk:∀ v w',R v w'->WL P N ops Q rest ((d,v) :: L) w'):WL P N ops Q (⟨some d,.call ⟨.invoke r m,⟨aa⟩,ts⟩,ty,pos,af,none⟩ :: rest) L w:=fun a w1 e ha =>
 wpList_plain rfl fun K hK=>by
  have hm:(⟨aa⟩:Array Operand).map a.eval=⟨vs⟩:=by rw [<-ha.evs hv]; simp
  obtain ⟨hgo,hC⟩:=hf
  unfold goesIn at hgo
  split at hgo
  ·rename_i fn hfn
   simp only [Bool.and_eq_true,Bool.not_eq_true'] at hgo
   have hnone:fn.body.isNone=false:=by cases hb:fn.body <;> simp_all
   have hrun:(execOp a.eval ⟨some d,.call ⟨.invoke r m,⟨aa⟩,ts⟩,ty,pos,af,none⟩).run P w1=.ok (.enter g ⟨rv :: vs⟩) w1:=by
    have h1:=hM w1
    have e1:(#[Value.iface t u]++(⟨vs⟩:Array Value)).extract 1 (#[Value.iface t u]++(⟨vs⟩:Array Value)).size=⟨vs⟩:=by
     apply Array.ext'
     simp
    have e2:(#[Value.iface t u]++(⟨vs⟩:Array Value))[0]? = some (Value.iface t u):=by simp
    have e3 : #[rv]++(⟨vs⟩:Array Value)=⟨rv :: vs⟩:=by simp
    unfold execOp
    simp only [resolve,Sem.run_bind,Sem.run_pure,Result.andThen_ok,hm,ha.ev hr]
    simp only [invoke,e2,e1,callMethod,Sem.run_bind,program,Sem.run,Result.andThen_ok]
    rw [h1]
    simp only [Result.andThen_ok,e3,callFunc,Sem.run_bind,program,Sem.run,hfn,hgo.1,hnone,Bool.false_eq_true,if_false]
    simp
   unfold Oper.wp
   rw [hrun]
   refine (hC w1 e).mono ?_
   rintro en w' ⟨v,w0,rfl,h0,hR⟩
   exact hK _ _ (hk v w0 hR _ w' h0 (ha.put hd v))
  ·cases hgo
end
section
variable {P:Program} {N:Nat} {L:qP} {w:World} {ty:TypeId} {pos:String} {af:Array Edge}
theorem assertOneV {ta tx:TypeId} {D:TypeDesc} {x:Operand} {v:OV} {u:Value} {dd:Option Tmp} (hu:P.underlying ta=some D) (hd:notIface D=true) (hx:opv L x=some v.1) (hv:v.1=.iface ta u):Yld P N w ⟨dd,.typeAssert x tx ta false,ty,pos,af,none⟩ L u:=fun a w1 _ ha=>by
 have hx':=ha.ev hx
 rw [hv] at hx'
 simp only [execOp,Instr.typeAssert,Sem.run_bind,run_underlying hu,hx',Result.andThen_ok]
 cases D <;> first | (simp [notIface] at hd; done) | simp
end
section
variable {P:Program} {N:Nat} {L:qP} {w:World} {ty:TypeId} {pos:String} {af:Array Edge} {dd:Option Tmp} {ta tx t':TypeId} {x:Operand} {u z:Value} {D:TypeDesc}
theorem assertNoX (hu:P.underlying ta=some D) (hd:notIface D=true) (hz:∀ w,(zeroValue ta).run P w=.ok z w) (hx:opv L x=some (.iface t' u)) (hn:Nat.beq t' ta=false):Yld P N w ⟨dd,.typeAssert x tx ta true,ty,pos,af,none⟩ L (.tuple #[z,.bool false]):=fun a w1 _ ha=>by
 have hx':=ha.ev hx
 have hne:t'≠ta:=Nat.ne_of_beq_eq_false hn
 simp only [execOp,Instr.typeAssert,Sem.run_bind,run_underlying hu,hx',Result.andThen_ok]
 cases D <;> first | (simp [notIface] at hd; done) | simp [hz,hne]
def lacksX (P:Program) (want:Array (String × TypeId)) (t:TypeId):Bool:=match P.info? t with
 | some i=>lacks1 want i.methods
 | none=>false
theorem assertNoIX {want:Array (String × TypeId)} (hu:P.underlying ta=some (.interface want)) (hz:∀ w,(zeroValue ta).run P w=.ok z w) (hm:lacksX P want t'=true) (hx:opv L x=some (.iface t' u)):Yld P N w ⟨dd,.typeAssert x tx ta true,ty,pos,af,none⟩ L (.tuple #[z,.bool false]):=fun a w1 _ ha=>by
 have hx':=ha.ev hx
 unfold lacksX at hm
 split at hm
 ·rename_i i hi
  replace this:=lacks1_ok hm
  cases hq:Instr.missingMethod want i.methods with
  | none=>rw [hq] at this; cases this
  | some m=>simp [execOp,Instr.typeAssert,run_underlying hu,hx',typeInfo,hi,hq,hz]
 ·cases hm
def hasX (P:Program) (want:Array (String × TypeId)) (t:TypeId):Bool:=match P.info? t with
 | some i => !lacks1 want i.methods
 | none=>false
theorem hasX_ok {want:Array (String × TypeId)} {got:Array Method} (h:lacks1 want got=false):Instr.missingMethod want got=none:=by
 unfold lacks1 at h
 simp only [Bool.not_eq_false',List.isEmpty_iff] at h
 unfold Instr.missingMethod
 simp [List.partition_eq_filter_filter,h,Instr.least]
theorem assertYesIX {want:Array (String × TypeId)} (hu:P.underlying ta=some (.interface want)) (hm:hasX P want t'=true) (hx:opv L x=some (.iface t' u)):Yld P N w ⟨dd,.typeAssert x tx ta true,ty,pos,af,none⟩ L (.tuple #[.iface t' u,.bool true]):=fun a w1 _ ha=>by
 have hx':=ha.ev hx
 unfold hasX at hm
 split at hm
 ·rename_i i hi
  have:=hasX_ok (by simpa using hm)
  simp [execOp,Instr.typeAssert,run_underlying hu,hx',typeInfo,hi,this]
 ·cases hm
end
section
variable {P:Program} {N:Nat} {ops:Array Oper} {fl:Nat->Bool} {D:Nat->World->Prop} {Q:Post} {rest:List Oper} {k d:Nat} {L:qP} {w:World} {ty:TypeId} {pos:String} {af:Array Edge} {gd:Option (Nat × Bool)}
theorem WJ.callvw {R:Value->World->Prop} {g:FuncId} {x:Operand} {ao:List Operand} {ts:Array TypeId} {vs cs:List Value} (hf:fl k=false) (hg:Wants N ops L gd) (hd:Nat.blt d N=true) (hx:opv L x=some (.func (.func g) #[] ⟨cs⟩)) (hv:opvs L ao=some vs) (hc:Fn P g ⟨vs++cs⟩ w R) (hD:∀ v w',R v w'->∀ w2,Eqv w' w2->DD .any ops fl D k w2)
  (hk:∀ v w',R v w'->WJ P N ops fl D Q rest (k+1) ((d,v) :: L) w'):WJ P N ops fl D Q (⟨some d,.call ⟨.value x,⟨ao⟩,ts⟩,ty,pos,af,gd⟩ :: rest) k L w:=fun a w1 e ha=>by
 unfold wpJ
 rw [hf]
 show sRun _ _ _ _ _ _ _
 unfold sRun
 rw [if_pos (Wants.wanted (o:=⟨some d,.call ⟨.value x,⟨ao⟩,ts⟩,ty,pos,af,gd⟩) hg ha),show execOp a.eval ⟨some d,.call ⟨.value x,⟨ao⟩,ts⟩,ty,pos,af,gd⟩=execOp a.eval ⟨some d,.call ⟨.value x,⟨ao⟩,ts⟩,ty,pos,af,none⟩ from rfl,run_callv ha hc.1 hx hv]
 refine (hc.2 w1 e).mono ?_
 rintro en w' ⟨v,w0,rfl,h0,hR⟩
 exact ⟨v,rfl,hD v w0 hR w' h0,hk v w0 hR _ w' h0 (ha.put hd v)⟩
end
def kindP:PV->Int
 | .nil=>0
 | .none=>1
 | .int _=>3
 | .emp=>5
 | .tup _=>6
section
attribute [local irreducible] WL WC WX WQ WK WJ Yld Eff Ef0 Fn
theorem kindL_fn {w:World} {u:Value}:Fn Tryz.prog 256 ⟨[u]⟩ w (fun r w'=>w.grownBy w' none/\r=.int .i64 5):=by
 refine Fn.enter (by kernel_rfl) Tryz.func256 rfl Tryz.ntmps256 rfl ?_
 repeat refine zg ?_
 refine zc ?_
 refine zd rfl (ze qH rfl) ?_
 refine zh (za ?_)
 repeat refine zg ?_
 refine zc ?_
 refine zd rfl (ze qH rfl) ?_
 refine zh (za ?_)
 refine zx ?_
 exact zM rfl rfl ⟨qR _ _,rfl⟩
theorem kindT_fn {w:World} {u:Value}:Fn Tryz.prog 259 ⟨[u]⟩ w (fun r w'=>w.grownBy w' none/\r=.int .i64 6):=by
 refine Fn.enter (by kernel_rfl) Tryz.func259 rfl Tryz.ntmps259 rfl ?_
 repeat refine zg ?_
 refine zc ?_
 refine zd rfl (ze qH rfl) ?_
 refine zh (za ?_)
 repeat refine zg ?_
 refine zc ?_
 refine zd rfl (ze qH rfl) ?_
 refine zh (za ?_)
 refine zx ?_
 exact zM rfl rfl ⟨qR _ _,rfl⟩
theorem kindI_fn {w:World} {a b:Value} (ha:a.oneCell'=true) (hb:b.oneCell'=true):Fn Tryz.prog 265 ⟨[.agg ⟨[a,b]⟩]⟩ w (fun r w'=>w.grownBy w' none/\r=.int .i64 3):=by
 refine Fn.enter (by kernel_rfl) Tryz.func265 rfl Tryz.ntmps265 rfl ?_
 repeat refine zg ?_
 refine zc ?_
 refine z4 (us:=[a,b]) rfl rfl rfl (fun g1 w1 hB1 hg1 hl1=>?_)
 refine zd rfl (ze qH rfl) ?_
 refine zh (za ?_)
 repeat refine zg ?_
 refine zc ?_
 refine zd rfl (ze qH rfl) ?_
 refine zh (za ?_)
 refine zx ?_
 exact zM rfl rfl ⟨hg1,rfl⟩
theorem kindN_fn {w:World}:Fn Tryz.prog 266 ⟨[.agg ⟨[]⟩]⟩ w (fun r w'=>w.grownBy w' none/\r=.int .i64 1):=by
 refine Fn.enter (by kernel_rfl) Tryz.func266 rfl Tryz.ntmps266 rfl ?_
 repeat refine zg ?_
 refine zc ?_
 refine z4 (us:=[]) rfl rfl rfl (fun g1 w1 hB1 hg1 hl1=>?_)
 refine zd rfl (ze qH rfl) ?_
 refine zh (za ?_)
 repeat refine zg ?_
 refine zc ?_
 refine zd rfl (ze qH rfl) ?_
 refine zh (za ?_)
 refine zx ?_
 exact zM rfl rfl ⟨hg1,rfl⟩
end
theorem qF {N:Nat} {ops:Array Oper} {Q:Post} {L:qP} {w w0:World} {rest:List Oper} {d:Nat} {ty:TypeId} {pos:String} {af:Array Edge} {r:Operand} {ts:Array TypeId} {v:OV} {F:Nat->Prop} {p:PV} (hd:Nat.blt d N=true) (h:RelD deV w0 [(v,F)] [p]) (hp:p≠.nil) (hr:opv L r=some v.1)
  (hk:∀ w',w.grownBy w' none->WL Tryz.prog N ops Q rest ((d,.int .i64 (kindP p)) :: L) w'):WL Tryz.prog N ops Q (⟨some d,.call ⟨.invoke r "Kind",⟨[]⟩,ts⟩,ty,pos,af,none⟩ :: rest) L w:=by
 have h1:=h.one.1
 cases p with
 | nil=>exact absurd rfl hp
 | none =>
  have e:v.1=.iface 221 (.agg ⟨[]⟩):=h1
  rw [e] at hr
  exact qy hd hr (fun w=>by kernel_rfl) rfl kindN_fn (fun v' w' ⟨a,b⟩=>by subst b; exact hk w' a)
 | int z =>
  obtain ⟨a,b,e,_,ha,hb,_⟩:=VR.intOut h rfl
  rw [e] at hr
  exact qy hd hr (fun w=>by kernel_rfl) rfl (kindI_fn ha hb) (fun v' w' ⟨a,b⟩=>by subst b; exact hk w' a)
 | emp =>
  obtain ⟨g,A,c,e,_⟩:=VR.empOut h rfl
  rw [e] at hr
  exact qy hd hr (fun w=>by kernel_rfl) rfl (kindL_fn (u:=.pointer (some ⟨g,0,none⟩))) (fun v' w' ⟨a,b⟩=>by subst b; exact hk w' a)
 | tup l =>
  obtain ⟨g,A,c,hs,e,_⟩:=VR.tupOut h rfl
  rw [e] at hr
  exact qy hd hr (fun w=>by kernel_rfl) rfl (kindT_fn (u:=.pointer (some ⟨g,0,none⟩))) (fun v' w' ⟨a,b⟩=>by subst b; exact hk w' a)
end
 
section
open Go Go.RowKit
attribute [local irreducible] WL WC WX WQ WK WJ Yld Eff Ef0 Fn
def M_val_shallow (n:Int) (deep:Int) (K:Er->Prop):Prop :=
 ((((decide (n=(0:Int))) && (decide ((60:Int)<=deep)))=true->K (Er.e 7)) /\
 (((decide (n=(0:Int))) && (decide ((60:Int)<=deep)))=false->K Er.ok))
def jx (k_left:Int) (deep:Int) (K:Er->Int->Prop):Prop :=
 (In .i64 (k_left - (1:Int))) /\
 ((((decide ((k_left - (1:Int))<(0:Int))) || (decide ((60:Int)<deep)))=true->K (Er.e 7) (k_left - (1:Int))) /\
 (((decide ((k_left - (1:Int))<(0:Int))) || (decide ((60:Int)<deep)))=false->K Er.ok (k_left - (1:Int))))
def jX (k_left:Int) (a:PV) (b:PV) (deep:Int) (K:Bool->Er->Int->Prop):Prop :=
 jx k_left deep (fun (err:Er) (k_:Int) =>
 ((¬ (err=Er.ok)->K false err k_) /\
 (err=Er.ok->(a≠PV.nil) /\
 (b≠PV.nil) /\
 ((¬ ((kindP a)=(kindP b))->K false Er.ok k_) /\
 ((kindP a)=(kindP b)->(a≠PV.none) /\
 ((∀ z:Int,a=PV.int z->(∃ z2:Int,b=PV.int z2 /\
 jJ z 3 z2 3 (fun (t51:Int) =>
 K (decide (t51=(0:Int))) Er.ok k_))) /\
 ((∀ z,a≠PV.int z)->((a=PV.emp->False) /\
 (a≠PV.emp->((∀ l:List Int,a=PV.tup l->(∃ l2:List Int,b=PV.tup l2 /\
 False)) /\
 ((∀ l,a≠PV.tup l)->False)))))))))))
def j6 (k_left:Int) (a:PV) (b:PV) (deep:Int) (K:Bool->Er->Int->Prop):Prop :=
 jx k_left deep (fun (err:Er) (k_:Int) =>
 ((¬ (err=Er.ok)->K false err k_) /\
 (err=Er.ok->(a≠PV.nil) /\
 (b≠PV.nil) /\
 ((¬ ((kindP a)=(kindP b))->K false (Er.e 3) k_) /\
 ((kindP a)=(kindP b)->((∀ z:Int,a=PV.int z->(∃ z2:Int,b=PV.int z2 /\
 jJ z 3 z2 3 (fun (t46:Int) =>
 K (decide (t46<(0:Int))) Er.ok k_))) /\
 ((∀ z,a≠PV.int z)->((a=PV.emp->False) /\
 (a≠PV.emp->((∀ l:List Int,a=PV.tup l->(∃ l2:List Int,b=PV.tup l2 /\
 False)) /\
 ((∀ l,a≠PV.tup l)->K false (Er.e 3) k_)))))))))))
def jY (k_left:Int) (a:List PV) (b:List PV) (deep:Int) (K:Bool->Er->Int->Prop):Prop :=
 (a.length<=maxLen ->
 (b.length<=maxLen ->
 Lp2 (fun (t19:Int) (k0:Int) kont1=>((t19<(if (b.length:Int)<(a.length:Int) then (b.length:Int) else (a.length:Int))->(0<=t19/\t19<(a.length:Nat)) /\
 (0<=t19/\t19<(b.length:Nat)) /\
 (In .i64 (deep+(1:Int))) /\
 jX k0 (a.getD t19.toNat PV.nil) (b.getD t19.toNat PV.nil) (deep+(1:Int)) (fun (t340:Bool) (t341:Er) (k_:Int) =>
 ((¬ (t341=Er.ok)->K false t341 k_) /\
 (t341=Er.ok->(((!t340)=true->(0<=t19/\t19<(a.length:Nat)) /\
 (0<=t19/\t19<(b.length:Nat)) /\
 (In .i64 (deep+(1:Int))) /\
 j6 k_ (a.getD t19.toNat PV.nil) (b.getD t19.toNat PV.nil) (deep+(1:Int)) (fun (t530:Bool) (t531:Er) (k_2:Int) =>
 K t530 t531 k_2)) /\
 ((!t340)=false->(In .i64 (t19+(1:Int))) /\
 kont1 (t19+(1:Int)) k_)))))) /\
 (¬ (t19<(if (b.length:Int)<(a.length:Int) then (b.length:Int) else (a.length:Int)))->M_val_shallow (if (b.length:Int)<(a.length:Int) then (b.length:Int) else (a.length:Int)) deep (fun (err:Er) =>
 ((¬ (err=Er.ok)->K false err k0) /\
 (err=Er.ok->K (decide ((a.length:Int)<(b.length:Int))) Er.ok k0)))))) (0:Int) k_left))
def jN (k_left:Int) (a:PV) (b:PV) (deep:Int) (K:Bool->Er->Int->Prop):Prop :=
 jx k_left deep (fun (err:Er) (k_:Int) =>
 ((¬ (err=Er.ok)->K false err k_) /\
 (err=Er.ok->(a≠PV.nil) /\
 (b≠PV.nil) /\
 ((¬ ((kindP a)=(kindP b))->K false (Er.e 3) k_) /\
 ((kindP a)=(kindP b)->((∀ z:Int,a=PV.int z->(∃ z2:Int,b=PV.int z2 /\
 jJ z 3 z2 3 (fun (t46:Int) =>
 K (decide (t46<(0:Int))) Er.ok k_))) /\
 ((∀ z,a≠PV.int z)->((a=PV.emp->False) /\
 (a≠PV.emp->((∀ l:List Int,a=PV.tup l->(∃ l2:List Int,b=PV.tup l2 /\
 jY k_ (l.map PV.int) (l2.map PV.int) deep (fun (t860:Bool) (t861:Er) (k_2:Int) =>
 K t860 t861 k_2))) /\
 ((∀ l,a≠PV.tup l)->K false (Er.e 3) k_)))))))))))
def M_val_Less (a:PV) (b:PV) (K:Bool->Er->Prop):Prop :=
 jN (4096:Int) a b (0:Int) (fun (t120:Bool) (t121:Er) (t8_:Int) =>
 K t120 t121)
set_option maxHeartbeats 8000000 in
theorem W_val_shallow {S:List Nat} {w:World} {n:Int} {deep:Int} {K:Er->Prop} (hG:GOK S w) (hS7:7∈S) (H:M_val_shallow n deep K):Fn Tryz.prog 219 ⟨[.int .i64 n,.int .i64 deep]⟩ w (fun v w'=>w=w'/\∃ (v_r:Value),∃ (r:Er),v=v_r/\ErrR S w' v_r r/\K r):=by
 unfold M_val_shallow at H
 refine Fn.enter (by kernel_rfl) Tryz.func219 rfl Tryz.ntmps219 rfl ?_
 refine zg (zc (yp (h:=(zh (za (zg (zg (zc (yp (h:=(yp (h:=(yp (h:=(zV 3 (fun L' w'=>∃ q1:Bool,L'=[(10,.bool q1)]/\((decide (n=(0:Int))) && (decide ((60:Int)<=deep)))=q1/\w=w') ?_ (fun hQ=>?_))))))))))))))))
 ·rintro _ _ ⟨q1,rfl,rfl,rfl⟩
  refine zh (za (zE rfl (fun b1=>?_) (fun b1=>?_)))
  ·replace H:=H.1 (b1)
   refine zg (zc ?_)
   obtain ⟨vE1,_,hE1⟩:=GOK.get hG 7 1 hS7 rfl rfl
   exact zd rfl (Yld.cell qH (ErrR.cell hE1 rfl) rfl rfl) (yp (h:=(zh (za (zx (zi (zM rfl rfl ⟨rfl,vE1,(Er.e 7),rfl,hE1,H⟩)))))))
  ·replace H:=H.2 (b1)
   exact zt (za (zg (zc (yp (h:=(zh (za (zx (zM rfl rfl ⟨rfl,.nilIface,Er.ok,rfl,(ErrR.okR (S:=S) (w:=w)),H⟩)))))))))
 ·clear H
  rcases Bool.eq_false_or_eq_true (decide (n=(0:Int))) with b2 | b2
  ·exact gp b2 (h:=(gp b2 (h:=(zd rfl (zR (okb b2) rfl) (wk (hQ _ _ ⟨decide ((60:Int)<=deep),rfl,by rw [b2] <;> rfl,rfl⟩))))))
  ·exact gn b2 (h:=(gn b2 (h:=(zd rfl (zN (okb b2) rfl) (wk (hQ _ _ ⟨false,rfl,by rw [b2] <;> rfl,rfl⟩))))))
set_option maxHeartbeats 8000000 in
theorem kw {S:List Nat} {B:Nat} {w:World} {g_k:Nat} {k_left:Int} {deep:Int} {K:Er->Int->Prop} (hG:GB S B w) (hB:B<=w.heap.size) (hP:AllP (fun p=>Ge p B) [(some g_k)]) (hS7:7∈S) (hk:Bl w g_k 287 [.int .i64 k_left]) (H:jx k_left deep K):Fn Tryz.prog 206 ⟨[.pointer (some ⟨g_k,0,none⟩),.int .i64 deep]⟩ w (fun v w'=>GrL [(some g_k)] w w'/\∃ (v_r:Value),∃ (r:Er),∃ (k_left2:Int),v=v_r/\ErrR S w' v_r r/\Bl w' g_k 287 [.int .i64 k_left2]/\K r k_left2):=by
 unfold jx at H
 refine Fn.enter (by kernel_rfl) Tryz.func206 rfl Tryz.ntmps206 rfl ?_
 have hNoAt:AllP (NoAt w) [(some g_k)]:=(apC (NoAt.bl hk rfl) apN)
 refine zg (zc (yp (h:=(zh (za (zg (zg (zc (yp (h:=(yp (h:=(yp (h:=(zd rfl (zH qH hk rfl rfl rfl) ?_)))))))))))))))
 obtain ⟨h1,H⟩:=H
 refine zd rfl (Yld.sub rfl rfl h1) (yp (h:=(yp (h:=(qp one3 rfl rfl rfl hk (by simp) (fun w1 hB2 hg1=>?_))))))
 have hB1:Bl w1 g_k 287 [.int .i64 (k_left - (1:Int))]:=hB2
 have gr1:GrL [(some g_k)] w w1:=GrL.mod (GrL.refl _) hg1 (InP.mem (List.Mem.head _))
 refine zh (za (zg (zc (yp (h:=(yp (h:=(yp (h:=(zd rfl (zH qH hB1 rfl rfl rfl) (yp (h:=(yp (h:=(zV 3 (fun L' w'=>∃ q1:Bool,L'=[(20,.bool q1)]/\((decide ((k_left - (1:Int))<(0:Int))) || (decide ((60:Int)<deep)))=q1/\w1=w') ?_ (fun hQ=>?_))))))))))))))))
 ·rintro _ _ ⟨q1,rfl,rfl,rfl⟩
  refine zh (za (zE rfl (fun b1=>?_) (fun b1=>?_)))
  ·replace H:=H.1 (b1)
   refine zg (zc ?_)
   obtain ⟨vE1,_,hE1⟩:=GOK.get (hG.goL gr1 hP).ok 7 1 hS7 rfl rfl
   exact zd rfl (Yld.cell qH (ErrR.cell hE1 rfl) rfl rfl) (yp (h:=(zh (za (zx (zi (zM rfl rfl ⟨gr1,vE1,(Er.e 7),k_left - (1:Int),rfl,hE1,hB1,H⟩)))))))
  ·replace H:=H.2 (b1)
   exact zt (za (zg (zc (yp (h:=(zh (za (zx (zM rfl rfl ⟨gr1,.nilIface,Er.ok,k_left - (1:Int),rfl,(ErrR.okR (S:=S) (w:=w1)),hB1,H⟩)))))))))
 ·clear H
  rcases Bool.eq_false_or_eq_true (decide ((k_left - (1:Int))<(0:Int))) with b2 | b2
  ·exact gn b2 (h:=(gn b2 (h:=(zd rfl (zR (okb b2) rfl) (wk (hQ _ _ ⟨true,rfl,by rw [b2] <;> rfl,rfl⟩))))))
  ·exact gp b2 (h:=(gp b2 (h:=(zd rfl (zN (okb b2) rfl) (wk (hQ _ _ ⟨decide ((60:Int)<deep),rfl,by rw [b2] <;> rfl,rfl⟩))))))
set_option maxHeartbeats 8000000 in
theorem W_pval_looker_equal {S:List Nat} {B:Nat} {w:World} {g_k:Nat} {k_left:Int} {v_a:OV} {F_a:Nat->Prop} {a:PV} {v_b:OV} {F_b:Nat->Prop} {b:PV} {deep:Int} {K:Bool->Er->Int->Prop} (hG:GB S B w) (hB:B<=w.heap.size) (hP:AllP (fun p=>Ge p B) [(some g_k)]) (hS7:7∈S) (hk:Bl w g_k 287 [.int .i64 k_left]) (ha:RelD deV w [(v_a,F_a)] [a]) (hb:RelD deV w [(v_b,F_b)] [b]) (hap0:AllP (DnD deV [(v_a,F_a)] [a]) [(some g_k)]) (hap1:AllP (DnD deV [(v_b,F_b)] [b]) [(some g_k)]) (H:jX k_left a b deep K):Fn Tryz.prog 192 ⟨[.pointer (some ⟨g_k,0,none⟩),v_a.1,v_b.1,.int .i64 deep]⟩ w (fun v w'=>GrL [(some g_k)] w w'/\∃ (r0:Bool),∃ (v_r1:Value),∃ (r1:Er),∃ (k_left2:Int),v=.tuple #[.bool r0,v_r1]/\ErrR S w' v_r1 r1/\Bl w' g_k 287 [.int .i64 k_left2]/\K r0 r1 k_left2):=by
 unfold jX at H
 refine Fn.enter (by kernel_rfl) Tryz.func192 rfl Tryz.ntmps192 rfl ?_
 have hNoAt:AllP (NoAt w) [(some g_k)]:=(apC (NoAt.bl hk rfl) apN)
 refine zg (zc (yp (h:=(yp (h:=(zh (za (zg (zg (zc (yp (h:=(yp (h:=(zK rfl rfl (kw hG (Nat.le_trans hB (Nat.le_refl _)) (apC (InP.toGe (InP.mem (List.Mem.head _)) hP hB) apN) hS7 hk H) ?_)))))))))))))))
 rintro v_err w1 ⟨hgl1,_,err,k_,rfl,herr,hB1,H⟩
 have gr1:GrL [(some g_k)] w w1:=GrL.modL (GrL.refl _) hgl1 (apC (InP.mem (List.Mem.head _)) apN)
 refine yp (h:=(zh (za (zg (zc (yp (h:=(zd rfl (qb Tryz.underlying43 herr rfl) (zh (za (zE rfl (fun b1=>?_) (fun b1=>?_))))))))))))
 ·replace H:=H.1 (j9 b1)
  exact zg (zc (yp (h:=(yp (h:=(yp (h:=(zh (za (zx (zi (zW rfl rfl rfl ⟨gr1,false,v_err,err,k_,rfl,herr,hB1,H⟩))))))))))))
 ·replace H:=H.2 (jO b1)
  refine zt (za (zg (zg (zc (yp (h:=?_))))))
  obtain ⟨h1,H⟩:=H
  refine qF rfl (ha.goL gr1 hap0) h1 rfl (fun w2 hg1=>?_)
  have gr2:=GrL.add0 gr1 hg1
  refine yp (h:=?_)
  obtain ⟨h2,H⟩:=H
  refine qF rfl (hb.goL gr2 hap1) h2 rfl (fun w3 hg2=>?_)
  have gr3:=GrL.add0 gr2 hg2
  have k2:=(hB1.g0 hg1).g0 hg2
  refine yp (h:=(zh (za (zE rfl (fun b2=>?_) (fun b2=>?_)))))
  ·replace H:=H.1 (j9 b2)
   exact zg (zc (yp (h:=(yp (h:=(zh (za (zx (zi (zW rfl rfl rfl ⟨gr3,false,.nilIface,Er.ok,k_,rfl,(ErrR.okR (S:=S) (w:=w3)),k2,H⟩))))))))))
  ·replace H:=H.2 (jO b2)
   refine zt (za (zg (zg (zc (yp (h:=(zh (za (WC.block (zg (zc ?_)))))))))))
   obtain ⟨h3,H⟩:=H
   refine zd rfl (qV (z:=.agg ⟨[]⟩) Tryz.underlying221 rfl (fun _=>by kernel_rfl) (ha.goL gr3 hap0) rfl (tyP_none h3)) (yp (h:=(yp (h:=(zh (za (zE rfl (fun h=>by cases h) (fun _=>zg (zc (zd rfl (qV (z:=.bool false) Tryz.underlying223 rfl (fun _=>by kernel_rfl) (ha.goL gr3 hap0) rfl (tyP_no rfl a)) (yp (h:=(yp (h:=(zh (za (zE rfl (fun h=>by cases h) (fun _=>zg (zc ?_)))))))))))))))))))
   rcases PV.intCases a with ⟨z,he1⟩ | he1
   ·replace H:=H.1 z he1
    obtain ⟨a2,b_2,hv1,hN1,one1,one2,hL1⟩:=VR.intOut (ha.goL gr3 hap0) he1
    refine zd rfl (jc Tryz.underlying208 rfl rfl hv1) (yp (h:=(yp (h:=(zh (za (zE rfl (fun _=>zg (zc (WL.alloc rfl zero208 (fun g1 w4 hB2 hg3 hl1=>zT (vs:=[a2,b_2]) qH rfl rfl rfl (qO one1 (qO one2 jf)) hB2 rfl rfl (fun w5 hB3 hg4=>?_))))) (fun h=>by cases h))))))))
    have gr5:GrL [(some g_k)] w w5:=GrL.mod (GrL.add0 gr3 hg3) hg4 (InP.ge (Ge.le (Ge.box hl1) (GrL.sizeL gr3)))
    refine zh (za (zg ?_))
    obtain ⟨z2,he2,H⟩:=H
    obtain ⟨a3,b_3,hv2,hN2,one3,one4,hL2⟩:=VR.intOut (hb.goL gr5 hap1) he2
    refine zY (fun k => !(Nat.beq k 5)) (LD [1] (fun w'=>Bl w' g1 208 [a2,b_2])) jg (by kernel_rfl) (fun k w' h _=>(jz h hB3)) (zL rfl rfl (fun w' hw'=>zX (o:=0) (by kernel_rfl) rfl) (zL rfl rfl (fun w' hw'=>zO (vs:=[a2,b_2]) qH (hw' rfl) rfl rfl rfl rfl) (zL rfl rfl (fun w' hw'=>ze qH rfl) (zL rfl rfl (fun w' hw'=>assertOneV Tryz.underlying208 rfl rfl hv2) (zL rfl rfl (fun w' hw'=>zF qJ rfl rfl rfl) (z9 rfl (qK) rfl rfl (jS (Nm.goV (hN1.grown hg3) hL1 (GrL.of1 hg4) (apC (DnD.one (ha.inp hap0 (InP.ge (Ge.le (Ge.box hl1) (GrL.sizeL gr3))))) apN)) hN2 H) (fun v w' h w2 e=>DD.keep (Bl.g0 hB3 (qN h.1 e))) ?_))))))
    rintro _ w6 ⟨hg5,t51,rfl,H⟩
    have k8:=hB3.g0 hg5
    exact zL rfl rfl (fun w' hw'=>ze qH rfl) (zL rfl rfl (fun w' hw'=>ze qH rfl) (zL rfl rfl (fun w' hw'=>ze qH rfl) (qh (za (zx (zn (zi (zW rfl rfl rfl ⟨(GrL.add0 gr5 hg5),decide (t51=(0:Int)),.nilIface,Er.ok,k_,rfl,(ErrR.okR (S:=S) (w:=w6)),(((k2.g0 hg3).go hg4 (Dj.new k2.lt' (Ge.box hl1))).g0 hg5),H⟩))))))))
   ·replace H:=H.2 he1
    refine zd rfl (qV (z:=.agg ⟨[.bool false,.slice none 0 0]⟩) Tryz.underlying208 rfl (fun _=>by kernel_rfl) (ha.goL gr3 hap0) rfl (tyP_int he1)) (yp (h:=(yp (h:=(zh (za (zE rfl (fun h=>by cases h) (fun _=>zg (zc (zd rfl (qV (z:=vs ([]:List UInt8)) Tryz.underlying169 rfl (fun _=>by kernel_rfl) (ha.goL gr3 hap0) rfl (tyP_no rfl a)) (yp (h:=(yp (h:=(zh (za (zE rfl (fun h=>by cases h) (fun _=>zg (zc ?_)))))))))))))))))))
    rcases PV.empCases a with he3 | he3
    ·replace H:=H.1 he3
     obtain ⟨g_l,A_l,c_l,hv3,hB4,hR1,hr1,hd1⟩:=VR.empOut (ha.goL gr3 hap0) he3
     exact zd rfl (jc Tryz.underlying61 rfl rfl hv3) (yp (h:=(yp (h:=(zh (za (zE rfl (fun _=>zg (zc (yp (h:=(zh (za (zg (zY (fun k => !(Nat.beq k 11)) (LD [4,9] (fun w'=>Bl w' g_l 166 [.slice A_l ((([]:List PV)).length) c_l,.bool false,.int .i64 (0:Int)])) jg (by kernel_rfl) (fun k w' h _=>(jz h hB4)) (zL rfl rfl (fun w' hw'=>ze qH rfl) (zL rfl rfl (fun w' hw'=>ze qH rfl) (zL rfl rfl (fun w' hw'=>ze qH rfl) (zL rfl rfl (fun w' hw'=>zX (o:=0) (by kernel_rfl) rfl) (zL rfl rfl (fun w' hw'=>zH qH (hw' rfl) rfl rfl rfl) (zL rfl rfl (fun w' hw'=>ze qH rfl) H.elim)))))))))))))) (fun h=>by cases h))))))))
    ·replace H:=H.2 he3
     refine zd rfl (qV (z:=.pointer none) Tryz.underlying61 rfl (fun _=>by kernel_rfl) (ha.goL gr3 hap0) rfl (tyP_emp he3)) (yp (h:=(yp (h:=(zh (za (zE rfl (fun h=>by cases h) (fun _=>zg (zc ?_)))))))))
     rcases PV.tupCases a with ⟨l,he4⟩ | he4
     ·replace H:=H.1 l he4
      obtain ⟨g_t,A_t,c_t,b5,hv4,hB5,hR2,hr2,hd2,hd3,hd4⟩:=VR.tupOut (ha.goL gr3 hap0) he4
      refine zd rfl (jc Tryz.underlying155 rfl rfl hv4) (yp (h:=(yp (h:=(zh (za (zE rfl (fun _=>zg (zc (yp (h:=(zh (za (zg ?_))))))) (fun h=>by cases h))))))))
      obtain ⟨l2,he5,H⟩:=H
      obtain ⟨a8,a6,a7,a9,hv5,hB6,hR3,hr3,hd5,hd6,hd7⟩:=VR.tupOut (hb.goL gr3 hap1) he5
      exact zY (fun k => !(Nat.beq k 11)) (LD [4,9] (fun w'=>Bl w' g_t 158 [.slice A_t ((l.map PV.int).length) c_t]/\Bl w' a8 158 [.slice a6 ((l2.map PV.int).length) a7])) jg (by kernel_rfl) (fun k w' h _=>⟨(jz h hB5),(jz h hB6)⟩) (zL rfl rfl (fun w' hw'=>ze qH rfl) (zL rfl rfl (fun w' hw'=>ze qH rfl) (zL rfl rfl (fun w' hw'=>ze qH rfl) (zL rfl rfl (fun w' hw'=>zX (o:=0) (by kernel_rfl) rfl) (zL rfl rfl (fun w' hw'=>zH qH (hw' rfl).1 rfl rfl rfl) (zL rfl rfl (fun w' hw'=>ze qH rfl) (zL rfl rfl (fun w' hw'=>assertOneV Tryz.underlying155 rfl rfl hv5) (zL rfl rfl (fun w' hw'=>ze qH rfl) (zL rfl rfl (fun w' hw'=>zX (o:=0) (by kernel_rfl) rfl) (zL rfl rfl (fun w' hw'=>zH qH (hw' rfl).2 rfl rfl rfl) (zL rfl rfl (fun w' hw'=>ze qH rfl) (False.elim H))))))))))))
     ·replace H:=H.2 he4
      exact zd rfl (qV (z:=.pointer none) Tryz.underlying155 rfl (fun _=>by kernel_rfl) (ha.goL gr3 hap0) rfl (tyP_tup he4)) (yp (h:=(yp (h:=(zh (za (zE rfl (fun h=>by cases h) (fun _=>zg (zc (zd rfl (qV (z:=.pointer none) Tryz.underlying242 rfl (fun _=>by kernel_rfl) (ha.goL gr3 hap0) rfl (tyP_no rfl a)) (yp (h:=(yp (h:=(zh (za (zE rfl (fun h=>by cases h) (fun _=>zg (zc (zd rfl (qV (z:=.pointer none) Tryz.underlying269 rfl (fun _=>by kernel_rfl) (ha.goL gr3 hap0) rfl (tyP_no rfl a)) (yp (h:=(yp (h:=(zh (za (zE rfl (fun h=>by cases h) (fun _=>zg (zc (zd rfl (assertNoI (z:=.nilIface) Tryz.underlying229 (fun _=>by kernel_rfl) (by decide +kernel) (ha.goL gr3 hap0) rfl) (yp (h:=(yp (h:=(zh (za (zE rfl (fun h=>by cases h) (fun _=>zt (zf (za (zg (False.elim H))))))))))))))))))))))))))))))))))))))))))
set_option maxHeartbeats 8000000 in
theorem W_pval_looker_less {S:List Nat} {B:Nat} {w:World} {g_k:Nat} {k_left:Int} {v_a:OV} {F_a:Nat->Prop} {a:PV} {v_b:OV} {F_b:Nat->Prop} {b:PV} {deep:Int} {K:Bool->Er->Int->Prop} (hG:GB S B w) (hB:B<=w.heap.size) (hP:AllP (fun p=>Ge p B) [(some g_k)]) (hS3:3∈S) (hS7:7∈S) (hk:Bl w g_k 287 [.int .i64 k_left]) (ha:RelD deV w [(v_a,F_a)] [a]) (hb:RelD deV w [(v_b,F_b)] [b]) (hap0:AllP (DnD deV [(v_a,F_a)] [a]) [(some g_k)]) (hap1:AllP (DnD deV [(v_b,F_b)] [b]) [(some g_k)]) (H:j6 k_left a b deep K):Fn Tryz.prog 188 ⟨[.pointer (some ⟨g_k,0,none⟩),v_a.1,v_b.1,.int .i64 deep]⟩ w (fun v w'=>GrL [(some g_k)] w w'/\∃ (r0:Bool),∃ (v_r1:Value),∃ (r1:Er),∃ (k_left2:Int),v=.tuple #[.bool r0,v_r1]/\ErrR S w' v_r1 r1/\Bl w' g_k 287 [.int .i64 k_left2]/\K r0 r1 k_left2):=by
 unfold j6 at H
 refine Fn.enter (by kernel_rfl) Tryz.func188 rfl Tryz.ntmps188 rfl ?_
 have hNoAt:AllP (NoAt w) [(some g_k)]:=(apC (NoAt.bl hk rfl) apN)
 refine zg (zc (yp (h:=(yp (h:=(zh (za (zg (zg (zc (yp (h:=(yp (h:=(zK rfl rfl (kw hG (Nat.le_trans hB (Nat.le_refl _)) (apC (InP.toGe (InP.mem (List.Mem.head _)) hP hB) apN) hS7 hk H) ?_)))))))))))))))
 rintro v_err w1 ⟨hgl1,_,err,k_,rfl,herr,hB1,H⟩
 have gr1:GrL [(some g_k)] w w1:=GrL.modL (GrL.refl _) hgl1 (apC (InP.mem (List.Mem.head _)) apN)
 refine yp (h:=(zh (za (zg (zc (yp (h:=(zd rfl (qb Tryz.underlying43 herr rfl) (zh (za (zE rfl (fun b1=>?_) (fun b1=>?_))))))))))))
 ·replace H:=H.1 (j9 b1)
  exact zg (zc (yp (h:=(yp (h:=(yp (h:=(zh (za (zx (zi (zW rfl rfl rfl ⟨gr1,false,v_err,err,k_,rfl,herr,hB1,H⟩))))))))))))
 ·replace H:=H.2 (jO b1)
  refine zt (za (zg (zg (zc (yp (h:=?_))))))
  obtain ⟨h1,H⟩:=H
  refine qF rfl (ha.goL gr1 hap0) h1 rfl (fun w2 hg1=>?_)
  have gr2:=GrL.add0 gr1 hg1
  refine yp (h:=?_)
  obtain ⟨h2,H⟩:=H
  refine qF rfl (hb.goL gr2 hap1) h2 rfl (fun w3 hg2=>?_)
  have gr3:=GrL.add0 gr2 hg2
  have k2:=(hB1.g0 hg1).g0 hg2
  refine yp (h:=(zh (za (zE rfl (fun b2=>?_) (fun b2=>?_)))))
  ·replace H:=H.1 (j9 b2)
   refine zg (ql jg (by kernel_rfl) ?_)
   obtain ⟨vE1,_,hE1⟩:=GOK.get (hG.goL gr3 hP).ok 3 0 hS3 rfl rfl
   exact z8 rfl (Yld.cell qH (ErrR.cell hE1 rfl) rfl rfl) (z8 rfl (ze qH rfl) (z8 rfl (ze qH rfl) (qu (za (zx (zi (zW rfl rfl rfl ⟨gr3,false,vE1,(Er.e 3),k_,rfl,hE1,k2,H⟩)))))))
  ·replace H:=H.2 (jO b2)
   refine zt (za (zg (zg (zc (yp (h:=(zh (za (WC.block (zg (zc (zd rfl (qV (z:=.bool false) Tryz.underlying223 rfl (fun _=>by kernel_rfl) (ha.goL gr3 hap0) rfl (tyP_no rfl a)) (yp (h:=(yp (h:=(zh (za (zE rfl (fun h=>by cases h) (fun _=>zg (zc ?_)))))))))))))))))))))
   rcases PV.intCases a with ⟨z,he1⟩ | he1
   ·replace H:=H.1 z he1
    obtain ⟨a2,b_2,hv1,hN1,one1,one2,hL1⟩:=VR.intOut (ha.goL gr3 hap0) he1
    refine zd rfl (jc Tryz.underlying208 rfl rfl hv1) (yp (h:=(yp (h:=(zh (za (zE rfl (fun _=>zg (zc (WL.alloc rfl zero208 (fun g1 w4 hB2 hg3 hl1=>zT (vs:=[a2,b_2]) qH rfl rfl rfl (qO one1 (qO one2 jf)) hB2 rfl rfl (fun w5 hB3 hg4=>?_))))) (fun h=>by cases h))))))))
    have gr5:GrL [(some g_k)] w w5:=GrL.mod (GrL.add0 gr3 hg3) hg4 (InP.ge (Ge.le (Ge.box hl1) (GrL.sizeL gr3)))
    refine zh (za (zg ?_))
    obtain ⟨z2,he2,H⟩:=H
    obtain ⟨a3,b_3,hv2,hN2,one3,one4,hL2⟩:=VR.intOut (hb.goL gr5 hap1) he2
    refine zY (fun k => !(Nat.beq k 5)) (LD [1] (fun w'=>Bl w' g1 208 [a2,b_2])) jg (by kernel_rfl) (fun k w' h _=>(jz h hB3)) (zL rfl rfl (fun w' hw'=>zX (o:=0) (by kernel_rfl) rfl) (zL rfl rfl (fun w' hw'=>zO (vs:=[a2,b_2]) qH (hw' rfl) rfl rfl rfl rfl) (zL rfl rfl (fun w' hw'=>ze qH rfl) (zL rfl rfl (fun w' hw'=>assertOneV Tryz.underlying208 rfl rfl hv2) (zL rfl rfl (fun w' hw'=>zF qJ rfl rfl rfl) (z9 rfl (qK) rfl rfl (jS (Nm.goV (hN1.grown hg3) hL1 (GrL.of1 hg4) (apC (DnD.one (ha.inp hap0 (InP.ge (Ge.le (Ge.box hl1) (GrL.sizeL gr3))))) apN)) hN2 H) (fun v w' h w2 e=>DD.keep (Bl.g0 hB3 (qN h.1 e))) ?_))))))
    rintro _ w6 ⟨hg5,t46,rfl,H⟩
    have k8:=hB3.g0 hg5
    exact zL rfl rfl (fun w' hw'=>ze qH rfl) (zL rfl rfl (fun w' hw'=>ze qH rfl) (zL rfl rfl (fun w' hw'=>ze qH rfl) (qh (za (zx (zn (zi (zW rfl rfl rfl ⟨(GrL.add0 gr5 hg5),decide (t46<(0:Int)),.nilIface,Er.ok,k_,rfl,(ErrR.okR (S:=S) (w:=w6)),(((k2.g0 hg3).go hg4 (Dj.new k2.lt' (Ge.box hl1))).g0 hg5),H⟩))))))))
   ·replace H:=H.2 he1
    refine zd rfl (qV (z:=.agg ⟨[.bool false,.slice none 0 0]⟩) Tryz.underlying208 rfl (fun _=>by kernel_rfl) (ha.goL gr3 hap0) rfl (tyP_int he1)) (yp (h:=(yp (h:=(zh (za (zE rfl (fun h=>by cases h) (fun _=>zg (zc (zd rfl (qV (z:=vs ([]:List UInt8)) Tryz.underlying169 rfl (fun _=>by kernel_rfl) (ha.goL gr3 hap0) rfl (tyP_no rfl a)) (yp (h:=(yp (h:=(zh (za (zE rfl (fun h=>by cases h) (fun _=>zg (zc ?_)))))))))))))))))))
    rcases PV.empCases a with he3 | he3
    ·replace H:=H.1 he3
     obtain ⟨g_l,A_l,c_l,hv3,hB4,hR1,hr1,hd1⟩:=VR.empOut (ha.goL gr3 hap0) he3
     exact zd rfl (jc Tryz.underlying61 rfl rfl hv3) (yp (h:=(yp (h:=(zh (za (zE rfl (fun _=>zg (zc (yp (h:=(zh (za (zg (zY (fun k => !(Nat.beq k 11)) (LD [4,9] (fun w'=>Bl w' g_l 166 [.slice A_l ((([]:List PV)).length) c_l,.bool false,.int .i64 (0:Int)])) jg (by kernel_rfl) (fun k w' h _=>(jz h hB4)) (zL rfl rfl (fun w' hw'=>ze qH rfl) (zL rfl rfl (fun w' hw'=>ze qH rfl) (zL rfl rfl (fun w' hw'=>ze qH rfl) (zL rfl rfl (fun w' hw'=>zX (o:=0) (by kernel_rfl) rfl) (zL rfl rfl (fun w' hw'=>zH qH (hw' rfl) rfl rfl rfl) (zL rfl rfl (fun w' hw'=>ze qH rfl) H.elim)))))))))))))) (fun h=>by cases h))))))))
    ·replace H:=H.2 he3
     refine zd rfl (qV (z:=.pointer none) Tryz.underlying61 rfl (fun _=>by kernel_rfl) (ha.goL gr3 hap0) rfl (tyP_emp he3)) (yp (h:=(yp (h:=(zh (za (zE rfl (fun h=>by cases h) (fun _=>zg (zc ?_)))))))))
     rcases PV.tupCases a with ⟨l,he4⟩ | he4
     ·replace H:=H.1 l he4
      obtain ⟨g_t,A_t,c_t,b5,hv4,hB5,hR2,hr2,hd2,hd3,hd4⟩:=VR.tupOut (ha.goL gr3 hap0) he4
      refine zd rfl (jc Tryz.underlying155 rfl rfl hv4) (yp (h:=(yp (h:=(zh (za (zE rfl (fun _=>zg (zc (yp (h:=(zh (za (zg ?_))))))) (fun h=>by cases h))))))))
      obtain ⟨l2,he5,H⟩:=H
      obtain ⟨a8,a6,a7,a9,hv5,hB6,hR3,hr3,hd5,hd6,hd7⟩:=VR.tupOut (hb.goL gr3 hap1) he5
      exact zY (fun k => !(Nat.beq k 11)) (LD [4,9] (fun w'=>Bl w' g_t 158 [.slice A_t ((l.map PV.int).length) c_t]/\Bl w' a8 158 [.slice a6 ((l2.map PV.int).length) a7])) jg (by kernel_rfl) (fun k w' h _=>⟨(jz h hB5),(jz h hB6)⟩) (zL rfl rfl (fun w' hw'=>ze qH rfl) (zL rfl rfl (fun w' hw'=>ze qH rfl) (zL rfl rfl (fun w' hw'=>ze qH rfl) (zL rfl rfl (fun w' hw'=>zX (o:=0) (by kernel_rfl) rfl) (zL rfl rfl (fun w' hw'=>zH qH (hw' rfl).1 rfl rfl rfl) (zL rfl rfl (fun w' hw'=>ze qH rfl) (zL rfl rfl (fun w' hw'=>assertOneV Tryz.underlying155 rfl rfl hv5) (zL rfl rfl (fun w' hw'=>ze qH rfl) (zL rfl rfl (fun w' hw'=>zX (o:=0) (by kernel_rfl) rfl) (zL rfl rfl (fun w' hw'=>zH qH (hw' rfl).2 rfl rfl rfl) (zL rfl rfl (fun w' hw'=>ze qH rfl) (False.elim H))))))))))))
     ·replace H:=H.2 he4
      refine zd rfl (qV (z:=.pointer none) Tryz.underlying155 rfl (fun _=>by kernel_rfl) (ha.goL gr3 hap0) rfl (tyP_tup he4)) (yp (h:=(yp (h:=(zh (za (zE rfl (fun h=>by cases h) (fun _=>zt (zf (za (zg (ql jg (by kernel_rfl) ?_))))))))))))
      obtain ⟨vE2,_,hE2⟩:=GOK.get (hG.goL gr3 hP).ok 3 0 hS3 rfl rfl
      exact z8 rfl (Yld.cell qH (ErrR.cell hE2 rfl) rfl rfl) (z8 rfl (ze qH rfl) (z8 rfl (ze qH rfl) (qu (za (zx (zW rfl rfl rfl ⟨gr3,false,vE2,(Er.e 3),k_,rfl,hE2,k2,H⟩))))))
set_option maxHeartbeats 8000000 in
theorem W_pval_looker_first {S:List Nat} {B:Nat} {w:World} {g_k:Nat} {k_left:Int} {a:List PV} {A_a:Option Addr} {c_a:Nat} {a4:List VH} {b:List PV} {A_b:Option Addr} {c_b:Nat} {a5:List VH} {deep:Int} {n_a:Nat} {n_b:Nat} {K:Bool->Er->Int->Prop} (hG:GB S B w) (hB:B<=w.heap.size) (hP:AllP (fun p=>Ge p B) [(some g_k)]) (hS3:3∈S) (hS7:7∈S) (hk:Bl w g_k 287 [.int .i64 k_left]) (ha:Rd vv w A_a c_a a4) (b6:n_a=a.length) (a0:RelD deV w a4 a) (hb:Rd vv w A_b c_b a5) (b7:n_b=b.length) (a1:RelD deV w a5 b) (hap0:AllP (Dn a4 (blk A_a)) [(some g_k)]) (hap1:AllP (DnD deV a4 a) [(some g_k)]) (hap2:AllP (Dn a5 (blk A_b)) [(some g_k)]) (hap3:AllP (DnD deV a5 b) [(some g_k)]) (H:jY k_left a b deep K):Fn Tryz.prog 207 ⟨[.pointer (some ⟨g_k,0,none⟩),.slice A_a n_a c_a,.slice A_b n_b c_b,.int .i64 deep]⟩ w (fun v w'=>GrL [(some g_k)] w w'/\∃ (r0:Bool),∃ (v_r1:Value),∃ (r1:Er),∃ (k_left2:Int),v=.tuple #[.bool r0,v_r1]/\ErrR S w' v_r1 r1/\Bl w' g_k 287 [.int .i64 k_left2]/\K r0 r1 k_left2):=by
 subst b6
 subst b7
 unfold jY at H
 refine Fn.enter (by kernel_rfl) Tryz.func207 rfl Tryz.ntmps207 rfl ?_
 replace H:=H (by rw [<-a0.1]; exact Nat.le_trans ha.cap ha.max)
 replace H:=H (by rw [<-a1.1]; exact Nat.le_trans hb.cap hb.max)
 have hNoAt:AllP (NoAt w) [(some g_k)]:=(apC (NoAt.bl hk rfl) apN)
 refine zg (zc (yp (h:=(yp (h:=(zh (za (zg (zg (zc (yp (h:=(yp (h:=(yp (h:=(yp (h:=(zd rfl (zB rfl rfl) (yp (h:=(zh (za (WC.block ?_))))))))))))))))))))))))
 obtain ⟨I1,mu1,b0,HR1⟩:=H
 refine z7 (fun n' L' w'=>∃ (t19:Int),∃ (k0:Int),n'=mu1 t19 k0/\L'=[(0,.pointer (some ⟨g_k,0,none⟩)),(1,.slice A_a a.length c_a),(2,.slice A_b b.length c_b),(3,.int .i64 deep),(18,.int .i64 (if (b.length:Int)<(a.length:Int) then (b.length:Int) else (a.length:Int))),(19,.int .i64 t19)]/\I1 t19 k0/\GrL [(some g_k)] w w'/\Bl w' g_k 287 [.int .i64 k0]) _ _ ⟨(0:Int),k_left,rfl,rfl,b0,(GrL.refl _),hk⟩ sb ?_
 clear b0
 rintro _ _ w1 ⟨t19,k0,rfl,rfl,hI1,gr1,k1⟩
 have H:=HR1 t19 k0 hI1
 refine zg (zc (yp (h:=(zh (za (zg (zE rfl (fun b1=>?_) (fun b1=>?_))))))))
 ·replace H:=H.1 (of_decide_eq_true b1)
  refine zt (za (zg (WC.block (zg (zc (yp (h:=(yp (h:=(zh (za (zg (zY (fun k => !(Nat.beq k 11)) (LD [4,8] (fun w'=>Rd vv w' A_a c_a a4/\Rd vv w' A_b c_b a5)) jg (by kernel_rfl) (fun k w' h _=>⟨(rd_eqv h (ha.goL gr1 hap0)),(rd_eqv h (hb.goL gr1 hap2))⟩) (zL rfl rfl (fun w' hw'=>ze qH rfl) (zL rfl rfl (fun w' hw'=>ze qH rfl) (zL rfl rfl (fun w' hw'=>ze qH rfl) ?_))))))))))))))))
  obtain ⟨h1,H⟩:=H
  refine zL rfl rfl (fun w' hw'=>zP qH (ha.goL gr1 hap0) rfl rfl a0.1.symm rfl h1.1 h1.2) ?_
  obtain ⟨⟨v_el,F_el⟩,eh1,hR1⟩:=RelD.at (a0.goL gr1 hap1) vh0 PV.nil (j:=t19.toNat) (Nat.lt_of_lt_of_eq (iltN h1 a0.1.symm) (a0.goL gr1 hap1).1)
  have hv1:RelD deV w1 [(v_el,F_el)] [a.getD t19.toNat PV.nil]:=RelD.cons hR1 RelD.nil
  refine zL rfl rfl (fun w' hw'=>qd (v:=v_el.1) (zQ vh0 qH (hw' rfl).1 rfl rfl (iltN h1 a0.1.symm)) (congrArg vv eh1)) (zL rfl rfl (fun w' hw'=>ze qH rfl) (zL rfl rfl (fun w' hw'=>ze qH rfl) ?_))
  obtain ⟨h2,H⟩:=H
  refine zL rfl rfl (fun w' hw'=>zP qH (hb.goL gr1 hap2) rfl rfl a1.1.symm rfl h2.1 h2.2) ?_
  obtain ⟨⟨v_el2,F_el2⟩,eh2,hR2⟩:=RelD.at (a1.goL gr1 hap3) vh0 PV.nil (j:=t19.toNat) (Nat.lt_of_lt_of_eq (iltN h2 a1.1.symm) (a1.goL gr1 hap3).1)
  have hv2:RelD deV w1 [(v_el2,F_el2)] [b.getD t19.toNat PV.nil]:=RelD.cons hR2 RelD.nil
  refine zL rfl rfl (fun w' hw'=>qd (v:=v_el2.1) (zQ vh0 qH (hw' rfl).2 rfl rfl (iltN h2 a1.1.symm)) (congrArg vv eh2)) (zL rfl rfl (fun w' hw'=>ze qH rfl) ?_)
  obtain ⟨h3,H⟩:=H
  refine zL rfl rfl (fun w' hw'=>Yld.add rfl rfl h3) (z9 rfl qK rfl rfl (W_pval_looker_equal (hG.goL gr1 hP) (Nat.le_trans hB (GrL.sizeL gr1)) (apC (InP.toGe (InP.mem (List.Mem.head _)) hP hB) apN) hS7 k1 hv1 hv2 (apC (DnD.cons (DnD.at (a0.inp hap1 (InP.mem (List.Mem.head _))) (a0.goL gr1 hap1).1 (Nat.lt_of_lt_of_eq (iltN h1 a0.1.symm) (a0.goL gr1 hap1).1) eh1) DnD.nil) apN) (apC (DnD.cons (DnD.at (a1.inp hap3 (InP.mem (List.Mem.head _))) (a1.goL gr1 hap3).1 (Nat.lt_of_lt_of_eq (iltN h2 a1.1.symm) (a1.goL gr1 hap3).1) eh2) DnD.nil) apN) H) (fun v w' h w2 e=>qi (by kernel_rfl)) ?_)
  rintro _ w2 ⟨hgl1,t340,v_t341,t341,k_,rfl,ht341,hB1,H⟩
  have gr2:GrL [(some g_k)] w w2:=GrL.modL gr1 hgl1 (apC (InP.mem (List.Mem.head _)) apN)
  refine zL rfl rfl (fun w' hw'=>ze qH rfl) (zL rfl rfl (fun w' hw'=>ze qH rfl) (zL rfl rfl (fun w' hw'=>ze qH rfl) (zL rfl rfl (fun w' hw'=>ze qH rfl) (zL rfl rfl (fun w' hw'=>ze qH rfl) (qh (za (zg (zg (zc (yp (h:=(zd rfl (qb Tryz.underlying43 ht341 rfl) (zh (za (zE rfl (fun b2=>?_) (fun b2=>?_))))))))))))))))
  ·replace H:=H.1 (j9 b2)
   exact zg (zc (yp (h:=(yp (h:=(yp (h:=(zh (za (zx (zi (zn (zi (zi (zn (zi (zW rfl rfl rfl ⟨gr2,false,v_t341,t341,k_,rfl,ht341,hB1,H⟩)))))))))))))))))
  ·replace H:=H.2 (jO b2)
   refine zt (za (zg (zc (yp (h:=(yp (h:=(zh (za (zE rfl (fun b3=>?_) (fun b3=>?_)))))))))))
   ·replace H:=H.1 (b3)
    refine zg (zY (fun k => !(Nat.beq k 11)) (LD [4,8] (fun w'=>Rd vv w' A_a c_a a4/\Rd vv w' A_b c_b a5)) jg (by kernel_rfl) (fun k w' h _=>⟨(rd_eqv h (ha.goL gr2 hap0)),(rd_eqv h (hb.goL gr2 hap2))⟩) (zL rfl rfl (fun w' hw'=>ze qH rfl) (zL rfl rfl (fun w' hw'=>ze qH rfl) (zL rfl rfl (fun w' hw'=>ze qH rfl) ?_))))
    obtain ⟨h4,H⟩:=H
    refine zL rfl rfl (fun w' hw'=>zP qH (ha.goL gr2 hap0) rfl rfl a0.1.symm rfl h4.1 h4.2) ?_
    obtain ⟨⟨v_el3,F_el3⟩,eh3,hR3⟩:=RelD.at (a0.goL gr2 hap1) vh0 PV.nil (j:=t19.toNat) (Nat.lt_of_lt_of_eq (iltN h4 a0.1.symm) (a0.goL gr2 hap1).1)
    have hv3:RelD deV w2 [(v_el3,F_el3)] [a.getD t19.toNat PV.nil]:=RelD.cons hR3 RelD.nil
    refine zL rfl rfl (fun w' hw'=>qd (v:=v_el3.1) (zQ vh0 qH (hw' rfl).1 rfl rfl (iltN h4 a0.1.symm)) (congrArg vv eh3)) (zL rfl rfl (fun w' hw'=>ze qH rfl) (zL rfl rfl (fun w' hw'=>ze qH rfl) ?_))
    obtain ⟨h5,H⟩:=H
    refine zL rfl rfl (fun w' hw'=>zP qH (hb.goL gr2 hap2) rfl rfl a1.1.symm rfl h5.1 h5.2) ?_
    obtain ⟨⟨v_el4,F_el4⟩,eh4,hR4⟩:=RelD.at (a1.goL gr2 hap3) vh0 PV.nil (j:=t19.toNat) (Nat.lt_of_lt_of_eq (iltN h5 a1.1.symm) (a1.goL gr2 hap3).1)
    have hv4:RelD deV w2 [(v_el4,F_el4)] [b.getD t19.toNat PV.nil]:=RelD.cons hR4 RelD.nil
    refine zL rfl rfl (fun w' hw'=>qd (v:=v_el4.1) (zQ vh0 qH (hw' rfl).2 rfl rfl (iltN h5 a1.1.symm)) (congrArg vv eh4)) (zL rfl rfl (fun w' hw'=>ze qH rfl) ?_)
    obtain ⟨h6,H⟩:=H
    refine zL rfl rfl (fun w' hw'=>Yld.add rfl rfl h6) (z9 rfl qK rfl rfl (W_pval_looker_less (hG.goL gr2 hP) (Nat.le_trans hB (GrL.sizeL gr2)) (apC (InP.toGe (InP.mem (List.Mem.head _)) hP hB) apN) hS3 hS7 hB1 hv3 hv4 (apC (DnD.cons (DnD.at (a0.inp hap1 (InP.mem (List.Mem.head _))) (a0.goL gr2 hap1).1 (Nat.lt_of_lt_of_eq (iltN h4 a0.1.symm) (a0.goL gr2 hap1).1) eh3) DnD.nil) apN) (apC (DnD.cons (DnD.at (a1.inp hap3 (InP.mem (List.Mem.head _))) (a1.goL gr2 hap3).1 (Nat.lt_of_lt_of_eq (iltN h5 a1.1.symm) (a1.goL gr2 hap3).1) eh4) DnD.nil) apN) H) (fun v w' h w2 e=>qi (by kernel_rfl)) ?_)
    rintro _ w3 ⟨hgl2,t530,v_t531,t531,k_2,rfl,ht531,hB2,H⟩
    have gr3:GrL [(some g_k)] w w3:=GrL.modL gr2 hgl2 (apC (InP.mem (List.Mem.head _)) apN)
    exact zL rfl rfl (fun w' hw'=>ze qH rfl) (zL rfl rfl (fun w' hw'=>ze qH rfl) (zL rfl rfl (fun w' hw'=>ze qH rfl) (zL rfl rfl (fun w' hw'=>ze qH rfl) (qh (za (zx (zn (zi (zi (zn (zi (zW rfl rfl rfl ⟨gr3,t530,v_t531,t531,k_2,rfl,ht531,hB2,H⟩))))))))))))
   ·replace H:=H.2 (b3)
    refine zt (zf (za (zc ?_)))
    obtain ⟨h7,H⟩:=H
    exact zd rfl (Yld.add rfl rfl h7) (yp (h:=(zh (zZ _ ⟨t19+(1:Int),k_,rfl,rfl,H.1,gr2,hB1⟩ sb H.2))))
 ·replace H:=H.2 (of_decide_eq_false b1)
  refine zy (zm (zm (zk (za (zg (zg (zc (yp (h:=(yp (h:=(yp (h:=(yp (h:=(zd rfl (zB rfl rfl) (yp (h:=(zK rfl rfl (W_val_shallow (hG.goL gr1 hP).ok hS7 H) ?_)))))))))))))))))))
  rintro v_err _ ⟨rfl,_,err,rfl,herr,H⟩
  refine yp (h:=(zh (za (zg (zc (yp (h:=(zd rfl (qb Tryz.underlying43 herr rfl) (zh (za (zE rfl (fun b4=>?_) (fun b4=>?_))))))))))))
  ·replace H:=H.1 (j9 b4)
   exact zg (zc (yp (h:=(yp (h:=(yp (h:=(zh (za (zx (zi (zW rfl rfl rfl ⟨gr1,false,v_err,err,k0,rfl,herr,k1,H⟩))))))))))))
  ·replace H:=H.2 (jO b4)
   exact zt (za (zg (zc (yp (h:=(yp (h:=(yp (h:=(yp (h:=(yp (h:=(yp (h:=(yp (h:=(zh (za (zx (zW rfl rfl rfl ⟨gr1,decide ((a.length:Int)<(b.length:Int)),.nilIface,Er.ok,k0,rfl,(ErrR.okR (S:=S) (w:=w1)),k1,H⟩)))))))))))))))))))))
set_option maxHeartbeats 8000000 in
theorem W_val_looker_lessT {S:List Nat} {B:Nat} {w:World} {g_k:Nat} {k_left:Int} {v_a:OV} {F_a:Nat->Prop} {a:PV} {v_b:OV} {F_b:Nat->Prop} {b:PV} {deep:Int} {K:Bool->Er->Int->Prop} (hG:GB S B w) (hB:B<=w.heap.size) (hP:AllP (fun p=>Ge p B) [(some g_k)]) (hS3:3∈S) (hS7:7∈S) (hk:Bl w g_k 287 [.int .i64 k_left]) (ha:RelD deV w [(v_a,F_a)] [a]) (hb:RelD deV w [(v_b,F_b)] [b]) (hap0:AllP (DnD deV [(v_a,F_a)] [a]) [(some g_k)]) (hap1:AllP (DnD deV [(v_b,F_b)] [b]) [(some g_k)]) (H:jN k_left a b deep K):Fn Tryz.prog 188 ⟨[.pointer (some ⟨g_k,0,none⟩),v_a.1,v_b.1,.int .i64 deep]⟩ w (fun v w'=>GrL [(some g_k)] w w'/\∃ (r0:Bool),∃ (v_r1:Value),∃ (r1:Er),∃ (k_left2:Int),v=.tuple #[.bool r0,v_r1]/\ErrR S w' v_r1 r1/\Bl w' g_k 287 [.int .i64 k_left2]/\K r0 r1 k_left2):=by
 unfold jN at H
 refine Fn.enter (by kernel_rfl) Tryz.func188 rfl Tryz.ntmps188 rfl ?_
 have hNoAt:AllP (NoAt w) [(some g_k)]:=(apC (NoAt.bl hk rfl) apN)
 refine zg (zc (yp (h:=(yp (h:=(zh (za (zg (zg (zc (yp (h:=(yp (h:=(zK rfl rfl (kw hG (Nat.le_trans hB (Nat.le_refl _)) (apC (InP.toGe (InP.mem (List.Mem.head _)) hP hB) apN) hS7 hk H) ?_)))))))))))))))
 rintro v_err w1 ⟨hgl1,_,err,k_,rfl,herr,hB1,H⟩
 have gr1:GrL [(some g_k)] w w1:=GrL.modL (GrL.refl _) hgl1 (apC (InP.mem (List.Mem.head _)) apN)
 refine yp (h:=(zh (za (zg (zc (yp (h:=(zd rfl (qb Tryz.underlying43 herr rfl) (zh (za (zE rfl (fun b1=>?_) (fun b1=>?_))))))))))))
 ·replace H:=H.1 (j9 b1)
  exact zg (zc (yp (h:=(yp (h:=(yp (h:=(zh (za (zx (zi (zW rfl rfl rfl ⟨gr1,false,v_err,err,k_,rfl,herr,hB1,H⟩))))))))))))
 ·replace H:=H.2 (jO b1)
  refine zt (za (zg (zg (zc (yp (h:=?_))))))
  obtain ⟨h1,H⟩:=H
  refine qF rfl (ha.goL gr1 hap0) h1 rfl (fun w2 hg1=>?_)
  have gr2:=GrL.add0 gr1 hg1
  refine yp (h:=?_)
  obtain ⟨h2,H⟩:=H
  refine qF rfl (hb.goL gr2 hap1) h2 rfl (fun w3 hg2=>?_)
  have gr3:=GrL.add0 gr2 hg2
  have k2:=(hB1.g0 hg1).g0 hg2
  refine yp (h:=(zh (za (zE rfl (fun b2=>?_) (fun b2=>?_)))))
  ·replace H:=H.1 (j9 b2)
   refine zg (ql jg (by kernel_rfl) ?_)
   obtain ⟨vE1,_,hE1⟩:=GOK.get (hG.goL gr3 hP).ok 3 0 hS3 rfl rfl
   exact z8 rfl (Yld.cell qH (ErrR.cell hE1 rfl) rfl rfl) (z8 rfl (ze qH rfl) (z8 rfl (ze qH rfl) (qu (za (zx (zi (zW rfl rfl rfl ⟨gr3,false,vE1,(Er.e 3),k_,rfl,hE1,k2,H⟩)))))))
  ·replace H:=H.2 (jO b2)
   refine zt (za (zg (zg (zc (yp (h:=(zh (za (WC.block (zg (zc (zd rfl (qV (z:=.bool false) Tryz.underlying223 rfl (fun _=>by kernel_rfl) (ha.goL gr3 hap0) rfl (tyP_no rfl a)) (yp (h:=(yp (h:=(zh (za (zE rfl (fun h=>by cases h) (fun _=>zg (zc ?_)))))))))))))))))))))
   rcases PV.intCases a with ⟨z,he1⟩ | he1
   ·replace H:=H.1 z he1
    obtain ⟨a2,b_2,hv1,hN1,one1,one2,hL1⟩:=VR.intOut (ha.goL gr3 hap0) he1
    refine zd rfl (jc Tryz.underlying208 rfl rfl hv1) (yp (h:=(yp (h:=(zh (za (zE rfl (fun _=>zg (zc (WL.alloc rfl zero208 (fun g1 w4 hB2 hg3 hl1=>zT (vs:=[a2,b_2]) qH rfl rfl rfl (qO one1 (qO one2 jf)) hB2 rfl rfl (fun w5 hB3 hg4=>?_))))) (fun h=>by cases h))))))))
    have gr5:GrL [(some g_k)] w w5:=GrL.mod (GrL.add0 gr3 hg3) hg4 (InP.ge (Ge.le (Ge.box hl1) (GrL.sizeL gr3)))
    refine zh (za (zg ?_))
    obtain ⟨z2,he2,H⟩:=H
    obtain ⟨a3,b_3,hv2,hN2,one3,one4,hL2⟩:=VR.intOut (hb.goL gr5 hap1) he2
    refine zY (fun k => !(Nat.beq k 5)) (LD [1] (fun w'=>Bl w' g1 208 [a2,b_2])) jg (by kernel_rfl) (fun k w' h _=>(jz h hB3)) (zL rfl rfl (fun w' hw'=>zX (o:=0) (by kernel_rfl) rfl) (zL rfl rfl (fun w' hw'=>zO (vs:=[a2,b_2]) qH (hw' rfl) rfl rfl rfl rfl) (zL rfl rfl (fun w' hw'=>ze qH rfl) (zL rfl rfl (fun w' hw'=>assertOneV Tryz.underlying208 rfl rfl hv2) (zL rfl rfl (fun w' hw'=>zF qJ rfl rfl rfl) (z9 rfl (qK) rfl rfl (jS (Nm.goV (hN1.grown hg3) hL1 (GrL.of1 hg4) (apC (DnD.one (ha.inp hap0 (InP.ge (Ge.le (Ge.box hl1) (GrL.sizeL gr3))))) apN)) hN2 H) (fun v w' h w2 e=>DD.keep (Bl.g0 hB3 (qN h.1 e))) ?_))))))
    rintro _ w6 ⟨hg5,t46,rfl,H⟩
    have k8:=hB3.g0 hg5
    exact zL rfl rfl (fun w' hw'=>ze qH rfl) (zL rfl rfl (fun w' hw'=>ze qH rfl) (zL rfl rfl (fun w' hw'=>ze qH rfl) (qh (za (zx (zn (zi (zW rfl rfl rfl ⟨(GrL.add0 gr5 hg5),decide (t46<(0:Int)),.nilIface,Er.ok,k_,rfl,(ErrR.okR (S:=S) (w:=w6)),(((k2.g0 hg3).go hg4 (Dj.new k2.lt' (Ge.box hl1))).g0 hg5),H⟩))))))))
   ·replace H:=H.2 he1
    refine zd rfl (qV (z:=.agg ⟨[.bool false,.slice none 0 0]⟩) Tryz.underlying208 rfl (fun _=>by kernel_rfl) (ha.goL gr3 hap0) rfl (tyP_int he1)) (yp (h:=(yp (h:=(zh (za (zE rfl (fun h=>by cases h) (fun _=>zg (zc (zd rfl (qV (z:=vs ([]:List UInt8)) Tryz.underlying169 rfl (fun _=>by kernel_rfl) (ha.goL gr3 hap0) rfl (tyP_no rfl a)) (yp (h:=(yp (h:=(zh (za (zE rfl (fun h=>by cases h) (fun _=>zg (zc ?_)))))))))))))))))))
    rcases PV.empCases a with he3 | he3
    ·replace H:=H.1 he3
     obtain ⟨g_l,A_l,c_l,hv3,hB4,hR1,hr1,hd1⟩:=VR.empOut (ha.goL gr3 hap0) he3
     exact zd rfl (jc Tryz.underlying61 rfl rfl hv3) (yp (h:=(yp (h:=(zh (za (zE rfl (fun _=>zg (zc (yp (h:=(zh (za (zg (zY (fun k => !(Nat.beq k 11)) (LD [4,9] (fun w'=>Bl w' g_l 166 [.slice A_l ((([]:List PV)).length) c_l,.bool false,.int .i64 (0:Int)])) jg (by kernel_rfl) (fun k w' h _=>(jz h hB4)) (zL rfl rfl (fun w' hw'=>ze qH rfl) (zL rfl rfl (fun w' hw'=>ze qH rfl) (zL rfl rfl (fun w' hw'=>ze qH rfl) (zL rfl rfl (fun w' hw'=>zX (o:=0) (by kernel_rfl) rfl) (zL rfl rfl (fun w' hw'=>zH qH (hw' rfl) rfl rfl rfl) (zL rfl rfl (fun w' hw'=>ze qH rfl) H.elim)))))))))))))) (fun h=>by cases h))))))))
    ·replace H:=H.2 he3
     refine zd rfl (qV (z:=.pointer none) Tryz.underlying61 rfl (fun _=>by kernel_rfl) (ha.goL gr3 hap0) rfl (tyP_emp he3)) (yp (h:=(yp (h:=(zh (za (zE rfl (fun h=>by cases h) (fun _=>zg (zc ?_)))))))))
     rcases PV.tupCases a with ⟨l,he4⟩ | he4
     ·replace H:=H.1 l he4
      obtain ⟨g_t,A_t,c_t,b5,hv4,hB5,hR2,hr2,hd2,hd3,hd4⟩:=VR.tupOut (ha.goL gr3 hap0) he4
      refine zd rfl (jc Tryz.underlying155 rfl rfl hv4) (yp (h:=(yp (h:=(zh (za (zE rfl (fun _=>zg (zc (yp (h:=(zh (za (zg ?_))))))) (fun h=>by cases h))))))))
      obtain ⟨l2,he5,H⟩:=H
      obtain ⟨a8,a6,a7,a9,hv5,hB6,hR3,hr3,hd5,hd6,hd7⟩:=VR.tupOut (hb.goL gr3 hap1) he5
      refine zY (fun k => !(Nat.beq k 11)) (LD [4,9] (fun w'=>Bl w' g_t 158 [.slice A_t ((l.map PV.int).length) c_t]/\Bl w' a8 158 [.slice a6 ((l2.map PV.int).length) a7])) jg (by kernel_rfl) (fun k w' h _=>⟨(jz h hB5),(jz h hB6)⟩) (zL rfl rfl (fun w' hw'=>ze qH rfl) (zL rfl rfl (fun w' hw'=>ze qH rfl) (zL rfl rfl (fun w' hw'=>ze qH rfl) (zL rfl rfl (fun w' hw'=>zX (o:=0) (by kernel_rfl) rfl) (zL rfl rfl (fun w' hw'=>zH qH (hw' rfl).1 rfl rfl rfl) (zL rfl rfl (fun w' hw'=>ze qH rfl) (zL rfl rfl (fun w' hw'=>assertOneV Tryz.underlying155 rfl rfl hv5) (zL rfl rfl (fun w' hw'=>ze qH rfl) (zL rfl rfl (fun w' hw'=>zX (o:=0) (by kernel_rfl) rfl) (zL rfl rfl (fun w' hw'=>zH qH (hw' rfl).2 rfl rfl rfl) (zL rfl rfl (fun w' hw'=>ze qH rfl) (z9 rfl qK rfl rfl (W_pval_looker_first (hG.goL gr3 hP) (Nat.le_trans hB (GrL.sizeL gr3)) (apC (InP.toGe (InP.mem (List.Mem.head _)) hP hB) apN) hS3 hS7 k2 hR2 rfl hr2 hR3 rfl hr3 (apC (hd3 _ (ha.inp hap0 (InP.mem (List.Mem.head _)))) apN) (apC (hd4 _ (ha.inp hap0 (InP.mem (List.Mem.head _)))) apN) (apC (hd6 _ (hb.inp hap1 (InP.mem (List.Mem.head _)))) apN) (apC (hd7 _ (hb.inp hap1 (InP.mem (List.Mem.head _)))) apN) H) (fun v w' h w2 e=>qi (by kernel_rfl)) ?_))))))))))))
      rintro _ w7 ⟨hgl2,t860,v_t861,t861,k_2,rfl,ht861,hB7,H⟩
      have gr7:GrL [(some g_k)] w w7:=GrL.modL gr3 hgl2 (apC (InP.mem (List.Mem.head _)) apN)
      have k9:=hB5.goL hgl2 (apC (hd2 _ (ha.inp hap0 (InP.mem (List.Mem.head _)))) apN)
      have k10:=hB6.goL hgl2 (apC (hd5 _ (hb.inp hap1 (InP.mem (List.Mem.head _)))) apN)
      exact zL rfl rfl (fun w' hw'=>ze qH rfl) (zL rfl rfl (fun w' hw'=>ze qH rfl) (zL rfl rfl (fun w' hw'=>ze qH rfl) (zL rfl rfl (fun w' hw'=>ze qH rfl) (qh (za (zx (zn (zi (zW rfl rfl rfl ⟨gr7,t860,v_t861,t861,k_2,rfl,ht861,hB7,H⟩)))))))))
     ·replace H:=H.2 he4
      refine zd rfl (qV (z:=.pointer none) Tryz.underlying155 rfl (fun _=>by kernel_rfl) (ha.goL gr3 hap0) rfl (tyP_tup he4)) (yp (h:=(yp (h:=(zh (za (zE rfl (fun h=>by cases h) (fun _=>zt (zf (za (zg (ql jg (by kernel_rfl) ?_))))))))))))
      obtain ⟨vE2,_,hE2⟩:=GOK.get (hG.goL gr3 hP).ok 3 0 hS3 rfl rfl
      exact z8 rfl (Yld.cell qH (ErrR.cell hE2 rfl) rfl rfl) (z8 rfl (ze qH rfl) (z8 rfl (ze qH rfl) (qu (za (zx (zW rfl rfl rfl ⟨gr3,false,vE2,(Er.e 3),k_,rfl,hE2,k2,H⟩))))))
set_option maxHeartbeats 8000000 in
theorem W_val_Less {S:List Nat} {w:World} {v_a:OV} {F_a:Nat->Prop} {a:PV} {v_b:OV} {F_b:Nat->Prop} {b:PV} {K:Bool->Er->Prop} (hG:GOK S w) (hS3:3∈S) (hS7:7∈S) (ha:RelD deV w [(v_a,F_a)] [a]) (hb:RelD deV w [(v_b,F_b)] [b]) (H:M_val_Less a b K):Fn Tryz.prog 151 ⟨[v_a.1,v_b.1]⟩ w (fun v w'=>w.grownBy w' none/\∃ (r0:Bool),∃ (v_r1:Value),∃ (r1:Er),v=.tuple #[.bool r0,v_r1]/\ErrR S w' v_r1 r1/\K r0 r1):=by
 unfold M_val_Less at H
 refine Fn.enter (by kernel_rfl) Tryz.func151 rfl Tryz.ntmps151 rfl ?_
 refine zg (zc (yp (h:=(yp (h:=(zh (za (zg (zc (zd rfl (z3 (us:=[.int .i64 (4096:Int)]) zero287 places287 rfl rfl) (z4 (us:=[.int .i64 (4096:Int)]) rfl rfl rfl (fun g1 w1 hB1 hg1 hl1=>?_))))))))))))
 have gr1:=hg1
 refine yp (h:=(zh (za (zg (zc (yp (h:=(yp (h:=(yp (h:=(zK rfl rfl (W_val_looker_lessT (GB.grown hG gr1) (qL gr1) (apC (Ge.le (Ge.box hl1) (Nat.le_refl _)) apN) hS3 hS7 hB1 (ha.grown gr1) (hb.grown gr1) (apC (ha.new (Ge.le (Ge.box hl1) (Nat.le_refl _))) apN) (apC (hb.new (Ge.le (Ge.box hl1) (Nat.le_refl _))) apN) H) ?_))))))))))))
 rintro _ w2 ⟨hgl1,t120,v_t121,t121,t8_,rfl,ht121,hB2,H⟩
 exact yp (h:=(yp (h:=(yp (h:=(yp (h:=(zh (za (zx (zW rfl rfl rfl ⟨(gr_modL gr1 hgl1 (apC (Ge.le (Ge.box hl1) (Nat.le_refl _)) apN)),t120,v_t121,t121,rfl,ht121,H⟩)))))))))))
end
 
section
open Go Go.RowKit
attribute [local irreducible] WL WC WX WQ WK WJ Yld Eff Ef0 Fn
def jE (a:PV) (b:PV) (cap0:Bool) (cap1:Bool) (K:Int->Prop):Prop :=
 ∃ J1:PV->PV->Prop,(((cap0=true->J1 b a) /\
 (cap0=false->J1 a b))) /\
 (∀ a2:PV,∀ b_2:PV,J1 a2 b_2->M_val_Less a2 b_2 (fun (t170:Bool) (t171:Er) =>
 M_val_Less b_2 a2 (fun (t230:Bool) (t231:Er) =>
 ((((!decide (t171=Er.ok)) || (!decide (t231=Er.ok)))=true->False) /\
 (((!decide (t171=Er.ok)) || (!decide (t231=Er.ok)))=false->((t170=true->K (-1:Int)) /\
 (t170=false->((t230=true->K (1:Int)) /\
 (t230=false->K (0:Int))))))))))
set_option maxHeartbeats 8000000 in
theorem ku {S:List Nat} {w:World} {v_a:OV} {F_a:Nat->Prop} {a:PV} {v_b:OV} {F_b:Nat->Prop} {b:PV} {a1:Nat} {cap0:Bool} {a0:Nat} {cap1:Bool} {K:Int->Prop} (hG:GOK S w) (hS3:3∈S) (hS7:7∈S) (ha:RelD deV w [(v_a,F_a)] [a]) (hb:RelD deV w [(v_b,F_b)] [b]) (hcap0:Bl w a1 4 [.bool cap0]) (hcap1:Bl w a0 4 [.bool cap1]) (H:jE a b cap0 cap1 K):Fn Tryz.prog 150 ⟨[v_a.1,v_b.1,.pointer (some ⟨a1,0,none⟩),.pointer (some ⟨a0,0,none⟩)]⟩ w (fun v w'=>w.grownBy w' none/\∃ (r:Int),v=.int .i64 r/\K r):=by
 unfold jE at H
 refine Fn.enter (by kernel_rfl) Tryz.func150 rfl Tryz.ntmps150 rfl ?_
 refine zg (zc (yp (h:=(zh (za (zg ?_))))))
 obtain ⟨J1,H,hJ1⟩:=H
 refine qk (fun L' w'=>∃ (v_a2:OV),∃ (F_a2:Nat->Prop),∃ (a2:PV),∃ (v_b2:OV),∃ (F_b2:Nat->Prop),∃ (b_2:PV),L'=[(0,v_a2.1),(1,v_b2.1),(3,.pointer (some ⟨a0,0,none⟩))]/\J1 a2 b_2/\w=w'/\RelD deV w' [(v_a2,F_a2)] [a2]/\RelD deV w' [(v_b2,F_b2)] [b_2]/\OrD (fun p=>DnD deV [(v_a,F_a)] [a] p/\DnD deV [(v_b,F_b)] [b] p) deV [(v_a2,F_a2)] [a2] w.heap.size/\OrD (fun p=>DnD deV [(v_a,F_a)] [a] p/\DnD deV [(v_b,F_b)] [b] p) deV [(v_b2,F_b2)] [b_2] w.heap.size) ?_ (fun hQ=>?_)
 ·clear H
  rintro _ _ ⟨v_a2,F_a2,a2,v_b2,F_b2,b_2,rfl,H,rfl,k1,k2,or1,or2⟩
  replace H:=hJ1 a2 b_2 H
  refine za (zg (zc (yp (h:=(yp (h:=(zK rfl rfl (W_val_Less hG hS3 hS7 k1 k2 H) ?_)))))))
  rintro _ w1 ⟨hg1,t170,v_t171,t171,rfl,ht171,H⟩
  have gr1:=hg1
  refine yp (h:=(yp (h:=(yp (h:=(yp (h:=(yp (h:=(zh (za (zg (zc (yp (h:=(yp (h:=(zK rfl rfl (W_val_Less (hG.grown gr1) hS3 hS7 (k2.grown hg1) (k1.grown hg1) H) ?_))))))))))))))))))
  rintro _ w2 ⟨hg2,t230,v_t231,t231,rfl,ht231,H⟩
  have gr2:=qI gr1 hg2
  refine yp (h:=(yp (h:=(yp (h:=(yp (h:=(yp (h:=(zh (za (zg (zg (zc (yp (h:=(zd rfl (qb Tryz.underlying43 (ht171.grown hg2) rfl) (yp (h:=(zV 3 (fun L' w'=>∃ q1:Bool,L'=[(31,.bool q1),(3,.pointer (some ⟨a0,0,none⟩)),(7,.bool t170),(9,.bool t230)]/\((!decide (t171=Er.ok)) || (!decide (t231=Er.ok)))=q1/\w2=w') ?_ (fun hQ=>?_)))))))))))))))))))))
  ·rintro _ _ ⟨q1,rfl,rfl,rfl⟩
   refine zh (za (zE rfl (fun b1=>?_) (fun b1=>?_)))
   ·replace H:=H.1 (b1)
    exact zg (False.elim H)
   ·replace H:=H.2 (b1)
    refine zt (za (zg (WC.block (zg (zc (yp (h:=(yp (h:=(zh (za (zE rfl (fun b2=>?_) (fun b2=>?_)))))))))))))
    ·replace H:=H.1 (b2)
     exact zg (zc (yp (h:=(zh (za (zx (zn (zi (zM rfl rfl ⟨gr2,(-1:Int),rfl,H⟩)))))))))
    ·replace H:=H.2 (b2)
     refine zg (zc (yp (h:=(yp (h:=(zh (za (zE rfl (fun b3=>?_) (fun b3=>?_)))))))))
     ·replace H:=H.1 (b3)
      exact zg (zc (yp (h:=(zh (za (zx (zn (zi (zM rfl rfl ⟨gr2,(1:Int),rfl,H⟩)))))))))
     ·replace H:=H.2 (b3)
      exact zt (zf (za (zg (zc (yp (h:=(zh (za (zx (zM rfl rfl ⟨gr2,(0:Int),rfl,H⟩))))))))))
  ·clear H
   rcases Bool.eq_false_or_eq_true (!decide (t171=Er.ok)) with b4 | b4
   ·exact gn b4 (h:=(gn b4 (h:=(zd rfl (zR (okb b4) rfl) (wk (hQ _ _ ⟨true,rfl,by rw [b4] <;> rfl,rfl⟩))))))
   ·exact gp b4 (h:=(zb rfl rfl (okb b4) rfl (qb Tryz.underlying43 ht231 rfl) (zd rfl (zN (okb b4) rfl) (wk (hQ _ _ ⟨!decide (t231=Er.ok),rfl,by rw [b4] <;> rfl,rfl⟩)))))
 ·clear hJ1
  refine zg (zc (zd rfl (zH qH hcap0 rfl rfl rfl) (zh (za (zE rfl (fun b5=>?_) (fun b5=>?_))))))
  ·replace H:=H.1 (b5)
   exact zc (yp (h:=(yp (h:=(yp (h:=(yp (h:=(zh (WX.weaken sb (hQ _ _ ⟨v_b,F_b,b,v_a,F_a,a,rfl,H,rfl,hb,ha,(fun p_ hp_ q_=>q_.2),(fun p_ hp_ q_=>q_.1)⟩)))))))))))
  ·replace H:=H.2 (b5)
   exact zt (WX.weaken sb (hQ _ _ ⟨v_a,F_a,a,v_b,F_b,b,rfl,H,rfl,ha,hb,(fun p_ hp_ q_=>q_.1),(fun p_ hp_ q_=>q_.2)⟩))
end
 
section
open Go Go.RowKit
attribute [local irreducible] WL WC WX WQ WK WJ Yld Eff Ef0 Fn
def jt (p_b:List UInt8) (K:Bool->Prop):Prop :=
 (p_b.length<=maxLen ->
 K (decide ((65536:Int)<=(p_b.length:Int))))
def jb (p_b:List UInt8) (l:List (List UInt8)) (K:(List UInt8)->Prop):Prop :=
 (p_b.length<=maxLen ->
 (l.length<=maxLen ->
 Lp2 (fun (t8:Int) (p0:List UInt8) kont1=>((t8<(l.length:Int)->(0<=t8/\t8<(l.length:Nat)) /\
 (In .i64 ((65536:Int) - (p0.length:Int))) /\
 (0<=(if ((65536:Int) - (p0.length:Int))<((l.getD t8.toNat []).length:Int) then (65536:Int) - (p0.length:Int) else ((l.getD t8.toNat []).length:Int))/\(if ((65536:Int) - (p0.length:Int))<((l.getD t8.toNat []).length:Int) then (65536:Int) - (p0.length:Int) else ((l.getD t8.toNat []).length:Int))<=(l.getD t8.toNat []).length) /\
 ((p0.length+((l.getD t8.toNat []).take (if ((65536:Int) - (p0.length:Int))<((l.getD t8.toNat []).length:Int) then (65536:Int) - (p0.length:Int) else ((l.getD t8.toNat []).length:Int)).toNat).length)*1<=140737488355328) /\
 (In .i64 (t8+(1:Int))) /\
 kont1 (t8+(1:Int)) (p0++((l.getD t8.toNat []).take (if ((65536:Int) - (p0.length:Int))<((l.getD t8.toNat []).length:Int) then (65536:Int) - (p0.length:Int) else ((l.getD t8.toNat []).length:Int)).toNat))) /\
 (¬ (t8<(l.length:Int))->K p0))) (0:Int) p_b))
def kp (p_b:List UInt8) (v_:PV) (deep:Int) (K:(List UInt8)->Prop):Prop :=
 (p_b.length<=maxLen ->
 jt p_b (fun (t17:Bool) =>
 ((t17=true->K p_b) /\
 (t17=false->(v_≠PV.none) /\
 ((∀ z:Int,v_=PV.int z->kh z 3 (fun (t41:List UInt8) =>
 jb p_b ([t41]:List (List UInt8)) (fun (p_:List UInt8) =>
 K p_))) /\
 ((∀ z,v_≠PV.int z)->False))))))
def jR (p_b:List UInt8) (l:List PV) (deep:Int) (K:(List UInt8)->Prop):Prop :=
 (p_b.length<=maxLen ->
 (l.length<=maxLen ->
 Lp2 (fun (t10:Int) (p0:List UInt8) kont1=>((t10<(l.length:Int)->(0<=t10/\t10<(l.length:Nat)) /\
 jt p0 (fun (t16:Bool) =>
 ((t16=true->K p0) /\
 (t16=false->∃ J1:(List UInt8)->Prop,((((0:Int)<t10->jb p0 ([([44,32]:List UInt8)]:List (List UInt8)) (fun (p_2:List UInt8) =>
 J1 p_2)) /\
 (¬ ((0:Int)<t10)->J1 p0))) /\
 (∀ p02:List UInt8,J1 p02->kp p02 (l.getD t10.toNat PV.nil) deep (fun (p_:List UInt8) =>
 (In .i64 (t10+(1:Int))) /\
 kont1 (t10+(1:Int)) p_)))))) /\
 (¬ (t10<(l.length:Int))->K p0))) (0:Int) p_b))
def kj (p_b:List UInt8) (v_:PV) (deep:Int) (K:(List UInt8)->Prop):Prop :=
 (p_b.length<=maxLen ->
 (((60:Int)<=deep->jb p_b ([([46,46,46]:List UInt8)]:List (List UInt8)) (fun (p_:List UInt8) =>
 K p_)) /\
 (¬ ((60:Int)<=deep)->((v_=PV.emp->jb p_b ([([91]:List UInt8)]:List (List UInt8)) (fun (p_2:List UInt8) =>
 (In .i64 (deep+(1:Int))) /\
 jR p_2 ([]:List PV) (deep+(1:Int)) (fun (p_3:List UInt8) =>
 jb p_3 ([([93]:List UInt8)]:List (List UInt8)) (fun (p_4:List UInt8) =>
 K p_4)))) /\
 (v_≠PV.emp->((∀ l:List Int,v_=PV.tup l->jb p_b ([([40]:List UInt8)]:List (List UInt8)) (fun (p_5:List UInt8) =>
 (In .i64 (deep+(1:Int))) /\
 jR p_5 (l.map PV.int) (deep+(1:Int)) (fun (p_6:List UInt8) =>
 ∃ J1:(List UInt8)->Prop,(((((l.map PV.int).length:Int)=(1:Int)->jb p_6 ([([44]:List UInt8)]:List (List UInt8)) (fun (p_8:List UInt8) =>
 J1 p_8)) /\
 (¬ (((l.map PV.int).length:Int)=(1:Int))->J1 p_6))) /\
 (∀ p0:List UInt8,J1 p0->jb p0 ([([41]:List UInt8)]:List (List UInt8)) (fun (p_7:List UInt8) =>
 K p_7))))) /\
 ((∀ l,v_≠PV.tup l)->K p_b)))))))
def kq (p_b:List UInt8) (v_:PV) (deep:Int) (K:(List UInt8)->Prop):Prop :=
 (p_b.length<=maxLen ->
 jt p_b (fun (t17:Bool) =>
 ((t17=true->K p_b) /\
 (t17=false->(v_≠PV.none) /\
 ((∀ z:Int,v_=PV.int z->kh z 3 (fun (t41:List UInt8) =>
 jb p_b ([t41]:List (List UInt8)) (fun (p_:List UInt8) =>
 K p_))) /\
 ((∀ z,v_≠PV.int z)->kj p_b v_ deep (fun (p_2:List UInt8) =>
 K p_2)))))))
def jM (v_:PV) (K:(List UInt8)->Prop):Prop :=
 kq [] v_ (0:Int) (fun (t5_:List UInt8) =>
 K t5_)
def M_val_weight (v_:PV) (most:Int) (K:Int->Prop):Prop :=
 ∃ J1:(List PV)->Prop,(((v_=PV.emp->J1 ([]:List PV)) /\
 (v_≠PV.emp->((∀ l2:List Int,v_=PV.tup l2->J1 (l2.map PV.int)) /\
 ((∀ l,v_≠PV.tup l)->J1 []))))) /\
 (∀ l:List PV,J1 l->Lp2 (fun (n:Int) (t63:Int) kont1=>((t63<(l.length:Int)->(0<=t63/\t63<(l.length:Nat)) /\
 ((most<n->K n) /\
 (¬ (most<n)->(In .i64 (most - n)) /\
 False))) /\
 (¬ (t63<(l.length:Int))->K n))) (1:Int) (0:Int))
def M_val_weightT (v_:PV) (most:Int) (K:Int->Prop):Prop :=
 ∃ J1:(List PV)->Prop,(((v_=PV.emp->J1 ([]:List PV)) /\
 (v_≠PV.emp->((∀ l2:List Int,v_=PV.tup l2->J1 (l2.map PV.int)) /\
 ((∀ l,v_≠PV.tup l)->J1 []))))) /\
 (∀ l:List PV,J1 l->Lp2 (fun (n:Int) (t63:Int) kont1=>((t63<(l.length:Int)->(0<=t63/\t63<(l.length:Nat)) /\
 ((most<n->K n) /\
 (¬ (most<n)->(In .i64 (most - n)) /\
 M_val_weight (l.getD t63.toNat PV.nil) (most - n) (fun (t76:Int) =>
 (In .i64 (n+t76)) /\
 (In .i64 (t63+(1:Int))) /\
 kont1 (n+t76) (t63+(1:Int)))))) /\
 (¬ (t63<(l.length:Int))->K n))) (1:Int) (0:Int))
def M_val_Light (most:Int) (l:List PV) (K:Bool->Prop):Prop :=
 (l.length<=maxLen ->
 Lp2 (fun (most2:Int) (t9:Int) kont1=>((t9<(l.length:Int)->(0<=t9/\t9<(l.length:Nat)) /\
 M_val_weightT (l.getD t9.toNat PV.nil) most2 (fun (t16:Int) =>
 (In .i64 (most2 - t16)) /\
 (((most2 - t16)<(0:Int)->K false) /\
 (¬ ((most2 - t16)<(0:Int))->(In .i64 (t9+(1:Int))) /\
 kont1 (most2 - t16) (t9+(1:Int)))))) /\
 (¬ (t9<(l.length:Int))->K true))) most (0:Int))
def qZ (s:List PV) (K:(List PV)->Prop):Prop :=
 (s.length<=maxLen ->
 ((s=[]->K []) /\
 ((((([]:List PV)).length+s.length)*16<=140737488355328) /\
 K (([]:List PV)++s))))
set_option maxHeartbeats 8000000 in
theorem kr {w:World} {g_p:Nat} {p_b:List UInt8} {a0:Option Addr} {a3:Nat} {a5:Nat} {K:Bool->Prop} (hp_b:Rd vb w a0 a3 p_b) (a6:a5=p_b.length) (hp:Bl w g_p 153 [.slice a0 a5 a3]) (H:jt p_b K):Fn Tryz.prog 136 ⟨[.pointer (some ⟨g_p,0,none⟩)]⟩ w (fun v w'=>w=w'/\∃ (r:Bool),v=.bool r/\K r):=by
 subst a6
 unfold jt at H
 refine Fn.enter (by kernel_rfl) Tryz.func136 rfl Tryz.ntmps136 rfl ?_
 replace H:=H (Nat.le_trans hp_b.cap hp_b.max)
 exact zg (zc (yp (h:=(zh (za (zg (zc (yp (h:=(yp (h:=(yp (h:=(zd rfl (zH qH hp rfl rfl rfl) (yp (h:=(yp (h:=(yp (h:=(zh (za (zx (zM rfl rfl ⟨rfl,decide ((65536:Int)<=(p_b.length:Int)),rfl,H⟩))))))))))))))))))))))))
set_option maxHeartbeats 8000000 in
theorem ji {w:World} {g_p:Nat} {p_b:List UInt8} {a0:Option Addr} {a3:Nat} {l:List (List UInt8)} {A_l:Option Addr} {c_l:Nat} {a5:Nat} {n_l:Nat} {K:(List UInt8)->Prop} (hp_b:Own vb w 0 5 a0 a3 p_b) (a6:a5=p_b.length) (hp:Bl w g_p 153 [.slice a0 a5 a3]) (hl:Rd vs w A_l c_l l) (c3:n_l=l.length) (hdj0_1:Dj (some g_p) (blk a0)) (hap0:AllP (Dn l (blk A_l)) [(some g_p),(blk a0)]) (H:jb p_b l K):Fn Tryz.prog 137 ⟨[.pointer (some ⟨g_p,0,none⟩),.slice A_l n_l c_l]⟩ w (fun v w'=>GrL [(some g_p),(blk a0)] w w'/\∃ (p_b2:List UInt8),∃ (a1:Option Addr),∃ (a4:Nat),v=.tuple #[]/\Bl w' g_p 153 [.slice a1 p_b2.length a4]/\Own vb w' 0 5 a1 a4 p_b2/\InP [(some g_p),(blk a0)] w.heap.size (blk a1)/\Dj (some g_p) (blk a1)/\K p_b2):=by
 subst a6
 subst c3
 unfold jb at H
 refine Fn.enter (by kernel_rfl) Tryz.func137 rfl Tryz.ntmps137 rfl ?_
 replace H:=H (Nat.le_trans hp_b.rd.cap hp_b.rd.max)
 replace H:=H (Nat.le_trans hl.cap hl.max)
 have hNoAt:AllP (NoAt w) [(some g_p),(blk a0)]:=(apC (NoAt.bl hp rfl) (apC (NoAt.own hp_b rfl) apN))
 refine zg (zc (yp (h:=(yp (h:=(yp (h:=(zh (za (WC.block ?_))))))))))
 obtain ⟨I1,mu1,b0,HR1⟩:=H
 refine z7 (fun n' L' w'=>∃ (t8:Int),∃ (p0:List UInt8),∃ (a8:Option Addr),∃ (a9:Nat),∃ (b7:Nat),n'=mu1 t8 p0/\L'=[(0,.pointer (some ⟨g_p,0,none⟩)),(6,.slice A_l l.length c_l),(7,.int .i64 (l.length:Int)),(8,.int .i64 t8)]/\I1 t8 p0/\b7=p0.length/\GrL [(some g_p),(blk a0)] w w'/\Bl w' g_p 153 [.slice a8 b7 a9]/\Own vb w' 0 5 a8 a9 p0/\Dj (some g_p) (blk a8)/\InP [(some g_p),(blk a0)] w.heap.size (blk a8)) _ _ ⟨(0:Int),p_b,a0,a3,p_b.length,rfl,rfl,b0,rfl,(GrL.refl _),hp,hp_b,hdj0_1,(InP.mem (List.Mem.tail _ (List.Mem.head _)))⟩ sb ?_
 clear b0
 rintro _ _ w1 ⟨t8,p0,a8,a9,b7,rfl,rfl,hI1,rfl,gr1,k1,k2,dj1,hi1⟩
 have H:=HR1 t8 p0 hI1
 refine zg (zc (yp (h:=(zh (za (zg (zE rfl (fun b1=>?_) (fun b1=>?_))))))))
 ·replace H:=H.1 (of_decide_eq_true b1)
  refine zt (za (zg (WC.block (zg (zc ?_)))))
  obtain ⟨h1,H⟩:=H
  refine zd rfl (zP qH (hl.goL gr1 hap0) rfl rfl rfl rfl h1.1 h1.2) (zd rfl (zQ [] qH (hl.goL gr1 hap0) rfl rfl (iltN h1 rfl)) (yp (h:=(zh (za (zY (fun k => !(Nat.beq k 16 || Nat.beq k 19)) (LD [4,11] (fun w'=>Bl w' g_p 153 [.slice a8 p0.length a9])) jg (by kernel_rfl) (fun k w' h _=>(jz h k1)) (zL rfl rfl (fun w' hw'=>ze qH rfl) (zL rfl rfl (fun w' hw'=>ze qH rfl) (zL rfl rfl (fun w' hw'=>ze qH rfl) (zL rfl rfl (fun w' hw'=>ze qH rfl) (zL rfl rfl (fun w' hw'=>zH qH (hw' rfl) rfl rfl rfl) (zL rfl rfl (fun w' hw'=>ze qH rfl) (zL rfl rfl (fun w' hw'=>ze qH rfl) (zL rfl rfl (fun w' hw'=>ze qH rfl) (zL rfl rfl (fun w' hw'=>ze qH rfl) (zL rfl rfl (fun w' hw'=>ze qH rfl) (zL rfl rfl (fun w' hw'=>ze qH rfl) (zL rfl rfl (fun w' hw'=>zH qH (hw' rfl) rfl rfl rfl) (zL rfl rfl (fun w' hw'=>ze qH rfl) ?_)))))))))))))))))))
  obtain ⟨h2,H⟩:=H
  refine zL rfl rfl (fun w' hw'=>Yld.sub rfl rfl h2) (zL rfl rfl (fun w' hw'=>zB rfl rfl) ?_)
  obtain ⟨h3,H⟩:=H
  refine zL rfl rfl (fun w' hw'=>Yld.scut qH rfl rfl rfl rfl (Int.le_refl 0) h3.1 h3.2) ?_
  obtain ⟨h4,H⟩:=H
  refine WJ.putw rfl (qK) rfl (Eff.appendS qH rfl rfl k2 rfl rfl rfl h4 (applen h4) (Nat.zero_le _)) (fun v w' ⟨_,_,_,_,h,_⟩=>DD.keep (Bl.go k1 (qN h (Eqv.refl _)) dj1)) ?_
  rintro _ w2 ⟨d1,d2,rfl,hO1,hg1,hk1⟩
  have gr2:GrL [(some g_p),(blk a0)] w w2:=GrL.mod gr1 hg1 hi1
  refine zL rfl rfl (fun w' hw'=>ze qH rfl) (zL rfl rfl (fun w' hw'=>ze qH rfl) (qt rfl (Ef0.store1 one151 rfl rfl rfl (k1.go hg1 dj1) (by simp)) (fun w' h=>qi (by kernel_rfl)) ?_))
  rintro w3 ⟨hB2,hg2⟩
  have hB1:Bl w3 g_p 153 [.slice d1 ((p0++((l.getD t8.toNat []).take (if ((65536:Int) - (p0.length:Int))<((l.getD t8.toNat []).length:Int) then (65536:Int) - (p0.length:Int) else ((l.getD t8.toNat []).length:Int)).toNat)).length) d2]:=hB2
  have gr3:GrL [(some g_p),(blk a0)] w w3:=GrL.mod gr2 hg2 (InP.mem (List.Mem.head _))
  refine qh (zf (za (zc ?_)))
  obtain ⟨h5,H⟩:=H
  exact zd rfl (Yld.add rfl rfl h5) (yp (h:=(zh (zZ _ ⟨t8+(1:Int),p0++((l.getD t8.toNat []).take (if ((65536:Int) - (p0.length:Int))<((l.getD t8.toNat []).length:Int) then (65536:Int) - (p0.length:Int) else ((l.getD t8.toNat []).length:Int)).toNat),d1,d2,(p0++((l.getD t8.toNat []).take (if ((65536:Int) - (p0.length:Int))<((l.getD t8.toNat []).length:Int) then (65536:Int) - (p0.length:Int) else ((l.getD t8.toNat []).length:Int)).toNat)).length,rfl,rfl,H.1,rfl,gr3,hB1,(hO1.go hg2 (Dj.app dj1.symm k1.lt' hk1)),(Dj.app dj1.symm k1.lt' hk1).symm,(InP.app hi1 hk1 (GrL.sizeL gr1))⟩ sb H.2))))
 ·replace H:=H.2 (of_decide_eq_false b1)
  exact zy (zm (zm (zk (qa rfl ⟨gr1,p0,a8,a9,rfl,k1,k2,hi1,dj1,H⟩))))
set_option maxHeartbeats 8000000 in
theorem W_pval_printer_repr {w:World} {g_p:Nat} {p_b:List UInt8} {a0:Option Addr} {a3:Nat} {v_v:OV} {F_v:Nat->Prop} {v_:PV} {deep:Int} {a5:Nat} {K:(List UInt8)->Prop} (hp_b:Own vb w 0 5 a0 a3 p_b) (a6:a5=p_b.length) (hp:Bl w g_p 153 [.slice a0 a5 a3]) (hv_:RelD deV w [(v_v,F_v)] [v_]) (hdj0_1:Dj (some g_p) (blk a0)) (hap0:AllP (DnD deV [(v_v,F_v)] [v_]) [(some g_p),(blk a0)]) (H:kp p_b v_ deep K):Fn Tryz.prog 82 ⟨[.pointer (some ⟨g_p,0,none⟩),v_v.1,.int .i64 deep]⟩ w (fun v w'=>GrL [(some g_p),(blk a0)] w w'/\∃ (p_b2:List UInt8),∃ (a1:Option Addr),∃ (a4:Nat),v=.tuple #[]/\Bl w' g_p 153 [.slice a1 p_b2.length a4]/\Own vb w' 0 5 a1 a4 p_b2/\InP [(some g_p),(blk a0)] w.heap.size (blk a1)/\Dj (some g_p) (blk a1)/\K p_b2):=by
 subst a6
 unfold kp at H
 refine Fn.enter (by kernel_rfl) Tryz.func82 rfl Tryz.ntmps82 rfl ?_
 replace H:=H (Nat.le_trans hp_b.rd.cap hp_b.rd.max)
 have hNoAt:AllP (NoAt w) [(some g_p),(blk a0)]:=(apC (NoAt.bl hp rfl) (apC (NoAt.own hp_b rfl) apN))
 refine zg (zg (zc (yp (h:=(zK rfl rfl (kr hp_b.rd rfl hp H) ?_)))))
 rintro _ _ ⟨rfl,t17,rfl,H⟩
 refine zh (za (zE rfl (fun b1=>?_) (fun b1=>?_)))
 ·replace H:=H.1 (b1)
  exact zx (zi (WX.ret0 rfl ⟨(GrL.refl _),p_b,a0,a3,rfl,hp,hp_b,(InP.mem (List.Mem.tail _ (List.Mem.head _))),hdj0_1,H⟩))
 ·replace H:=H.2 (b1)
  refine zt (za (zg (zc (yp (h:=(zh (za (WC.block (zg (zc ?_))))))))))
  obtain ⟨h1,H⟩:=H
  refine zd rfl (qV (z:=.agg ⟨[]⟩) Tryz.underlying221 rfl (fun _=>by kernel_rfl) hv_ rfl (tyP_none h1)) (yp (h:=(yp (h:=(zh (za (zE rfl (fun h=>by cases h) (fun _=>zg (zc (zd rfl (qV (z:=.bool false) Tryz.underlying223 rfl (fun _=>by kernel_rfl) hv_ rfl (tyP_no rfl v_)) (yp (h:=(yp (h:=(zh (za (zE rfl (fun h=>by cases h) (fun _=>zg (zc ?_)))))))))))))))))))
  rcases PV.intCases v_ with ⟨z,he1⟩ | he1
  ·replace H:=H.1 z he1
   obtain ⟨a,b,hv1,hN1,one1,one2,hL1⟩:=VR.intOut hv_ he1
   refine zd rfl (jc Tryz.underlying208 rfl rfl hv1) (yp (h:=(yp (h:=(zh (za (zE rfl (fun _=>zg (zc (WL.alloc rfl zero208 (fun g1 w1 hB1 hg1 hl1=>zT (vs:=[a,b]) qH rfl rfl rfl (qO one1 (qO one2 jf)) hB1 rfl rfl (fun w2 hB2 hg2=>?_))))) (fun h=>by cases h))))))))
   have gr2:GrL [(some g_p),(blk a0)] w w2:=GrL.mod ((GrL.of0 (ps:=[(some g_p),(blk a0)]) hg1)) hg2 (InP.ge (Ge.le (Ge.box hl1) (Nat.le_refl _)))
   refine zh (za (zc (yp (h:=(zd rfl (zX (o:=0) (by kernel_rfl) rfl) (zd rfl (zO (vs:=[a,b]) qH hB2 rfl rfl rfl rfl) (zK rfl rfl (W_num_Num_Text (Nm.goV (hN1.grown hg1) hL1 (GrL.of1 hg2) (apC (DnD.one (hv_.inp hap0 (InP.ge (Ge.le (Ge.box hl1) (Nat.le_refl _))))) apN)) H) ?_)))))))
   rintro _ w3 ⟨hg3,t41,rfl,H⟩
   have gr3:=GrL.add0 gr2 hg3
   have k7:=((hp_b.grown hg1).go hg2 (Dj.new hp_b.lt' (Ge.box hl1))).grown hg3
   have k8:=((hp.g0 hg1).go hg2 (Dj.new hp.lt' (Ge.box hl1))).g0 hg3
   refine qg qH rfl rfl rfl (qO rfl jf) rfl (by omega) (fun g2 w4 hB3 hg4 hl2=>?_)
   have hO1:Own vs w4 w.heap.size 9 (some ⟨g2,0,none⟩) 1 ([t41]:List (List UInt8)):=Own.ofBl hB3 (Nat.le_trans (GrL.sizeL gr3) hl2) (by simp [maxLen]) rfl
   have gr4:=GrL.add0 gr3 hg4
   refine zK rfl rfl (ji (k7.grown hg4) rfl (k8.g0 hg4) hO1.rd rfl hdj0_1 (apC (Dn.of (Dj.new k8.lt' (Ge.box hl2)).symm) (apC (Dn.of (Dj.new k7.lt' (Ge.box hl2)).symm) apN)) H) ?_
   rintro _ w5 ⟨hgl1,p_,b4,c0,rfl,hB4,hO2,hi1,dj1,H⟩
   have hi2:InP [(some g_p),(blk a0)] w.heap.size (blk b4):=InP.trans hi1 (apC (InP.mem (List.Mem.head _)) (apC (InP.mem (List.Mem.tail _ (List.Mem.head _))) apN)) (GrL.sizeL gr4)
   have gr5:GrL [(some g_p),(blk a0)] w w5:=GrL.modL gr4 hgl1 (apC (InP.mem (List.Mem.head _)) (apC (InP.mem (List.Mem.tail _ (List.Mem.head _))) apN))
   exact zh (zf (qa rfl ⟨gr5,p_,b4,c0,rfl,hB4,hO2,hi2,dj1,H⟩))
  ·replace H:=H.2 he1
   exact zd rfl (qV (z:=.agg ⟨[.bool false,.slice none 0 0]⟩) Tryz.underlying208 rfl (fun _=>by kernel_rfl) hv_ rfl (tyP_int he1)) (yp (h:=(yp (h:=(zh (za (zE rfl (fun h=>by cases h) (fun _=>zg (zc (zd rfl (qV (z:=vs ([]:List UInt8)) Tryz.underlying169 rfl (fun _=>by kernel_rfl) hv_ rfl (tyP_no rfl v_)) (yp (h:=(yp (h:=(zh (za (zE rfl (fun h=>by cases h) (fun _=>zg (zc (zd rfl (assertNoI (z:=.nilIface) Tryz.underlying227 (fun _=>by kernel_rfl) (by decide +kernel) hv_ rfl) (yp (h:=(yp (h:=(zh (za (zE rfl (fun h=>by cases h) (fun _=>zg (zc (zd rfl (assertNoI (z:=.nilIface) Tryz.underlying229 (fun _=>by kernel_rfl) (by decide +kernel) hv_ rfl) (yp (h:=(yp (h:=(zh (za (zE rfl (fun h=>by cases h) (fun _=>zg (zc (zd rfl (assertNoI (z:=.nilIface) Tryz.underlying232 (fun _=>by kernel_rfl) (by decide +kernel) hv_ rfl) (yp (h:=(yp (h:=(zh (za (zE rfl (fun h=>by cases h) (fun _=>zg (zc (yp (h:=(zh (za (zc (yp (h:=(yp (h:=(yp (h:=(False.elim H)))))))))))))))))))))))))))))))))))))))))))))))))))))))))))))
set_option maxHeartbeats 8000000 in
theorem W_pval_printer_items {w:World} {g_p:Nat} {p_b:List UInt8} {a0:Option Addr} {a3:Nat} {l:List PV} {A_l:Option Addr} {c_l:Nat} {a7:List VH} {deep:Int} {a5:Nat} {n_l:Nat} {K:(List UInt8)->Prop} (hp_b:Own vb w 0 5 a0 a3 p_b) (a6:a5=p_b.length) (hp:Bl w g_p 153 [.slice a0 a5 a3]) (hl:Rd vv w A_l c_l a7) (c3:n_l=l.length) (a2:RelD deV w a7 l) (hdj0_1:Dj (some g_p) (blk a0)) (hap0:AllP (Dn a7 (blk A_l)) [(some g_p),(blk a0)]) (hap1:AllP (DnD deV a7 l) [(some g_p),(blk a0)]) (H:jR p_b l deep K):Fn Tryz.prog 141 ⟨[.pointer (some ⟨g_p,0,none⟩),.slice A_l n_l c_l,.int .i64 deep]⟩ w (fun v w'=>GrL [(some g_p),(blk a0)] w w'/\∃ (p_b2:List UInt8),∃ (a1:Option Addr),∃ (a4:Nat),v=.tuple #[]/\Bl w' g_p 153 [.slice a1 p_b2.length a4]/\Own vb w' 0 5 a1 a4 p_b2/\InP [(some g_p),(blk a0)] w.heap.size (blk a1)/\Dj (some g_p) (blk a1)/\K p_b2):=by
 subst a6
 subst c3
 unfold jR at H
 refine Fn.enter (by kernel_rfl) Tryz.func141 rfl Tryz.ntmps141 rfl ?_
 replace H:=H (Nat.le_trans hp_b.rd.cap hp_b.rd.max)
 replace H:=H (by rw [<-a2.1]; exact Nat.le_trans hl.cap hl.max)
 have hNoAt:AllP (NoAt w) [(some g_p),(blk a0)]:=(apC (NoAt.bl hp rfl) (apC (NoAt.own hp_b rfl) apN))
 refine zg (zc (yp (h:=(yp (h:=(yp (h:=(zh (za (WC.block ?_))))))))))
 obtain ⟨I1,mu1,b0,HR1⟩:=H
 refine z7 (fun n' L' w'=>∃ (t10:Int),∃ (p0:List UInt8),∃ (a8:Option Addr),∃ (a9:Nat),∃ (b7:Nat),n'=mu1 t10 p0/\L'=[(0,.pointer (some ⟨g_p,0,none⟩)),(2,.int .i64 deep),(8,.slice A_l l.length c_l),(9,.int .i64 (l.length:Int)),(10,.int .i64 t10)]/\I1 t10 p0/\b7=p0.length/\GrL [(some g_p),(blk a0)] w w'/\Bl w' g_p 153 [.slice a8 b7 a9]/\Own vb w' 0 5 a8 a9 p0/\Dj (some g_p) (blk a8)/\InP [(some g_p),(blk a0)] w.heap.size (blk a8)) _ _ ⟨(0:Int),p_b,a0,a3,p_b.length,rfl,rfl,b0,rfl,(GrL.refl _),hp,hp_b,hdj0_1,(InP.mem (List.Mem.tail _ (List.Mem.head _)))⟩ sb ?_
 clear b0
 rintro _ _ w1 ⟨t10,p0,a8,a9,b7,rfl,rfl,hI1,rfl,gr1,k1,k2,dj1,hi1⟩
 have H:=HR1 t10 p0 hI1
 refine zg (zc (yp (h:=(zh (za (zg (zE rfl (fun b1=>?_) (fun b1=>?_))))))))
 ·replace H:=H.1 (of_decide_eq_true b1)
  refine zt (za (zg (WC.block (zg (zc (yp (h:=?_)))))))
  obtain ⟨h1,H⟩:=H
  refine zd rfl (zP qH (hl.goL gr1 hap0) rfl rfl a2.1.symm rfl h1.1 h1.2) ?_
  obtain ⟨⟨v_el,F_el⟩,eh1,hR1⟩:=RelD.at (a2.goL gr1 hap1) vh0 PV.nil (j:=t10.toNat) (Nat.lt_of_lt_of_eq (iltN h1 a2.1.symm) (a2.goL gr1 hap1).1)
  have hv1:RelD deV w1 [(v_el,F_el)] [l.getD t10.toNat PV.nil]:=RelD.cons hR1 RelD.nil
  refine zd rfl (qd (v:=v_el.1) (zQ vh0 qH (hl.goL gr1 hap0) rfl rfl (iltN h1 a2.1.symm)) (congrArg vv eh1)) (yp (h:=(yp (h:=(zh (za (zg (zg (zc (yp (h:=(zK rfl rfl (kr k2.rd rfl k1 H) ?_))))))))))))
  rintro _ _ ⟨rfl,t16,rfl,H⟩
  refine zh (za (zE rfl (fun b2=>?_) (fun b2=>?_)))
  ·replace H:=H.1 (b2)
   exact zx (zi (zn (zi (zi (zn (WX.ret0 rfl ⟨gr1,p0,a8,a9,rfl,k1,k2,hi1,dj1,H⟩))))))
  ·replace H:=H.2 (b2)
   refine zt (za (zg ?_))
   obtain ⟨J1,H,hJ1⟩:=H
   refine qk (fun L' w'=>∃ (p02:List UInt8),∃ (b8:Option Addr),∃ (c2:Nat),∃ (c4:Nat),L'=[(0,.pointer (some ⟨g_p,0,none⟩)),(2,.int .i64 deep),(7,v_el.1),(8,.slice A_l l.length c_l),(9,.int .i64 (l.length:Int)),(10,.int .i64 t10)]/\J1 p02/\c4=p02.length/\GrL [(some g_p),(blk a0)] w w'/\Bl w' g_p 153 [.slice b8 c4 c2]/\RelD deV w' [(v_el,F_el)] [l.getD t10.toNat PV.nil]/\Own vb w' 0 5 b8 c2 p02/\Dj (some g_p) (blk b8)/\DnD deV [(v_el,F_el)] [l.getD t10.toNat PV.nil] (blk b8)/\InP [(some g_p),(blk a0)] w.heap.size (blk b8)) ?_ (fun hQ=>?_)
   ·clear H
    rintro _ w2 ⟨p02,b8,c2,c4,rfl,H,rfl,gr2,k3,k4,k5,dj2,dj3,hi2⟩
    replace H:=hJ1 p02 H
    refine za (zc (yp (h:=(yp (h:=(yp (h:=(zK rfl rfl (W_pval_printer_repr k5 rfl k3 k4 dj2 (apC (DnD.cons (DnD.at (a2.inp hap1 (InP.mem (List.Mem.head _))) (a2.goL gr1 hap1).1 (Nat.lt_of_lt_of_eq (iltN h1 a2.1.symm) (a2.goL gr1 hap1).1) eh1) DnD.nil) (apC dj3 apN)) H) ?_))))))))
    rintro _ w3 ⟨hgl1,p_,b4,c0,rfl,hB1,hO1,hi3,dj4,H⟩
    have hi4:InP [(some g_p),(blk a0)] w.heap.size (blk b4):=InP.trans hi3 (apC (InP.mem (List.Mem.head _)) (apC hi2 apN)) (GrL.sizeL gr2)
    have gr3:GrL [(some g_p),(blk a0)] w w3:=GrL.modL gr2 hgl1 (apC (InP.mem (List.Mem.head _)) (apC hi2 apN))
    refine zh (zf (za (zc ?_)))
    obtain ⟨h2,H⟩:=H
    exact zd rfl (Yld.add rfl rfl h2) (yp (h:=(zh (zZ _ ⟨t10+(1:Int),p_,b4,c0,p_.length,rfl,rfl,H.1,rfl,gr3,hB1,hO1,dj4,hi4⟩ sb H.2))))
   ·clear hJ1
    refine zg (zc (yp (h:=(yp (h:=(zh (za (zE rfl (fun b3=>?_) (fun b3=>?_)))))))))
    ·replace H:=H.1 (of_decide_eq_true b3)
     refine zc (yp (h:=(qg qH rfl rfl rfl (qO rfl jf) rfl (by omega) (fun g1 w4 hB2 hg1 hl1=>?_))))
     have hO2:Own vs w4 w.heap.size 9 (some ⟨g1,0,none⟩) 1 ([([44,32]:List UInt8)]:List (List UInt8)):=Own.ofBl hB2 (Nat.le_trans (GrL.sizeL gr1) hl1) (by simp [maxLen]) rfl
     have gr4:=GrL.add0 gr1 hg1
     have k8:=hv1.grown hg1
     refine zK rfl rfl (ji (k2.grown hg1) rfl (k1.g0 hg1) hO2.rd rfl dj1 (apC (Dn.of (Dj.new k1.lt' (Ge.box hl1)).symm) (apC (Dn.of (Dj.new k2.lt' (Ge.box hl1)).symm) apN)) H) ?_
     rintro _ w5 ⟨hgl2,p_2,b5,c1,rfl,hB3,hO3,hi5,dj5,H⟩
     have hi6:InP [(some g_p),(blk a0)] w.heap.size (blk b5):=InP.trans hi5 (apC (InP.mem (List.Mem.head _)) (apC hi1 apN)) (GrL.sizeL gr4)
     have gr5:GrL [(some g_p),(blk a0)] w w5:=GrL.modL gr4 hgl2 (apC (InP.mem (List.Mem.head _)) (apC hi1 apN))
     exact zh (WX.weaken sb (hQ _ _ ⟨p_2,b5,c1,p_2.length,rfl,H,rfl,gr5,hB3,(k8.goL hgl2 (apC (DnD.cons (DnD.at (a2.inp hap1 (InP.mem (List.Mem.head _))) (a2.goL gr1 hap1).1 (Nat.lt_of_lt_of_eq (iltN h1 a2.1.symm) (a2.goL gr1 hap1).1) eh1) DnD.nil) (apC (DnD.cons (DnD.at (a2.inp hap1 hi1) (a2.goL gr1 hap1).1 (Nat.lt_of_lt_of_eq (iltN h1 a2.1.symm) (a2.goL gr1 hap1).1) eh1) DnD.nil) apN))),hO3,dj5,(RelD.inp k8 (apC (DnD.cons (DnD.at (a2.inp hap1 (InP.mem (List.Mem.head _))) (a2.goL gr1 hap1).1 (Nat.lt_of_lt_of_eq (iltN h1 a2.1.symm) (a2.goL gr1 hap1).1) eh1) DnD.nil) (apC (DnD.cons (DnD.at (a2.inp hap1 hi1) (a2.goL gr1 hap1).1 (Nat.lt_of_lt_of_eq (iltN h1 a2.1.symm) (a2.goL gr1 hap1).1) eh1) DnD.nil) apN)) hi5),hi6⟩))
    ·replace H:=H.2 (of_decide_eq_false b3)
     exact zt (WX.weaken sb (hQ _ _ ⟨p0,a8,a9,p0.length,rfl,H,rfl,gr1,k1,hv1,k2,dj1,(DnD.cons (DnD.at (a2.inp hap1 hi1) (a2.goL gr1 hap1).1 (Nat.lt_of_lt_of_eq (iltN h1 a2.1.symm) (a2.goL gr1 hap1).1) eh1) DnD.nil),hi1⟩))
 ·replace H:=H.2 (of_decide_eq_false b1)
  exact zy (zm (zm (zk (qa rfl ⟨gr1,p0,a8,a9,rfl,k1,k2,hi1,dj1,H⟩))))
set_option maxHeartbeats 8000000 in
theorem W_pval_printer_parts {w:World} {g_p:Nat} {p_b:List UInt8} {a0:Option Addr} {a3:Nat} {v_v:OV} {F_v:Nat->Prop} {v_:PV} {deep:Int} {a5:Nat} {K:(List UInt8)->Prop} (hp_b:Own vb w 0 5 a0 a3 p_b) (a6:a5=p_b.length) (hp:Bl w g_p 153 [.slice a0 a5 a3]) (hv_:RelD deV w [(v_v,F_v)] [v_]) (hdj0_1:Dj (some g_p) (blk a0)) (hap0:AllP (DnD deV [(v_v,F_v)] [v_]) [(some g_p),(blk a0)]) (H:kj p_b v_ deep K):Fn Tryz.prog 142 ⟨[.pointer (some ⟨g_p,0,none⟩),v_v.1,.int .i64 deep]⟩ w (fun v w'=>GrL [(some g_p),(blk a0)] w w'/\∃ (p_b2:List UInt8),∃ (a1:Option Addr),∃ (a4:Nat),v=.tuple #[]/\Bl w' g_p 153 [.slice a1 p_b2.length a4]/\Own vb w' 0 5 a1 a4 p_b2/\InP [(some g_p),(blk a0)] w.heap.size (blk a1)/\Dj (some g_p) (blk a1)/\K p_b2):=by
 subst a6
 unfold kj at H
 refine Fn.enter (by kernel_rfl) Tryz.func142 rfl Tryz.ntmps142 rfl ?_
 replace H:=H (Nat.le_trans hp_b.rd.cap hp_b.rd.max)
 have hNoAt:AllP (NoAt w) [(some g_p),(blk a0)]:=(apC (NoAt.bl hp rfl) (apC (NoAt.own hp_b rfl) apN))
 refine zg (zg (zc (yp (h:=(yp (h:=(zh (za (zE rfl (fun b1=>?_) (fun b1=>?_))))))))))
 ·replace H:=H.1 (of_decide_eq_true b1)
  refine zg (zc (yp (h:=(qg qH rfl rfl rfl (qO rfl jf) rfl (by omega) (fun g1 w1 hB1 hg1 hl1=>?_)))))
  have hO1:Own vs w1 w.heap.size 9 (some ⟨g1,0,none⟩) 1 ([([46,46,46]:List UInt8)]:List (List UInt8)):=Own.ofBl hB1 (Nat.le_trans (Nat.le_refl _) hl1) (by simp [maxLen]) rfl
  have gr1:=(GrL.of0 (ps:=[(some g_p),(blk a0)]) hg1)
  refine zK rfl rfl (ji (hp_b.grown hg1) rfl (hp.g0 hg1) hO1.rd rfl hdj0_1 (apC (Dn.of (Dj.new hp.lt' (Ge.box hl1)).symm) (apC (Dn.of (Dj.new hp_b.lt' (Ge.box hl1)).symm) apN)) H) ?_
  rintro _ w2 ⟨hgl1,p_,b4,c0,rfl,hB2,hO2,hi1,dj1,H⟩
  have hi2:InP [(some g_p),(blk a0)] w.heap.size (blk b4):=InP.trans hi1 (apC (InP.mem (List.Mem.head _)) (apC (InP.mem (List.Mem.tail _ (List.Mem.head _))) apN)) (GrL.sizeL gr1)
  have gr2:GrL [(some g_p),(blk a0)] w w2:=GrL.modL gr1 hgl1 (apC (InP.mem (List.Mem.head _)) (apC (InP.mem (List.Mem.tail _ (List.Mem.head _))) apN))
  exact zh (za (zx (zi (WX.ret0 rfl ⟨gr2,p_,b4,c0,rfl,hB2,hO2,hi2,dj1,H⟩))))
 ·replace H:=H.2 (of_decide_eq_false b1)
  refine zt (za (zg (zc (yp (h:=(zh (za (WC.block (zg (zc ?_))))))))))
  rcases PV.empCases v_ with he1 | he1
  ·replace H:=H.1 he1
   obtain ⟨g_l,A_l,c_l,hv1,hB3,hR1,hr1,hd1⟩:=VR.empOut hv_ he1
   refine zd rfl (jc Tryz.underlying61 rfl rfl hv1) (yp (h:=(yp (h:=(zh (za (zE rfl (fun _=>zg (zc (yp (h:=(zh (za (zg (zc (yp (h:=(qg qH rfl rfl rfl (qO rfl jf) rfl (by omega) (fun g2 w3 hB4 hg2 hl2=>?_)))))))))))) (fun h=>by cases h))))))))
   have hO3:Own vs w3 w.heap.size 9 (some ⟨g2,0,none⟩) 1 ([([91]:List UInt8)]:List (List UInt8)):=Own.ofBl hB4 (Nat.le_trans (Nat.le_refl _) hl2) (by simp [maxLen]) rfl
   have gr3:=(GrL.of0 (ps:=[(some g_p),(blk a0)]) hg2)
   have k5:=hR1.grown hg2
   have k6:=hr1.grown hg2
   refine zK rfl rfl (ji (hp_b.grown hg2) rfl (hp.g0 hg2) hO3.rd rfl hdj0_1 (apC (Dn.of (Dj.new hp.lt' (Ge.box hl2)).symm) (apC (Dn.of (Dj.new hp_b.lt' (Ge.box hl2)).symm) apN)) H) ?_
   rintro _ w4 ⟨hgl2,p_2,b5,c1,rfl,hB5,hO4,hi3,dj2,H⟩
   have hi4:InP [(some g_p),(blk a0)] w.heap.size (blk b5):=InP.trans hi3 (apC (InP.mem (List.Mem.head _)) (apC (InP.mem (List.Mem.tail _ (List.Mem.head _))) apN)) (GrL.sizeL gr3)
   have gr4:GrL [(some g_p),(blk a0)] w w4:=GrL.modL gr3 hgl2 (apC (InP.mem (List.Mem.head _)) (apC (InP.mem (List.Mem.tail _ (List.Mem.head _))) apN))
   have k9:=k6.goL hgl2 (apC (DnD.nil (d:=deV)) (apC (DnD.nil (d:=deV)) apN))
   refine zh (za (zg (zc (yp (h:=(yp (h:=(yp (h:=(zd rfl (zX (o:=0) (by kernel_rfl) rfl) (zd rfl (zH qH ((hB3.g0 hg2).goL hgl2 (apC (hd1 _ (hv_.inp hap0 (InP.mem (List.Mem.head _)))) (apC (hd1 _ (hv_.inp hap0 (InP.mem (List.Mem.tail _ (List.Mem.head _))))) apN))) rfl rfl rfl) (yp (h:=?_)))))))))))))
   obtain ⟨h1,H⟩:=H
   refine zd rfl (Yld.add rfl rfl h1) (zK rfl rfl (W_pval_printer_items hO4 rfl hB5 (k5.goL hgl2 (apC (fun h=>absurd rfl h) (apC (fun h=>absurd rfl h) apN))) rfl k9 dj2 (apC (fun h=>absurd rfl h) (apC (InP.dn hi3 (fun hx_=>k5.lt' hx_) (apC (fun h=>absurd rfl h) (apC (fun h=>absurd rfl h) apN))) apN)) (apC (DnD.nil (d:=deV)) (apC (RelD.inp k6 (apC (DnD.nil (d:=deV)) (apC (DnD.nil (d:=deV)) apN)) hi3) apN)) H) ?_)
   rintro _ w5 ⟨hgl3,p_3,d5,e5,rfl,hB6,hO5,hi5,dj3,H⟩
   have hi6:InP [(some g_p),(blk a0)] w.heap.size (blk d5):=InP.trans hi5 (apC (InP.mem (List.Mem.head _)) (apC hi4 apN)) (GrL.sizeL gr4)
   have gr5:GrL [(some g_p),(blk a0)] w w5:=GrL.modL gr4 hgl3 (apC (InP.mem (List.Mem.head _)) (apC hi4 apN))
   refine zh (za (zc (yp (h:=(qg qH rfl rfl rfl (qO rfl jf) rfl (by omega) (fun g3 w6 hB7 hg3 hl3=>?_))))))
   have hO6:Own vs w6 w.heap.size 9 (some ⟨g3,0,none⟩) 1 ([([93]:List UInt8)]:List (List UInt8)):=Own.ofBl hB7 (Nat.le_trans (GrL.sizeL gr5) hl3) (by simp [maxLen]) rfl
   have gr6:=GrL.add0 gr5 hg3
   refine zK rfl rfl (ji (hO5.grown hg3) rfl (hB6.g0 hg3) hO6.rd rfl dj3 (apC (Dn.of (Dj.new hB6.lt' (Ge.box hl3)).symm) (apC (Dn.of (Dj.new hO5.lt' (Ge.box hl3)).symm) apN)) H) ?_
   rintro _ w7 ⟨hgl4,p_4,c7,d8,rfl,hB8,hO7,hi7,dj4,H⟩
   have hi8:InP [(some g_p),(blk a0)] w.heap.size (blk c7):=InP.trans hi7 (apC (InP.mem (List.Mem.head _)) (apC hi6 apN)) (GrL.sizeL gr6)
   have gr7:GrL [(some g_p),(blk a0)] w w7:=GrL.modL gr6 hgl4 (apC (InP.mem (List.Mem.head _)) (apC hi6 apN))
   exact zh (zf (qa rfl ⟨gr7,p_4,c7,d8,rfl,hB8,hO7,hi8,dj4,H⟩))
  ·replace H:=H.2 he1
   refine zd rfl (qV (z:=.pointer none) Tryz.underlying61 rfl (fun _=>by kernel_rfl) hv_ rfl (tyP_emp he1)) (yp (h:=(yp (h:=(zh (za (zE rfl (fun h=>by cases h) (fun _=>zg (zc ?_)))))))))
   rcases PV.tupCases v_ with ⟨l,he2⟩ | he2
   ·replace H:=H.1 l he2
    obtain ⟨g_t,A_t,c_t,c6,hv2,hB9,hR2,hr2,hd2,hd3,hd4⟩:=VR.tupOut hv_ he2
    refine zd rfl (jc Tryz.underlying155 rfl rfl hv2) (yp (h:=(yp (h:=(zh (za (zE rfl (fun _=>zg (zc (yp (h:=(zh (za (zg (zc (yp (h:=(qg qH rfl rfl rfl (qO rfl jf) rfl (by omega) (fun g4 w8 hB10 hg4 hl4=>?_)))))))))))) (fun h=>by cases h))))))))
    have hO8:Own vs w8 w.heap.size 9 (some ⟨g4,0,none⟩) 1 ([([40]:List UInt8)]:List (List UInt8)):=Own.ofBl hB10 (Nat.le_trans (Nat.le_refl _) hl4) (by simp [maxLen]) rfl
    have gr8:=(GrL.of0 (ps:=[(some g_p),(blk a0)]) hg4)
    have k15:=hR2.grown hg4
    have k16:=hr2.grown hg4
    have k17:=hB9.g0 hg4
    refine zK rfl rfl (ji (hp_b.grown hg4) rfl (hp.g0 hg4) hO8.rd rfl hdj0_1 (apC (Dn.of (Dj.new hp.lt' (Ge.box hl4)).symm) (apC (Dn.of (Dj.new hp_b.lt' (Ge.box hl4)).symm) apN)) H) ?_
    rintro _ w9 ⟨hgl5,p_5,d6,e6,rfl,hB11,hO9,hi9,dj5,H⟩
    have hi10:InP [(some g_p),(blk a0)] w.heap.size (blk d6):=InP.trans hi9 (apC (InP.mem (List.Mem.head _)) (apC (InP.mem (List.Mem.tail _ (List.Mem.head _))) apN)) (GrL.sizeL gr8)
    have gr9:GrL [(some g_p),(blk a0)] w w9:=GrL.modL gr8 hgl5 (apC (InP.mem (List.Mem.head _)) (apC (InP.mem (List.Mem.tail _ (List.Mem.head _))) apN))
    have k18:=k15.goL hgl5 (apC (hd3 _ (hv_.inp hap0 (InP.mem (List.Mem.head _)))) (apC (hd3 _ (hv_.inp hap0 (InP.mem (List.Mem.tail _ (List.Mem.head _))))) apN))
    have k19:=k16.goL hgl5 (apC (hd4 _ (hv_.inp hap0 (InP.mem (List.Mem.head _)))) (apC (hd4 _ (hv_.inp hap0 (InP.mem (List.Mem.tail _ (List.Mem.head _))))) apN))
    have k20:=k17.goL hgl5 (apC (hd2 _ (hv_.inp hap0 (InP.mem (List.Mem.head _)))) (apC (hd2 _ (hv_.inp hap0 (InP.mem (List.Mem.tail _ (List.Mem.head _))))) apN))
    refine zh (za (zg (zc (yp (h:=(yp (h:=(yp (h:=(zd rfl (zX (o:=0) (by kernel_rfl) rfl) (zd rfl (zH qH k20 rfl rfl rfl) (yp (h:=?_)))))))))))))
    obtain ⟨h2,H⟩:=H
    refine zd rfl (Yld.add rfl rfl h2) (zK rfl rfl (W_pval_printer_items hO9 rfl hB11 k18 rfl k19 dj5 (apC (hd3 _ (hv_.inp hap0 (InP.mem (List.Mem.head _)))) (apC (InP.dn hi9 (fun hx_=>k15.lt' hx_) (apC (hd3 _ (hv_.inp hap0 (InP.mem (List.Mem.head _)))) (apC (hd3 _ (hv_.inp hap0 (InP.mem (List.Mem.tail _ (List.Mem.head _))))) apN))) apN)) (apC (hd4 _ (hv_.inp hap0 (InP.mem (List.Mem.head _)))) (apC (RelD.inp k16 (apC (hd4 _ (hv_.inp hap0 (InP.mem (List.Mem.head _)))) (apC (hd4 _ (hv_.inp hap0 (InP.mem (List.Mem.tail _ (List.Mem.head _))))) apN)) hi9) apN)) H) ?_)
    rintro _ w10 ⟨hgl6,p_6,c8,d9,rfl,hB12,hO10,hi11,dj6,H⟩
    have hi12:InP [(some g_p),(blk a0)] w.heap.size (blk c8):=InP.trans hi11 (apC (InP.mem (List.Mem.head _)) (apC hi10 apN)) (GrL.sizeL gr9)
    have gr10:GrL [(some g_p),(blk a0)] w w10:=GrL.modL gr9 hgl6 (apC (InP.mem (List.Mem.head _)) (apC hi10 apN))
    have k21:=k18.goL hgl6 (apC (hd3 _ (hv_.inp hap0 (InP.mem (List.Mem.head _)))) (apC (InP.dn hi9 (fun hx_=>k15.lt' hx_) (apC (hd3 _ (hv_.inp hap0 (InP.mem (List.Mem.head _)))) (apC (hd3 _ (hv_.inp hap0 (InP.mem (List.Mem.tail _ (List.Mem.head _))))) apN))) apN))
    have k22:=k19.goL hgl6 (apC (hd4 _ (hv_.inp hap0 (InP.mem (List.Mem.head _)))) (apC (RelD.inp k16 (apC (hd4 _ (hv_.inp hap0 (InP.mem (List.Mem.head _)))) (apC (hd4 _ (hv_.inp hap0 (InP.mem (List.Mem.tail _ (List.Mem.head _))))) apN)) hi9) apN))
    refine zh (za (zg ?_))
    obtain ⟨J1,H,hJ1⟩:=H
    refine qk (fun L' w'=>∃ (p0:List UInt8),∃ (a8:Option Addr),∃ (a9:Nat),∃ (b7:Nat),L'=[(0,.pointer (some ⟨g_p,0,none⟩))]/\J1 p0/\b7=p0.length/\GrL [(some g_p),(blk a0)] w w'/\Bl w' g_p 153 [.slice a8 b7 a9]/\Own vb w' 0 5 a8 a9 p0/\Dj (some g_p) (blk a8)/\InP [(some g_p),(blk a0)] w.heap.size (blk a8)) ?_ (fun hQ=>?_)
    ·clear H
     rintro _ w11 ⟨p0,a8,a9,b7,rfl,H,rfl,gr11,k24,k25,dj7,hi13⟩
     replace H:=hJ1 p0 H
     refine za (zc (yp (h:=(qg qH rfl rfl rfl (qO rfl jf) rfl (by omega) (fun g5 w12 hB13 hg5 hl5=>?_)))))
     have hO11:Own vs w12 w.heap.size 9 (some ⟨g5,0,none⟩) 1 ([([41]:List UInt8)]:List (List UInt8)):=Own.ofBl hB13 (Nat.le_trans (GrL.sizeL gr11) hl5) (by simp [maxLen]) rfl
     have gr12:=GrL.add0 gr11 hg5
     refine zK rfl rfl (ji (k25.grown hg5) rfl (k24.g0 hg5) hO11.rd rfl dj7 (apC (Dn.of (Dj.new k24.lt' (Ge.box hl5)).symm) (apC (Dn.of (Dj.new k25.lt' (Ge.box hl5)).symm) apN)) H) ?_
     rintro _ w13 ⟨hgl7,p_7,c9,e0,rfl,hB14,hO12,hi14,dj8,H⟩
     have hi15:InP [(some g_p),(blk a0)] w.heap.size (blk c9):=InP.trans hi14 (apC (InP.mem (List.Mem.head _)) (apC hi13 apN)) (GrL.sizeL gr12)
     have gr13:GrL [(some g_p),(blk a0)] w w13:=GrL.modL gr12 hgl7 (apC (InP.mem (List.Mem.head _)) (apC hi13 apN))
     exact zh (zf (qa rfl ⟨gr13,p_7,c9,e0,rfl,hB14,hO12,hi15,dj8,H⟩))
    ·clear hJ1
     refine zg (zc (yp (h:=(yp (h:=(zd rfl (zX (o:=0) (by kernel_rfl) rfl) (zd rfl (zH qH (k20.goL hgl6 (apC (hd2 _ (hv_.inp hap0 (InP.mem (List.Mem.head _)))) (apC (InP.dj hi9 k17.lt' (apC (hd2 _ (hv_.inp hap0 (InP.mem (List.Mem.head _)))) (apC (hd2 _ (hv_.inp hap0 (InP.mem (List.Mem.tail _ (List.Mem.head _))))) apN))).symm apN))) rfl rfl rfl) (yp (h:=(yp (h:=(zh (za (zE rfl (fun b2=>?_) (fun b2=>?_)))))))))))))))
     ·replace H:=H.1 (of_decide_eq_true b2)
      refine zc (yp (h:=(qg qH rfl rfl rfl (qO rfl jf) rfl (by omega) (fun g6 w14 hB15 hg6 hl6=>?_))))
      have hO13:Own vs w14 w.heap.size 9 (some ⟨g6,0,none⟩) 1 ([([44]:List UInt8)]:List (List UInt8)):=Own.ofBl hB15 (Nat.le_trans (GrL.sizeL gr10) hl6) (by simp [maxLen]) rfl
      have gr14:=GrL.add0 gr10 hg6
      refine zK rfl rfl (ji (hO10.grown hg6) rfl (hB12.g0 hg6) hO13.rd rfl dj6 (apC (Dn.of (Dj.new hB12.lt' (Ge.box hl6)).symm) (apC (Dn.of (Dj.new hO10.lt' (Ge.box hl6)).symm) apN)) H) ?_
      rintro _ w15 ⟨hgl8,p_8,d0,e1,rfl,hB16,hO14,hi16,dj9,H⟩
      have hi17:InP [(some g_p),(blk a0)] w.heap.size (blk d0):=InP.trans hi16 (apC (InP.mem (List.Mem.head _)) (apC hi12 apN)) (GrL.sizeL gr14)
      have gr15:GrL [(some g_p),(blk a0)] w w15:=GrL.modL gr14 hgl8 (apC (InP.mem (List.Mem.head _)) (apC hi12 apN))
      exact zh (WX.weaken sb (hQ _ _ ⟨p_8,d0,e1,p_8.length,rfl,H,rfl,gr15,hB16,hO14,dj9,hi17⟩))
     ·replace H:=H.2 (of_decide_eq_false b2)
      exact zt (WX.weaken sb (hQ _ _ ⟨p_6,c8,d9,p_6.length,rfl,H,rfl,gr10,hB12,hO10,dj6,hi12⟩))
   ·replace H:=H.2 he2
    exact zd rfl (qV (z:=.pointer none) Tryz.underlying155 rfl (fun _=>by kernel_rfl) hv_ rfl (tyP_tup he2)) (yp (h:=(yp (h:=(zh (za (zE rfl (fun h=>by cases h) (fun _=>zg (zc (zd rfl (qV (z:=.pointer none) Tryz.underlying242 rfl (fun _=>by kernel_rfl) hv_ rfl (tyP_no rfl v_)) (yp (h:=(yp (h:=(zh (za (zE rfl (fun h=>by cases h) (fun _=>zg (zc (zd rfl (qV (z:=.pointer none) Tryz.underlying269 rfl (fun _=>by kernel_rfl) hv_ rfl (tyP_no rfl v_)) (yp (h:=(yp (h:=(zh (za (zE rfl (fun h=>by cases h) (fun _=>zt (zf (qa rfl ⟨(GrL.refl _),p_b,a0,a3,rfl,hp,hp_b,(InP.mem (List.Mem.tail _ (List.Mem.head _))),hdj0_1,H⟩))))))))))))))))))))))))))))))
set_option maxHeartbeats 8000000 in
theorem W_val_printer_reprT {w:World} {g_p:Nat} {p_b:List UInt8} {a0:Option Addr} {a3:Nat} {v_v:OV} {F_v:Nat->Prop} {v_:PV} {deep:Int} {a5:Nat} {K:(List UInt8)->Prop} (hp_b:Own vb w 0 5 a0 a3 p_b) (a6:a5=p_b.length) (hp:Bl w g_p 153 [.slice a0 a5 a3]) (hv_:RelD deV w [(v_v,F_v)] [v_]) (hdj0_1:Dj (some g_p) (blk a0)) (hap0:AllP (DnD deV [(v_v,F_v)] [v_]) [(some g_p),(blk a0)]) (H:kq p_b v_ deep K):Fn Tryz.prog 82 ⟨[.pointer (some ⟨g_p,0,none⟩),v_v.1,.int .i64 deep]⟩ w (fun v w'=>GrL [(some g_p),(blk a0)] w w'/\∃ (p_b2:List UInt8),∃ (a1:Option Addr),∃ (a4:Nat),v=.tuple #[]/\Bl w' g_p 153 [.slice a1 p_b2.length a4]/\Own vb w' 0 5 a1 a4 p_b2/\InP [(some g_p),(blk a0)] w.heap.size (blk a1)/\Dj (some g_p) (blk a1)/\K p_b2):=by
 subst a6
 unfold kq at H
 refine Fn.enter (by kernel_rfl) Tryz.func82 rfl Tryz.ntmps82 rfl ?_
 replace H:=H (Nat.le_trans hp_b.rd.cap hp_b.rd.max)
 have hNoAt:AllP (NoAt w) [(some g_p),(blk a0)]:=(apC (NoAt.bl hp rfl) (apC (NoAt.own hp_b rfl) apN))
 refine zg (zg (zc (yp (h:=(zK rfl rfl (kr hp_b.rd rfl hp H) ?_)))))
 rintro _ _ ⟨rfl,t17,rfl,H⟩
 refine zh (za (zE rfl (fun b1=>?_) (fun b1=>?_)))
 ·replace H:=H.1 (b1)
  exact zx (zi (WX.ret0 rfl ⟨(GrL.refl _),p_b,a0,a3,rfl,hp,hp_b,(InP.mem (List.Mem.tail _ (List.Mem.head _))),hdj0_1,H⟩))
 ·replace H:=H.2 (b1)
  refine zt (za (zg (zc (yp (h:=(zh (za (WC.block (zg (zc ?_))))))))))
  obtain ⟨h1,H⟩:=H
  refine zd rfl (qV (z:=.agg ⟨[]⟩) Tryz.underlying221 rfl (fun _=>by kernel_rfl) hv_ rfl (tyP_none h1)) (yp (h:=(yp (h:=(zh (za (zE rfl (fun h=>by cases h) (fun _=>zg (zc (zd rfl (qV (z:=.bool false) Tryz.underlying223 rfl (fun _=>by kernel_rfl) hv_ rfl (tyP_no rfl v_)) (yp (h:=(yp (h:=(zh (za (zE rfl (fun h=>by cases h) (fun _=>zg (zc ?_)))))))))))))))))))
  rcases PV.intCases v_ with ⟨z,he1⟩ | he1
  ·replace H:=H.1 z he1
   obtain ⟨a,b,hv1,hN1,one1,one2,hL1⟩:=VR.intOut hv_ he1
   refine zd rfl (jc Tryz.underlying208 rfl rfl hv1) (yp (h:=(yp (h:=(zh (za (zE rfl (fun _=>zg (zc (WL.alloc rfl zero208 (fun g1 w1 hB1 hg1 hl1=>zT (vs:=[a,b]) qH rfl rfl rfl (qO one1 (qO one2 jf)) hB1 rfl rfl (fun w2 hB2 hg2=>?_))))) (fun h=>by cases h))))))))
   have gr2:GrL [(some g_p),(blk a0)] w w2:=GrL.mod ((GrL.of0 (ps:=[(some g_p),(blk a0)]) hg1)) hg2 (InP.ge (Ge.le (Ge.box hl1) (Nat.le_refl _)))
   refine zh (za (zc (yp (h:=(zd rfl (zX (o:=0) (by kernel_rfl) rfl) (zd rfl (zO (vs:=[a,b]) qH hB2 rfl rfl rfl rfl) (zK rfl rfl (W_num_Num_Text (Nm.goV (hN1.grown hg1) hL1 (GrL.of1 hg2) (apC (DnD.one (hv_.inp hap0 (InP.ge (Ge.le (Ge.box hl1) (Nat.le_refl _))))) apN)) H) ?_)))))))
   rintro _ w3 ⟨hg3,t41,rfl,H⟩
   have gr3:=GrL.add0 gr2 hg3
   have k7:=((hp_b.grown hg1).go hg2 (Dj.new hp_b.lt' (Ge.box hl1))).grown hg3
   have k8:=((hp.g0 hg1).go hg2 (Dj.new hp.lt' (Ge.box hl1))).g0 hg3
   refine qg qH rfl rfl rfl (qO rfl jf) rfl (by omega) (fun g2 w4 hB3 hg4 hl2=>?_)
   have hO1:Own vs w4 w.heap.size 9 (some ⟨g2,0,none⟩) 1 ([t41]:List (List UInt8)):=Own.ofBl hB3 (Nat.le_trans (GrL.sizeL gr3) hl2) (by simp [maxLen]) rfl
   have gr4:=GrL.add0 gr3 hg4
   refine zK rfl rfl (ji (k7.grown hg4) rfl (k8.g0 hg4) hO1.rd rfl hdj0_1 (apC (Dn.of (Dj.new k8.lt' (Ge.box hl2)).symm) (apC (Dn.of (Dj.new k7.lt' (Ge.box hl2)).symm) apN)) H) ?_
   rintro _ w5 ⟨hgl1,p_,b4,c0,rfl,hB4,hO2,hi1,dj1,H⟩
   have hi2:InP [(some g_p),(blk a0)] w.heap.size (blk b4):=InP.trans hi1 (apC (InP.mem (List.Mem.head _)) (apC (InP.mem (List.Mem.tail _ (List.Mem.head _))) apN)) (GrL.sizeL gr4)
   have gr5:GrL [(some g_p),(blk a0)] w w5:=GrL.modL gr4 hgl1 (apC (InP.mem (List.Mem.head _)) (apC (InP.mem (List.Mem.tail _ (List.Mem.head _))) apN))
   exact zh (zf (qa rfl ⟨gr5,p_,b4,c0,rfl,hB4,hO2,hi2,dj1,H⟩))
  ·replace H:=H.2 he1
   refine zd rfl (qV (z:=.agg ⟨[.bool false,.slice none 0 0]⟩) Tryz.underlying208 rfl (fun _=>by kernel_rfl) hv_ rfl (tyP_int he1)) (yp (h:=(yp (h:=(zh (za (zE rfl (fun h=>by cases h) (fun _=>zg (zc (zd rfl (qV (z:=vs ([]:List UInt8)) Tryz.underlying169 rfl (fun _=>by kernel_rfl) hv_ rfl (tyP_no rfl v_)) (yp (h:=(yp (h:=(zh (za (zE rfl (fun h=>by cases h) (fun _=>zg (zc (zd rfl (assertNoI (z:=.nilIface) Tryz.underlying227 (fun _=>by kernel_rfl) (by decide +kernel) hv_ rfl) (yp (h:=(yp (h:=(zh (za (zE rfl (fun h=>by cases h) (fun _=>zg (zc (zd rfl (assertNoI (z:=.nilIface) Tryz.underlying229 (fun _=>by kernel_rfl) (by decide +kernel) hv_ rfl) (yp (h:=(yp (h:=(zh (za (zE rfl (fun h=>by cases h) (fun _=>zg (zc (zd rfl (assertNoI (z:=.nilIface) Tryz.underlying232 (fun _=>by kernel_rfl) (by decide +kernel) hv_ rfl) (yp (h:=(yp (h:=(zh (za (zE rfl (fun h=>by cases h) (fun _=>zg (zc (yp (h:=(zh (za (zc (yp (h:=(yp (h:=(yp (h:=?_))))))))))))))))))))))))))))))))))))))))))))))))))))))))))))
   refine zK rfl rfl (W_pval_printer_parts hp_b rfl hp hv_ hdj0_1 (apC (hv_.inp hap0 (InP.mem (List.Mem.head _))) (apC (hv_.inp hap0 (InP.mem (List.Mem.tail _ (List.Mem.head _)))) apN)) H) ?_
   rintro _ w6 ⟨hgl2,p_2,b5,c1,rfl,hB5,hO3,hi3,dj2,H⟩
   have hi4:InP [(some g_p),(blk a0)] w.heap.size (blk b5):=InP.trans hi3 (apC (InP.mem (List.Mem.head _)) (apC (InP.mem (List.Mem.tail _ (List.Mem.head _))) apN)) (Nat.le_refl _)
   have gr6:GrL [(some g_p),(blk a0)] w w6:=GrL.modL (GrL.refl _) hgl2 (apC (InP.mem (List.Mem.head _)) (apC (InP.mem (List.Mem.tail _ (List.Mem.head _))) apN))
   exact zh (zf (qa rfl ⟨gr6,p_2,b5,c1,rfl,hB5,hO3,hi4,dj2,H⟩))
set_option maxHeartbeats 8000000 in
theorem W_val_Repr {w:World} {v_v:OV} {F_v:Nat->Prop} {v_:PV} {K:(List UInt8)->Prop} (hv_:RelD deV w [(v_v,F_v)] [v_]) (H:jM v_ K):Fn Tryz.prog 18 ⟨[v_v.1]⟩ w (fun v w'=>w.grownBy w' none/\∃ (r:List UInt8),v=vs r/\K r):=by
 unfold jM at H
 refine Fn.enter (by kernel_rfl) Tryz.func18 rfl Tryz.ntmps18 rfl ?_
 refine zg (zc (yp (h:=(zh (za (zg (zc (zd rfl (z3 (us:=[.slice none 0 0]) zero153 places153 rfl rfl) (z4 (us:=[.slice none 0 0]) rfl rfl rfl (fun g1 w1 hB1 hg1 hl1=>?_))))))))))
 have gr1:=hg1
 refine yp (h:=(zh (za (zg (zc (yp (h:=(yp (h:=(zK rfl rfl (W_val_printer_reprT ((Own.nil vb w1 w.heap.size 5).base (fun _ _=>Nat.zero_le _)) rfl hB1 (hv_.grown gr1) Dj.nr (apC (hv_.new (Ge.le (Ge.box hl1) (Nat.le_refl _))) (apC (DnD.none hv_) apN)) H) ?_))))))))))
 rintro _ w2 ⟨hgl1,t5_,e4,e7,rfl,hB2,hO1,hi1,dj1,H⟩
 have hO2:=hO1.base (InP.toGe hi1 (apC (Ge.le (Ge.box hl1) (Nat.le_refl _)) (apC Ge.none apN)) (qL gr1))
 exact zh (za (zg (zc (yp (h:=(yp (h:=(yp (h:=(zd rfl (zH qH hB2 rfl rfl rfl) (zd rfl (Yld.b2s qH hO2.rd rfl rfl rfl rfl rfl) (yp (h:=(zh (za (zx (zM rfl rfl ⟨(gr_modL gr1 hgl1 (apC (Ge.le (Ge.box hl1) (Nat.le_refl _)) (apC Ge.none apN))),t5_,rfl,H⟩)))))))))))))))))
set_option maxHeartbeats 8000000 in
theorem W_val_weight {w:World} {v_v:OV} {F_v:Nat->Prop} {v_:PV} {most:Int} {K:Int->Prop} (hv_:RelD deV w [(v_v,F_v)] [v_]) (H:M_val_weight v_ most K):Fn Tryz.prog 128 ⟨[v_v.1,.int .i64 most]⟩ w (fun v w'=>w.grownBy w' none/\∃ (r:Int),v=.int .i64 r/\K r):=by
 unfold M_val_weight at H
 refine Fn.enter (by kernel_rfl) Tryz.func128 rfl Tryz.ntmps128 rfl ?_
 refine zg (zc (yp (h:=(zh (za (zg (zc (yp (h:=(zh (za (zg ?_))))))))))))
 obtain ⟨J1,H,hJ1⟩:=H
 refine qk (fun L' w'=>∃ (l:List PV),∃ (A_l:Option Addr),∃ (c_l:Nat),∃ (n_l:Nat),∃ (a7:List VH),L'=[(1,.int .i64 most),(5,.slice A_l n_l c_l)]/\J1 l/\n_l=l.length/\w=w'/\Rd vv w' A_l c_l a7/\RelD deV w' a7 l/\OrD (fun p=>DnD deV [(v_v,F_v)] [v_] p) deV a7 l w.heap.size) ?_ (fun hQ=>?_)
 ·clear H
  rintro _ _ ⟨l,A_l,c_l,n_l,a7,rfl,H,rfl,rfl,k1,k2,or1⟩
  replace H:=hJ1 l H
  refine za (zg (zc (yp (h:=(zh (za (zg (zg (zc (yp (h:=(yp (h:=(yp (h:=(zh (za (WC.block ?_))))))))))))))))))
  obtain ⟨I1,mu1,b0,HR1⟩:=H
  refine z7 (fun n' L' w'=>∃ (n:Int),∃ (t63:Int),n'=mu1 n t63/\L'=[(1,.int .i64 most),(12,.int .i64 n),(61,.slice A_l l.length c_l),(62,.int .i64 (l.length:Int)),(63,.int .i64 t63)]/\I1 n t63/\w.grownBy w' none/\Rd vv w' A_l c_l a7/\RelD deV w' a7 l/\OrD (fun p=>DnD deV [(v_v,F_v)] [v_] p) deV a7 l w.heap.size) _ _ ⟨(1:Int),(0:Int),rfl,rfl,b0,(qR _ _),k1,k2,or1⟩ sb ?_
  clear b0
  rintro _ _ w1 ⟨n,t63,rfl,rfl,hI1,gr1,k3,k4,or2⟩
  have H:=HR1 n t63 hI1
  refine zg (zc (yp (h:=(zh (za (zg (zE rfl (fun b1=>?_) (fun b1=>?_))))))))
  ·replace H:=H.1 (of_decide_eq_true b1)
   refine zt (za (zg (WC.block (zg (zc ?_)))))
   obtain ⟨h1,H⟩:=H
   refine zd rfl (zP qH k3 rfl rfl k2.1.symm rfl h1.1 h1.2) ?_
   obtain ⟨⟨v_el,F_el⟩,eh1,hR1⟩:=RelD.at k4 vh0 PV.nil (j:=t63.toNat) (Nat.lt_of_lt_of_eq (iltN h1 k2.1.symm) k4.1)
   have hv1:RelD deV w1 [(v_el,F_el)] [l.getD t63.toNat PV.nil]:=RelD.cons hR1 RelD.nil
   refine zd rfl (qd (v:=v_el.1) (zQ vh0 qH k3 rfl rfl (iltN h1 k2.1.symm)) (congrArg vv eh1)) (yp (h:=(zh (za (zg (zg (zc (yp (h:=(yp (h:=(yp (h:=(zh (za (zE rfl (fun b2=>?_) (fun b2=>?_)))))))))))))))))
   ·replace H:=H.1 (of_decide_eq_true b2)
    exact zg (zc (yp (h:=(yp (h:=(zh (za (zx (zi (zn (zi (zi (zn (zi (zM rfl rfl ⟨gr1,n,rfl,H⟩)))))))))))))))
   ·replace H:=H.2 (of_decide_eq_false b2)
    refine zt (za (zc (yp (h:=(yp (h:=(yp (h:=(yp (h:=?_))))))))))
    obtain ⟨h2,H⟩:=H
    exact zd rfl (Yld.sub rfl rfl h2) (False.elim H)
  ·replace H:=H.2 (of_decide_eq_false b1)
   exact zy (zm (zm (zk (za (zg (zc (yp (h:=(yp (h:=(zh (za (zx (zM rfl rfl ⟨gr1,n,rfl,H⟩))))))))))))))
 ·clear hJ1
  refine zg (zc (yp (h:=(zh (za (WC.block (zg (zc ?_))))))))
  rcases PV.empCases v_ with he1 | he1
  ·replace H:=H.1 he1
   obtain ⟨g_l,d3,d4,hv2,hB1,hR2,hr1,hd1⟩:=VR.empOut hv_ he1
   exact zd rfl (jc Tryz.underlying61 rfl rfl hv2) (yp (h:=(yp (h:=(zh (za (zE rfl (fun _=>zg (zc (yp (h:=(zh (za (zc (yp (h:=(yp (h:=(zd rfl (zX (o:=0) (by kernel_rfl) rfl) (zd rfl (zH qH hB1 rfl rfl rfl) (yp (h:=(zh (zf (WX.weaken sb (hQ _ _ ⟨([]:List PV),d3,d4,(([]:List PV)).length,([]:List VH),rfl,H,rfl,rfl,hR2,hr1,(fun p_ hp_ q_=>DnD.nil (d:=deV))⟩))))))))))))))))))) (fun h=>by cases h))))))))
  ·replace H:=H.2 he1
   refine zd rfl (qV (z:=.pointer none) Tryz.underlying61 rfl (fun _=>by kernel_rfl) hv_ rfl (tyP_emp he1)) (yp (h:=(yp (h:=(zh (za (zE rfl (fun h=>by cases h) (fun _=>zg (zc ?_)))))))))
   rcases PV.tupCases v_ with ⟨l2,he2⟩ | he2
   ·replace H:=H.1 l2 he2
    obtain ⟨g_t,A_t,c_t,c6,hv3,hB2,hR3,hr2,hd2,hd3,hd4⟩:=VR.tupOut hv_ he2
    exact zd rfl (jc Tryz.underlying155 rfl rfl hv3) (yp (h:=(yp (h:=(zh (za (zE rfl (fun _=>zg (zc (yp (h:=(zh (za (zc (yp (h:=(yp (h:=(zd rfl (zX (o:=0) (by kernel_rfl) rfl) (zd rfl (zH qH hB2 rfl rfl rfl) (yp (h:=(zh (zf (WX.weaken sb (hQ _ _ ⟨l2.map PV.int,A_t,c_t,(l2.map PV.int).length,c6,rfl,H,rfl,rfl,hR3,hr2,(fun p_ hp_ q_=>hd4 _ (q_))⟩))))))))))))))))))) (fun h=>by cases h))))))))
   ·replace H:=H.2 he2
    exact zd rfl (qV (z:=.pointer none) Tryz.underlying155 rfl (fun _=>by kernel_rfl) hv_ rfl (tyP_tup he2)) (yp (h:=(yp (h:=(zh (za (zE rfl (fun h=>by cases h) (fun _=>zg (zc (zd rfl (qV (z:=.pointer none) Tryz.underlying269 rfl (fun _=>by kernel_rfl) hv_ rfl (tyP_no rfl v_)) (yp (h:=(yp (h:=(zh (za (zE rfl (fun h=>by cases h) (fun _=>zg (zc (zd rfl (qV (z:=.pointer none) Tryz.underlying242 rfl (fun _=>by kernel_rfl) hv_ rfl (tyP_no rfl v_)) (yp (h:=(yp (h:=(zh (za (zE rfl (fun h=>by cases h) (fun _=>zt (zf (WX.weaken sb (hQ _ _ ⟨[],none,0,0,[],rfl,H,rfl,rfl,(Own.nil vv w w.heap.size 32).rd,(RelD.nil (d:=deV) (w:=w)),(fun p_ hp_ q_=>(DnD.nil (d:=deV)))⟩)))))))))))))))))))))))))))))))
set_option maxHeartbeats 8000000 in
theorem W_val_weightT {w:World} {v_v:OV} {F_v:Nat->Prop} {v_:PV} {most:Int} {K:Int->Prop} (hv_:RelD deV w [(v_v,F_v)] [v_]) (H:M_val_weightT v_ most K):Fn Tryz.prog 128 ⟨[v_v.1,.int .i64 most]⟩ w (fun v w'=>w.grownBy w' none/\∃ (r:Int),v=.int .i64 r/\K r):=by
 unfold M_val_weightT at H
 refine Fn.enter (by kernel_rfl) Tryz.func128 rfl Tryz.ntmps128 rfl ?_
 refine zg (zc (yp (h:=(zh (za (zg (zc (yp (h:=(zh (za (zg ?_))))))))))))
 obtain ⟨J1,H,hJ1⟩:=H
 refine qk (fun L' w'=>∃ (l:List PV),∃ (A_l:Option Addr),∃ (c_l:Nat),∃ (n_l:Nat),∃ (a7:List VH),L'=[(1,.int .i64 most),(5,.slice A_l n_l c_l)]/\J1 l/\n_l=l.length/\w=w'/\Rd vv w' A_l c_l a7/\RelD deV w' a7 l/\OrD (fun p=>DnD deV [(v_v,F_v)] [v_] p) deV a7 l w.heap.size) ?_ (fun hQ=>?_)
 ·clear H
  rintro _ _ ⟨l,A_l,c_l,n_l,a7,rfl,H,rfl,rfl,k1,k2,or1⟩
  replace H:=hJ1 l H
  refine za (zg (zc (yp (h:=(zh (za (zg (zg (zc (yp (h:=(yp (h:=(yp (h:=(zh (za (WC.block ?_))))))))))))))))))
  obtain ⟨I1,mu1,b0,HR1⟩:=H
  refine z7 (fun n' L' w'=>∃ (n:Int),∃ (t63:Int),n'=mu1 n t63/\L'=[(1,.int .i64 most),(12,.int .i64 n),(61,.slice A_l l.length c_l),(62,.int .i64 (l.length:Int)),(63,.int .i64 t63)]/\I1 n t63/\w.grownBy w' none/\Rd vv w' A_l c_l a7/\RelD deV w' a7 l/\OrD (fun p=>DnD deV [(v_v,F_v)] [v_] p) deV a7 l w.heap.size) _ _ ⟨(1:Int),(0:Int),rfl,rfl,b0,(qR _ _),k1,k2,or1⟩ sb ?_
  clear b0
  rintro _ _ w1 ⟨n,t63,rfl,rfl,hI1,gr1,k3,k4,or2⟩
  have H:=HR1 n t63 hI1
  refine zg (zc (yp (h:=(zh (za (zg (zE rfl (fun b1=>?_) (fun b1=>?_))))))))
  ·replace H:=H.1 (of_decide_eq_true b1)
   refine zt (za (zg (WC.block (zg (zc ?_)))))
   obtain ⟨h1,H⟩:=H
   refine zd rfl (zP qH k3 rfl rfl k2.1.symm rfl h1.1 h1.2) ?_
   obtain ⟨⟨v_el,F_el⟩,eh1,hR1⟩:=RelD.at k4 vh0 PV.nil (j:=t63.toNat) (Nat.lt_of_lt_of_eq (iltN h1 k2.1.symm) k4.1)
   have hv1:RelD deV w1 [(v_el,F_el)] [l.getD t63.toNat PV.nil]:=RelD.cons hR1 RelD.nil
   refine zd rfl (qd (v:=v_el.1) (zQ vh0 qH k3 rfl rfl (iltN h1 k2.1.symm)) (congrArg vv eh1)) (yp (h:=(zh (za (zg (zg (zc (yp (h:=(yp (h:=(yp (h:=(zh (za (zE rfl (fun b2=>?_) (fun b2=>?_)))))))))))))))))
   ·replace H:=H.1 (of_decide_eq_true b2)
    exact zg (zc (yp (h:=(yp (h:=(zh (za (zx (zi (zn (zi (zi (zn (zi (zM rfl rfl ⟨gr1,n,rfl,H⟩)))))))))))))))
   ·replace H:=H.2 (of_decide_eq_false b2)
    refine zt (za (zc (yp (h:=(yp (h:=(yp (h:=(yp (h:=?_))))))))))
    obtain ⟨h2,H⟩:=H
    refine zd rfl (Yld.sub rfl rfl h2) (zK rfl rfl (W_val_weight hv1 H) ?_)
    rintro _ w2 ⟨hg1,t76,rfl,H⟩
    obtain ⟨h3,H⟩:=H
    refine zd rfl (Yld.add rfl rfl h3) (yp (h:=(zh (zf (za (zc ?_))))))
    obtain ⟨h4,H⟩:=H
    exact zd rfl (Yld.add rfl rfl h4) (yp (h:=(zh (zZ _ ⟨n+t76,t63+(1:Int),rfl,rfl,H.1,(qI gr1 hg1),(k3.grown hg1),(k4.grown hg1),or2⟩ sb H.2))))
  ·replace H:=H.2 (of_decide_eq_false b1)
   exact zy (zm (zm (zk (za (zg (zc (yp (h:=(yp (h:=(zh (za (zx (zM rfl rfl ⟨gr1,n,rfl,H⟩))))))))))))))
 ·clear hJ1
  refine zg (zc (yp (h:=(zh (za (WC.block (zg (zc ?_))))))))
  rcases PV.empCases v_ with he1 | he1
  ·replace H:=H.1 he1
   obtain ⟨g_l,d3,d4,hv2,hB1,hR2,hr1,hd1⟩:=VR.empOut hv_ he1
   exact zd rfl (jc Tryz.underlying61 rfl rfl hv2) (yp (h:=(yp (h:=(zh (za (zE rfl (fun _=>zg (zc (yp (h:=(zh (za (zc (yp (h:=(yp (h:=(zd rfl (zX (o:=0) (by kernel_rfl) rfl) (zd rfl (zH qH hB1 rfl rfl rfl) (yp (h:=(zh (zf (WX.weaken sb (hQ _ _ ⟨([]:List PV),d3,d4,(([]:List PV)).length,([]:List VH),rfl,H,rfl,rfl,hR2,hr1,(fun p_ hp_ q_=>DnD.nil (d:=deV))⟩))))))))))))))))))) (fun h=>by cases h))))))))
  ·replace H:=H.2 he1
   refine zd rfl (qV (z:=.pointer none) Tryz.underlying61 rfl (fun _=>by kernel_rfl) hv_ rfl (tyP_emp he1)) (yp (h:=(yp (h:=(zh (za (zE rfl (fun h=>by cases h) (fun _=>zg (zc ?_)))))))))
   rcases PV.tupCases v_ with ⟨l2,he2⟩ | he2
   ·replace H:=H.1 l2 he2
    obtain ⟨g_t,A_t,c_t,c6,hv3,hB2,hR3,hr2,hd2,hd3,hd4⟩:=VR.tupOut hv_ he2
    exact zd rfl (jc Tryz.underlying155 rfl rfl hv3) (yp (h:=(yp (h:=(zh (za (zE rfl (fun _=>zg (zc (yp (h:=(zh (za (zc (yp (h:=(yp (h:=(zd rfl (zX (o:=0) (by kernel_rfl) rfl) (zd rfl (zH qH hB2 rfl rfl rfl) (yp (h:=(zh (zf (WX.weaken sb (hQ _ _ ⟨l2.map PV.int,A_t,c_t,(l2.map PV.int).length,c6,rfl,H,rfl,rfl,hR3,hr2,(fun p_ hp_ q_=>hd4 _ (q_))⟩))))))))))))))))))) (fun h=>by cases h))))))))
   ·replace H:=H.2 he2
    exact zd rfl (qV (z:=.pointer none) Tryz.underlying155 rfl (fun _=>by kernel_rfl) hv_ rfl (tyP_tup he2)) (yp (h:=(yp (h:=(zh (za (zE rfl (fun h=>by cases h) (fun _=>zg (zc (zd rfl (qV (z:=.pointer none) Tryz.underlying269 rfl (fun _=>by kernel_rfl) hv_ rfl (tyP_no rfl v_)) (yp (h:=(yp (h:=(zh (za (zE rfl (fun h=>by cases h) (fun _=>zg (zc (zd rfl (qV (z:=.pointer none) Tryz.underlying242 rfl (fun _=>by kernel_rfl) hv_ rfl (tyP_no rfl v_)) (yp (h:=(yp (h:=(zh (za (zE rfl (fun h=>by cases h) (fun _=>zt (zf (WX.weaken sb (hQ _ _ ⟨[],none,0,0,[],rfl,H,rfl,rfl,(Own.nil vv w w.heap.size 32).rd,(RelD.nil (d:=deV) (w:=w)),(fun p_ hp_ q_=>(DnD.nil (d:=deV)))⟩)))))))))))))))))))))))))))))))
set_option maxHeartbeats 8000000 in
theorem W_val_Light {w:World} {most:Int} {l:List PV} {A_l:Option Addr} {c_l:Nat} {a7:List VH} {n_l:Nat} {K:Bool->Prop} (hl:Rd vv w A_l c_l a7) (c3:n_l=l.length) (a2:RelD deV w a7 l) (H:M_val_Light most l K):Fn Tryz.prog 70 ⟨[.int .i64 most,.slice A_l n_l c_l]⟩ w (fun v w'=>w.grownBy w' none/\∃ (r:Bool),v=.bool r/\K r):=by
 subst c3
 unfold M_val_Light at H
 refine Fn.enter (by kernel_rfl) Tryz.func70 rfl Tryz.ntmps70 rfl ?_
 replace H:=H (by rw [<-a2.1]; exact Nat.le_trans hl.cap hl.max)
 refine zg (zc (yp (h:=(zh (za (zg (zg (zc (yp (h:=(yp (h:=(yp (h:=(zh (za (WC.block ?_)))))))))))))))))
 obtain ⟨I1,mu1,b0,HR1⟩:=H
 refine z7 (fun n' L' w'=>∃ (most2:Int),∃ (t9:Int),n'=mu1 most2 t9/\L'=[(0,.int .i64 most2),(7,.slice A_l l.length c_l),(8,.int .i64 (l.length:Int)),(9,.int .i64 t9)]/\I1 most2 t9/\w.grownBy w' none) _ _ ⟨most,(0:Int),rfl,rfl,b0,(qR _ _)⟩ sb ?_
 clear b0
 rintro _ _ w1 ⟨most2,t9,rfl,rfl,hI1,gr1⟩
 have H:=HR1 most2 t9 hI1
 refine zg (zc (yp (h:=(zh (za (zg (zE rfl (fun b1=>?_) (fun b1=>?_))))))))
 ·replace H:=H.1 (of_decide_eq_true b1)
  refine zt (za (zg (WC.block (zg (zc ?_)))))
  obtain ⟨h1,H⟩:=H
  refine zd rfl (zP qH (hl.grown gr1) rfl rfl a2.1.symm rfl h1.1 h1.2) ?_
  obtain ⟨⟨v_el,F_el⟩,eh1,hR1⟩:=RelD.at (a2.grown gr1) vh0 PV.nil (j:=t9.toNat) (Nat.lt_of_lt_of_eq (iltN h1 a2.1.symm) (a2.grown gr1).1)
  have hv1:RelD deV w1 [(v_el,F_el)] [l.getD t9.toNat PV.nil]:=RelD.cons hR1 RelD.nil
  refine zd rfl (qd (v:=v_el.1) (zQ vh0 qH (hl.grown gr1) rfl rfl (iltN h1 a2.1.symm)) (congrArg vv eh1)) (yp (h:=(zh (za (zg (zc (yp (h:=(yp (h:=(yp (h:=(zK rfl rfl (W_val_weightT hv1 H) ?_)))))))))))))
  rintro _ w2 ⟨hg1,t16,rfl,H⟩
  have gr2:=qI gr1 hg1
  obtain ⟨h2,H⟩:=H
  refine zd rfl (Yld.sub rfl rfl h2) (yp (h:=(zh (za (zg (zc (yp (h:=(yp (h:=(zh (za (zE rfl (fun b2=>?_) (fun b2=>?_))))))))))))))
  ·replace H:=H.1 (of_decide_eq_true b2)
   exact zg (zc (yp (h:=(zh (za (zx (zn (zi (zi (zn (zi (zM rfl rfl ⟨gr2,false,rfl,H⟩))))))))))))
  ·replace H:=H.2 (of_decide_eq_false b2)
   refine zt (zf (za (zc ?_)))
   obtain ⟨h3,H⟩:=H
   exact zd rfl (Yld.add rfl rfl h3) (yp (h:=(zh (zZ _ ⟨most2 - t16,t9+(1:Int),rfl,rfl,H.1,gr2⟩ sb H.2))))
 ·replace H:=H.2 (of_decide_eq_false b1)
  exact zy (zm (zm (zk (za (zg (zc (yp (h:=(zh (za (zx (zM rfl rfl ⟨gr1,true,rfl,H⟩))))))))))))
set_option maxHeartbeats 8000000 in
theorem jq {w:World} {s:List PV} {A_s:Option Addr} {c_s:Nat} {b6:List VH} {n_s:Nat} {K:(List PV)->Prop} (hs:Rd vv w A_s c_s b6) (e3:n_s=s.length) (b9:RelD deV w b6 s) (H:qZ s K):Fn Tryz.prog 83 ⟨[.slice A_s n_s c_s]⟩ w (fun v w'=>w.grownBy w' none/\∃ (r:List PV),∃ (A_r:Option Addr),∃ (c_r:Nat),∃ (c5:List VH),v=.slice A_r r.length c_r/\Own vv w' w.heap.size 32 A_r c_r c5/\RelD deV w' c5 r/\(∀ p:Option Nat,Lt p w.heap.size->DnD deV b6 s p->DnD deV c5 r p)/\DnD deV c5 r (blk A_r)/\K r):=by
 subst e3
 unfold qZ at H
 refine Fn.enter (by kernel_rfl) Tryz.func83 rfl Tryz.ntmps83 rfl ?_
 replace H:=H (by rw [<-b9.1]; exact Nat.le_trans hs.cap hs.max)
 refine zg (zc (yp (h:=(zh (za (zg (zg (zc (yp (h:=(zd rfl (Yld.sleqnil Tryz.underlying27 rfl) (zh (za (zE rfl (fun b1=>?_) (fun b1=>?_)))))))))))))))
 ·replace H:=H.1 (RelD.nilx b9 (hs.nil_of b1))
  exact zg (zc (yp (h:=(zh (za (zx (zi (zM rfl rfl ⟨(qR _ _),[],none,0,[],rfl,(Own.nil vv w w.heap.size 32),(RelD.nil (d:=deV) (w:=w)),(fun p_ hp_ v0_=>have q_:=v0_; (DnD.nil (d:=deV))),DnD.nil,H⟩))))))))
 ·replace H:=H.2
  refine zt (za (zg (zc (qg (us:=[]) qH rfl rfl rfl jf rfl (by omega) (fun g2 w2 hB2 hg2 hl2=>?_)))))
  have hO2:Own vv w2 w.heap.size 32 (some ⟨g2,0,none⟩) 0 ([]:List VH):=Own.ofBl hB2 (Nat.le_trans (Nat.le_refl _) hl2) (by simp [maxLen]) rfl
  have gr1:=hg2
  have hr1:RelD deV w2 ([]:List VH) ([]:List PV):=RelD.nil
  have nd1:OrD (fun p=>DnD deV b6 s p) deV ([]:List VH) ([]:List PV) w.heap.size:=(fun _ _ _=>DnD.nil)
  have dj1:DnD deV ([]:List VH) ([]:List PV) (blk (some ⟨g2,0,none⟩)):=DnD.nil
  refine yp (h:=?_)
  obtain ⟨h1,H⟩:=H
  have h2:((([]:List VH):List VH).length+b6.length)*16<=140737488355328:=by rw [hr1.1,(b9.grown gr1).1]; exact h1
  refine qo qH rfl rfl One.vv hO2 rfl rfl (hs.grown gr1) rfl b9.1.symm h2 (applen h2) (qL gr1) (fun d7 e2 w3 hO3 hg3 hk1=>?_)
  have el1:(([]:List VH)++b6).length=(([]:List PV)++s).length:=by rw [List.length_append,List.length_append,hr1.1,(b9.grown gr1).1]
  rw [el1]
  have gr2:=qT gr1 hg3 hO2.ge'
  have hr2:RelD deV w3 (([]:List VH)++b6) (([]:List PV)++s):=RelD.append (hr1.go hg3 dj1) (b9.grown gr2)
  have nd2:OrD (fun p=>DnD deV b6 s p) deV (([]:List VH)++b6) (([]:List PV)++s) w.heap.size:=OrD.append hr1.1 nd1 (fun p_ hp_ q_=>q_)
  have dj2:DnD deV (([]:List VH)++b6) (([]:List PV)++s) (blk d7):=(DnD.append hr1.1 (RelD.app hr1 dj1 hk1) (RelD.app (b9.grown gr1) (b9.new hO2.ge') hk1))
  exact yp (h:=(zh (za (zx (zM rfl rfl ⟨gr2,(([]:List PV)++s),d7,e2,(([]:List VH)++b6),rfl,hO3,hr2,(fun p_ hp_ v0_=>nd2 p_ hp_ v0_),dj2,H⟩)))))
end
 end Go.Proofs.YtjoepdjeekadcaaGreatDoor
