/- Texts of this claim, joined by a program: Sent, GSb, Lw, Enc, EncD, Dfr, GLv, See, LsC, LsD, Rv, GRa, Rx, GIt, LsP, Unr, GLn. -/
import Derived.Test.YtjoepdjeekadcaaGreatDoorJ3
import Derived.Defers
namespace Go.Proofs.YtjoepdjeekadcaaGreatDoor

section
open Go Go.RowKit
attribute [local irreducible] WL WC WX WQ WK WJ Yld Eff Ef0 Fn
theorem Rd.ofBlV {w:World} {g m:Nat} {e:TypeId} {us:List Value} (h:Bl w g e us) (hm:us.length=m) (hx:m<=maxLen):Rd (fun v=>v) w (some ⟨g,0,none⟩) m us:=⟨by omega,hx,fun _=>⟨_,rfl,fun j x hj=>by
 have:=h.cell j
 rw [hj] at this
 cases j with
 | zero=>simpa [Addr.add] using this
 | succ j=>simpa [Addr.add] using this⟩⟩
def errsV (S:List Nat) (w:World) (us:List Value):Prop:=us.length=17/\∀ n,n<17->ErrR S w (us.getD n .nilIface) (.e n)
theorem sentinels_fn {S:List Nat} {w:World} (hG:GOK S w) (hS:∀ n,n<17->n∈S):Fn Tryz.prog 216 ⟨[]⟩ w fun v w'=>w.grownBy w' none/\∃ g us,v=.slice (some ⟨g,0,none⟩) 17 17/\Bl w' g 43 us/\errsV S w' us:=by
 refine Fn.enter (by kernel_rfl) Tryz.func216 rfl Tryz.ntmps216 rfl ?_
 obtain ⟨v0,hc0,hE0⟩:=hG.get 0 3 (hS 0 (by omega)) rfl rfl
 obtain ⟨v1,hc1,hE1⟩:=hG.get 1 4 (hS 1 (by omega)) rfl rfl
 obtain ⟨v2,hc2,hE2⟩:=hG.get 2 5 (hS 2 (by omega)) rfl rfl
 obtain ⟨v3,hc3,hE3⟩:=hG.get 3 0 (hS 3 (by omega)) rfl rfl
 obtain ⟨v4,hc4,hE4⟩:=hG.get 4 6 (hS 4 (by omega)) rfl rfl
 obtain ⟨v5,hc5,hE5⟩:=hG.get 5 7 (hS 5 (by omega)) rfl rfl
 obtain ⟨v6,hc6,hE6⟩:=hG.get 6 8 (hS 6 (by omega)) rfl rfl
 obtain ⟨v7,hc7,hE7⟩:=hG.get 7 1 (hS 7 (by omega)) rfl rfl
 obtain ⟨v8,hc8,hE8⟩:=hG.get 8 9 (hS 8 (by omega)) rfl rfl
 obtain ⟨v9,hc9,hE9⟩:=hG.get 9 10 (hS 9 (by omega)) rfl rfl
 obtain ⟨v10,hc10,hE10⟩:=hG.get 10 11 (hS 10 (by omega)) rfl rfl
 obtain ⟨v11,hc11,hE11⟩:=hG.get 11 12 (hS 11 (by omega)) rfl rfl
 obtain ⟨v12,hc12,hE12⟩:=hG.get 12 13 (hS 12 (by omega)) rfl rfl
 obtain ⟨v13,hc13,hE13⟩:=hG.get 13 14 (hS 13 (by omega)) rfl rfl
 obtain ⟨v14,hc14,hE14⟩:=hG.get 14 15 (hS 14 (by omega)) rfl rfl
 obtain ⟨v15,hc15,hE15⟩:=hG.get 15 16 (hS 15 (by omega)) rfl rfl
 obtain ⟨v16,hc16,hE16⟩:=hG.get 16 17 (hS 16 (by omega)) rfl rfl
 repeat (first | refine zg rfl (Yld.cell qD hc0 rfl rfl) ?_ | refine zg rfl (Yld.cell qD hc1 rfl rfl) ?_ | refine zg rfl (Yld.cell qD hc2 rfl rfl) ?_ | refine zg rfl (Yld.cell qD hc3 rfl rfl) ?_ | refine zg rfl (Yld.cell qD hc4 rfl rfl) ?_ | refine zg rfl (Yld.cell qD hc5 rfl rfl) ?_ | refine zg rfl (Yld.cell qD hc6 rfl rfl) ?_ | refine zg rfl (Yld.cell qD hc7 rfl rfl) ?_ | refine zg rfl (Yld.cell qD hc8 rfl rfl) ?_ | refine zg rfl (Yld.cell qD hc9 rfl rfl) ?_ | refine zg rfl (Yld.cell qD hc10 rfl rfl) ?_ | refine zg rfl (Yld.cell qD hc11 rfl rfl) ?_ | refine zg rfl (Yld.cell qD hc12 rfl rfl) ?_ | refine zg rfl (Yld.cell qD hc13 rfl rfl) ?_ | refine zg rfl (Yld.cell qD hc14 rfl rfl) ?_ | refine zg rfl (Yld.cell qD hc15 rfl rfl) ?_ | refine zg rfl (Yld.cell qD hc16 rfl rfl) ?_ | refine zd ?_ | refine WC.block ?_ | refine zb ?_ | refine ze ?_ | refine za ?_ | refine zo ?_ | refine zy ?_ | refine zt ?_ | refine zk ?_ | refine zf ?_ | refine zi ?_ | refine zj ?_ | refine zl ?_ | refine zq rfl ?_ | refine zI ?_ | refine zJ ?_ | refine zn ?_ | refine zu ?_ | refine zr ?_ | refine zg rfl (Yld.add rfl rfl (by simp only [In]; omega)) ?_ | refine zg rfl (Yld.sub rfl rfl (by simp only [In]; omega)) ?_ | refine zg rfl (zN rfl rfl (by simp only [In]; omega)) ?_ | refine zg rfl (zv qD rfl rfl rfl rfl) ?_ | refine zg rfl (zw qD rfl rfl rfl (by simp only [In]; omega)) ?_ | refine zg rfl (zE rfl rfl (by omega) (by omega) (by simp only [In]; omega)) ?_ | refine zg rfl (zF rfl rfl (by omega) (by omega)) ?_ | refine zg rfl (zP rfl rfl (by omega)) ?_ | refine zg rfl (zL rfl rfl (by omega)) ?_ | refine zg rfl (zh qD rfl) ?_ | refine zg rfl (zO qI rfl rfl rfl) ?_ | refine zg rfl (zH rfl rfl) ?_ | refine zg rfl (zC rfl rfl) ?_ | refine zg rfl (zp rfl rfl rfl) ?_ | refine zG rfl rfl rfl rfl ?_ | refine zc rfl rfl rfl rfl (Yld.add rfl rfl (by simp only [In]; omega)) ?_ | refine zc rfl rfl rfl rfl (Yld.sub rfl rfl (by simp only [In]; omega)) ?_ | refine zc rfl rfl rfl rfl (zN rfl rfl (by simp only [In]; omega)) ?_ | refine zc rfl rfl rfl rfl (zv qD rfl rfl rfl rfl) ?_ | refine zc rfl rfl rfl rfl (zw qD rfl rfl rfl (by simp only [In]; omega)) ?_ | refine zc rfl rfl rfl rfl (zE rfl rfl (by omega) (by omega) (by simp only [In]; omega)) ?_ | refine zc rfl rfl rfl rfl (zF rfl rfl (by omega) (by omega)) ?_ | refine zc rfl rfl rfl rfl (zP rfl rfl (by omega)) ?_ | refine zc rfl rfl rfl rfl (zL rfl rfl (by omega)) ?_ | refine zc rfl rfl rfl rfl (zh qD rfl) ?_ | refine zc rfl rfl rfl rfl (zO qI rfl rfl rfl) ?_ | refine zc rfl rfl rfl rfl (zH rfl rfl) ?_ | refine zc rfl rfl rfl rfl (zC rfl rfl) ?_ | refine zc rfl rfl rfl rfl (zp rfl rfl rfl) ?_ | refine qu rfl rfl rfl rfl ?_)
 refine z5 qD rfl rfl rfl (qJ (ErrR.one hE0) (qJ (ErrR.one hE1) (qJ (ErrR.one hE2) (qJ (ErrR.one hE3) (qJ (ErrR.one hE4) (qJ (ErrR.one hE5) (qJ (ErrR.one hE6) (qJ (ErrR.one hE7) (qJ (ErrR.one hE8) (qJ (ErrR.one hE9) (qJ (ErrR.one hE10) (qJ (ErrR.one hE11) (qJ (ErrR.one hE12) (qJ (ErrR.one hE13) (qJ (ErrR.one hE14) (qJ (ErrR.one hE15) (qJ (ErrR.one hE16) jl))))))))))))))))) rfl (by omega) (fun g w' hB hg hl=>?_)
 repeat (first | refine zd ?_ | refine WC.block ?_ | refine zb ?_ | refine ze ?_ | refine za ?_ | refine zo ?_ | refine zy ?_ | refine zt ?_ | refine zk ?_ | refine zf ?_ | refine zi ?_ | refine zj ?_ | refine zl ?_ | refine zq rfl ?_ | refine zI ?_ | refine zJ ?_ | refine zn ?_ | refine zu ?_ | refine zr ?_ | refine zg rfl (Yld.add rfl rfl (by simp only [In]; omega)) ?_ | refine zg rfl (Yld.sub rfl rfl (by simp only [In]; omega)) ?_ | refine zg rfl (zN rfl rfl (by simp only [In]; omega)) ?_ | refine zg rfl (zv qD rfl rfl rfl rfl) ?_ | refine zg rfl (zw qD rfl rfl rfl (by simp only [In]; omega)) ?_ | refine zg rfl (zE rfl rfl (by omega) (by omega) (by simp only [In]; omega)) ?_ | refine zg rfl (zF rfl rfl (by omega) (by omega)) ?_ | refine zg rfl (zP rfl rfl (by omega)) ?_ | refine zg rfl (zL rfl rfl (by omega)) ?_ | refine zg rfl (zh qD rfl) ?_ | refine zg rfl (zO qI rfl rfl rfl) ?_ | refine zg rfl (zH rfl rfl) ?_ | refine zg rfl (zC rfl rfl) ?_ | refine zg rfl (zp rfl rfl rfl) ?_ | refine zG rfl rfl rfl rfl ?_ | refine zc rfl rfl rfl rfl (Yld.add rfl rfl (by simp only [In]; omega)) ?_ | refine zc rfl rfl rfl rfl (Yld.sub rfl rfl (by simp only [In]; omega)) ?_ | refine zc rfl rfl rfl rfl (zN rfl rfl (by simp only [In]; omega)) ?_ | refine zc rfl rfl rfl rfl (zv qD rfl rfl rfl rfl) ?_ | refine zc rfl rfl rfl rfl (zw qD rfl rfl rfl (by simp only [In]; omega)) ?_ | refine zc rfl rfl rfl rfl (zE rfl rfl (by omega) (by omega) (by simp only [In]; omega)) ?_ | refine zc rfl rfl rfl rfl (zF rfl rfl (by omega) (by omega)) ?_ | refine zc rfl rfl rfl rfl (zP rfl rfl (by omega)) ?_ | refine zc rfl rfl rfl rfl (zL rfl rfl (by omega)) ?_ | refine zc rfl rfl rfl rfl (zh qD rfl) ?_ | refine zc rfl rfl rfl rfl (zO qI rfl rfl rfl) ?_ | refine zc rfl rfl rfl rfl (zH rfl rfl) ?_ | refine zc rfl rfl rfl rfl (zC rfl rfl) ?_ | refine zc rfl rfl rfl rfl (zp rfl rfl rfl) ?_ | refine qu rfl rfl rfl rfl ?_)
 refine zD rfl rfl ⟨hg,g,_,rfl,hB,rfl,fun n hn=>?_⟩
 match n,hn with
 | 0,_=>exact hE0.grown hg
 | 1,_=>exact hE1.grown hg
 | 2,_=>exact hE2.grown hg
 | 3,_=>exact hE3.grown hg
 | 4,_=>exact hE4.grown hg
 | 5,_=>exact hE5.grown hg
 | 6,_=>exact hE6.grown hg
 | 7,_=>exact hE7.grown hg
 | 8,_=>exact hE8.grown hg
 | 9,_=>exact hE9.grown hg
 | 10,_=>exact hE10.grown hg
 | 11,_=>exact hE11.grown hg
 | 12,_=>exact hE12.grown hg
 | 13,_=>exact hE13.grown hg
 | 14,_=>exact hE14.grown hg
 | 15,_=>exact hE15.grown hg
 | 16,_=>exact hE16.grown hg
 | n+17,hn=>omega
def sentV:Er->Int
 | .ok => -1
 | .e n=>101+n
 | .at_ _ _ => -1
def jK (e:Er) (K:Int->Prop):Prop:=K (sentV e)
theorem W_smithysee_sentinel {S:List Nat} {w:World} {v:Value} {e:Er} {K:Int->Prop} (hG:GOK S w) (hS0:0∈S) (hS1:1∈S) (hS2:2∈S) (hS3:3∈S) (hS4:4∈S) (hS5:5∈S) (hS6:6∈S) (hS7:7∈S) (hS8:8∈S) (hS9:9∈S) (hS10:10∈S) (hS11:11∈S) (hS12:12∈S) (hS13:13∈S) (hS14:14∈S) (hS15:15∈S) (hS16:16∈S) (hE:ErrR S w v e) (H:jK e K):Fn Tryz.prog 202 ⟨[v]⟩ w (fun r w'=>w.grownBy w' none/\∃ n:Int,r=.int .i64 n/\K n):=by
 have hS:∀ n,n<17->n∈S:=fun n hn=>by
  match n,hn with
  | 0,_=>exact hS0
  | 1,_=>exact hS1
  | 2,_=>exact hS2
  | 3,_=>exact hS3
  | 4,_=>exact hS4
  | 5,_=>exact hS5
  | 6,_=>exact hS6
  | 7,_=>exact hS7
  | 8,_=>exact hS8
  | 9,_=>exact hS9
  | 10,_=>exact hS10
  | 11,_=>exact hS11
  | 12,_=>exact hS12
  | 13,_=>exact hS13
  | 14,_=>exact hS14
  | 15,_=>exact hS15
  | 16,_=>exact hS16
  | n+17,hn=>omega
 unfold jK at H
 refine Fn.enter (by kernel_rfl) Tryz.func202 rfl Tryz.ntmps202 rfl ?_
 repeat (first | refine zd ?_ | refine WC.block ?_ | refine zb ?_ | refine ze ?_ | refine za ?_ | refine zo ?_ | refine zy ?_ | refine zt ?_ | refine zk ?_ | refine zf ?_ | refine zi ?_ | refine zj ?_ | refine zl ?_ | refine zq rfl ?_ | refine zI ?_ | refine zJ ?_ | refine zn ?_ | refine zu ?_ | refine zr ?_ | refine zg rfl (Yld.add rfl rfl (by simp only [In]; omega)) ?_ | refine zg rfl (Yld.sub rfl rfl (by simp only [In]; omega)) ?_ | refine zg rfl (zN rfl rfl (by simp only [In]; omega)) ?_ | refine zg rfl (zv qD rfl rfl rfl rfl) ?_ | refine zg rfl (zw qD rfl rfl rfl (by simp only [In]; omega)) ?_ | refine zg rfl (zE rfl rfl (by omega) (by omega) (by simp only [In]; omega)) ?_ | refine zg rfl (zF rfl rfl (by omega) (by omega)) ?_ | refine zg rfl (zP rfl rfl (by omega)) ?_ | refine zg rfl (zL rfl rfl (by omega)) ?_ | refine zg rfl (zh qD rfl) ?_ | refine zg rfl (zO qI rfl rfl rfl) ?_ | refine zg rfl (zH rfl rfl) ?_ | refine zg rfl (zC rfl rfl) ?_ | refine zg rfl (zp rfl rfl rfl) ?_ | refine zG rfl rfl rfl rfl ?_ | refine zc rfl rfl rfl rfl (Yld.add rfl rfl (by simp only [In]; omega)) ?_ | refine zc rfl rfl rfl rfl (Yld.sub rfl rfl (by simp only [In]; omega)) ?_ | refine zc rfl rfl rfl rfl (zN rfl rfl (by simp only [In]; omega)) ?_ | refine zc rfl rfl rfl rfl (zv qD rfl rfl rfl rfl) ?_ | refine zc rfl rfl rfl rfl (zw qD rfl rfl rfl (by simp only [In]; omega)) ?_ | refine zc rfl rfl rfl rfl (zE rfl rfl (by omega) (by omega) (by simp only [In]; omega)) ?_ | refine zc rfl rfl rfl rfl (zF rfl rfl (by omega) (by omega)) ?_ | refine zc rfl rfl rfl rfl (zP rfl rfl (by omega)) ?_ | refine zc rfl rfl rfl rfl (zL rfl rfl (by omega)) ?_ | refine zc rfl rfl rfl rfl (zh qD rfl) ?_ | refine zc rfl rfl rfl rfl (zO qI rfl rfl rfl) ?_ | refine zc rfl rfl rfl rfl (zH rfl rfl) ?_ | refine zc rfl rfl rfl rfl (zC rfl rfl) ?_ | refine zc rfl rfl rfl rfl (zp rfl rfl rfl) ?_ | refine qu rfl rfl rfl rfl ?_)
 refine zx rfl rfl (sentinels_fn hG hS) ?_
 rintro _ w1 ⟨hg1,g,us,rfl,hB,hlen,hus⟩
 have hR:=Rd.ofBlV hB hlen (by simp [maxLen])
 have hE1:=hE.grown hg1
 repeat (first | refine zd ?_ | refine WC.block ?_ | refine zb ?_ | refine ze ?_ | refine za ?_ | refine zo ?_ | refine zy ?_ | refine zt ?_ | refine zk ?_ | refine zf ?_ | refine zi ?_ | refine zj ?_ | refine zl ?_ | refine zq rfl ?_ | refine zI ?_ | refine zJ ?_ | refine zn ?_ | refine zu ?_ | refine zr ?_ | refine zg rfl (Yld.add rfl rfl (by simp only [In]; omega)) ?_ | refine zg rfl (Yld.sub rfl rfl (by simp only [In]; omega)) ?_ | refine zg rfl (zN rfl rfl (by simp only [In]; omega)) ?_ | refine zg rfl (zv qD rfl rfl rfl rfl) ?_ | refine zg rfl (zw qD rfl rfl rfl (by simp only [In]; omega)) ?_ | refine zg rfl (zE rfl rfl (by omega) (by omega) (by simp only [In]; omega)) ?_ | refine zg rfl (zF rfl rfl (by omega) (by omega)) ?_ | refine zg rfl (zP rfl rfl (by omega)) ?_ | refine zg rfl (zL rfl rfl (by omega)) ?_ | refine zg rfl (zh qD rfl) ?_ | refine zg rfl (zO qI rfl rfl rfl) ?_ | refine zg rfl (zH rfl rfl) ?_ | refine zg rfl (zC rfl rfl) ?_ | refine zg rfl (zp rfl rfl rfl) ?_ | refine zG rfl rfl rfl rfl ?_ | refine zc rfl rfl rfl rfl (Yld.add rfl rfl (by simp only [In]; omega)) ?_ | refine zc rfl rfl rfl rfl (Yld.sub rfl rfl (by simp only [In]; omega)) ?_ | refine zc rfl rfl rfl rfl (zN rfl rfl (by simp only [In]; omega)) ?_ | refine zc rfl rfl rfl rfl (zv qD rfl rfl rfl rfl) ?_ | refine zc rfl rfl rfl rfl (zw qD rfl rfl rfl (by simp only [In]; omega)) ?_ | refine zc rfl rfl rfl rfl (zE rfl rfl (by omega) (by omega) (by simp only [In]; omega)) ?_ | refine zc rfl rfl rfl rfl (zF rfl rfl (by omega) (by omega)) ?_ | refine zc rfl rfl rfl rfl (zP rfl rfl (by omega)) ?_ | refine zc rfl rfl rfl rfl (zL rfl rfl (by omega)) ?_ | refine zc rfl rfl rfl rfl (zh qD rfl) ?_ | refine zc rfl rfl rfl rfl (zO qI rfl rfl rfl) ?_ | refine zc rfl rfl rfl rfl (zH rfl rfl) ?_ | refine zc rfl rfl rfl rfl (zC rfl rfl) ?_ | refine zc rfl rfl rfl rfl (zp rfl rfl rfl) ?_ | refine qu rfl rfl rfl rfl ?_)
 refine z3 (fun n' L' w'=>∃ i:Nat,n'=17 - i/\L'=[(4,vi i),(3,.slice (some ⟨g,0,none⟩) 17 17),(0,v)]/\i<=17/\(∀ j,j<i->e≠.e j)/\w1=w') _ _ ⟨0,rfl,rfl,by omega,fun j hj=>by omega,rfl⟩ (by repeat (first | exact qg | refine qb rfl ?_)) ?_
 rintro _ _ _ ⟨i,rfl,rfl,hi,hne,rfl⟩
 repeat (first | refine zd ?_ | refine WC.block ?_ | refine zb ?_ | refine ze ?_ | refine za ?_ | refine zo ?_ | refine zy ?_ | refine zt ?_ | refine zk ?_ | refine zf ?_ | refine zi ?_ | refine zj ?_ | refine zl ?_ | refine zq rfl ?_ | refine zI ?_ | refine zJ ?_ | refine zn ?_ | refine zu ?_ | refine zr ?_ | refine zg rfl (Yld.add rfl rfl (by simp only [In]; omega)) ?_ | refine zg rfl (Yld.sub rfl rfl (by simp only [In]; omega)) ?_ | refine zg rfl (zN rfl rfl (by simp only [In]; omega)) ?_ | refine zg rfl (zv qD rfl rfl rfl rfl) ?_ | refine zg rfl (zw qD rfl rfl rfl (by simp only [In]; omega)) ?_ | refine zg rfl (zE rfl rfl (by omega) (by omega) (by simp only [In]; omega)) ?_ | refine zg rfl (zF rfl rfl (by omega) (by omega)) ?_ | refine zg rfl (zP rfl rfl (by omega)) ?_ | refine zg rfl (zL rfl rfl (by omega)) ?_ | refine zg rfl (zh qD rfl) ?_ | refine zg rfl (zO qI rfl rfl rfl) ?_ | refine zg rfl (zH rfl rfl) ?_ | refine zg rfl (zC rfl rfl) ?_ | refine zg rfl (zp rfl rfl rfl) ?_ | refine zG rfl rfl rfl rfl ?_ | refine zc rfl rfl rfl rfl (Yld.add rfl rfl (by simp only [In]; omega)) ?_ | refine zc rfl rfl rfl rfl (Yld.sub rfl rfl (by simp only [In]; omega)) ?_ | refine zc rfl rfl rfl rfl (zN rfl rfl (by simp only [In]; omega)) ?_ | refine zc rfl rfl rfl rfl (zv qD rfl rfl rfl rfl) ?_ | refine zc rfl rfl rfl rfl (zw qD rfl rfl rfl (by simp only [In]; omega)) ?_ | refine zc rfl rfl rfl rfl (zE rfl rfl (by omega) (by omega) (by simp only [In]; omega)) ?_ | refine zc rfl rfl rfl rfl (zF rfl rfl (by omega) (by omega)) ?_ | refine zc rfl rfl rfl rfl (zP rfl rfl (by omega)) ?_ | refine zc rfl rfl rfl rfl (zL rfl rfl (by omega)) ?_ | refine zc rfl rfl rfl rfl (zh qD rfl) ?_ | refine zc rfl rfl rfl rfl (zO qI rfl rfl rfl) ?_ | refine zc rfl rfl rfl rfl (zH rfl rfl) ?_ | refine zc rfl rfl rfl rfl (zC rfl rfl) ?_ | refine zc rfl rfl rfl rfl (zp rfl rfl rfl) ?_ | refine qu rfl rfl rfl rfl ?_)
 refine zm rfl (fun h=>?_) (fun h=>?_)
 ·simp only [decide_eq_true_eq] at h
  have hi':i<17:=by omega
  repeat (first | refine zg rfl (Yld.iaddrN qD hR rfl rfl hlen.symm rfl (by omega)) ?_ | refine zg rfl (zM .nilIface qD hR rfl rfl (by omega)) ?_ | refine zd ?_ | refine WC.block ?_ | refine zb ?_ | refine ze ?_ | refine za ?_ | refine zo ?_ | refine zy ?_ | refine zt ?_ | refine zk ?_ | refine zf ?_ | refine zi ?_ | refine zj ?_ | refine zl ?_ | refine zq rfl ?_ | refine zI ?_ | refine zJ ?_ | refine zn ?_ | refine zu ?_ | refine zr ?_ | refine zg rfl (Yld.add rfl rfl (by simp only [In]; omega)) ?_ | refine zg rfl (Yld.sub rfl rfl (by simp only [In]; omega)) ?_ | refine zg rfl (zN rfl rfl (by simp only [In]; omega)) ?_ | refine zg rfl (zv qD rfl rfl rfl rfl) ?_ | refine zg rfl (zw qD rfl rfl rfl (by simp only [In]; omega)) ?_ | refine zg rfl (zE rfl rfl (by omega) (by omega) (by simp only [In]; omega)) ?_ | refine zg rfl (zF rfl rfl (by omega) (by omega)) ?_ | refine zg rfl (zP rfl rfl (by omega)) ?_ | refine zg rfl (zL rfl rfl (by omega)) ?_ | refine zg rfl (zh qD rfl) ?_ | refine zg rfl (zO qI rfl rfl rfl) ?_ | refine zg rfl (zH rfl rfl) ?_ | refine zg rfl (zC rfl rfl) ?_ | refine zg rfl (zp rfl rfl rfl) ?_ | refine zG rfl rfl rfl rfl ?_ | refine zc rfl rfl rfl rfl (Yld.add rfl rfl (by simp only [In]; omega)) ?_ | refine zc rfl rfl rfl rfl (Yld.sub rfl rfl (by simp only [In]; omega)) ?_ | refine zc rfl rfl rfl rfl (zN rfl rfl (by simp only [In]; omega)) ?_ | refine zc rfl rfl rfl rfl (zv qD rfl rfl rfl rfl) ?_ | refine zc rfl rfl rfl rfl (zw qD rfl rfl rfl (by simp only [In]; omega)) ?_ | refine zc rfl rfl rfl rfl (zE rfl rfl (by omega) (by omega) (by simp only [In]; omega)) ?_ | refine zc rfl rfl rfl rfl (zF rfl rfl (by omega) (by omega)) ?_ | refine zc rfl rfl rfl rfl (zP rfl rfl (by omega)) ?_ | refine zc rfl rfl rfl rfl (zL rfl rfl (by omega)) ?_ | refine zc rfl rfl rfl rfl (zh qD rfl) ?_ | refine zc rfl rfl rfl rfl (zO qI rfl rfl rfl) ?_ | refine zc rfl rfl rfl rfl (zH rfl rfl) ?_ | refine zc rfl rfl rfl rfl (zC rfl rfl) ?_ | refine zc rfl rfl rfl rfl (zp rfl rfl rfl) ?_ | refine qu rfl rfl rfl rfl ?_)
  refine zx rfl rfl (W_smithysee_Alike (K:=fun b=>b=decide (e=.e i)) hE1 (hus i hi') ?_) ?_
  ·unfold M_smithysee_Alike
   cases e <;> simp
  rintro _ _ ⟨rfl,b,rfl,hb⟩
  subst hb
  refine ze ?_
  repeat (first | refine zd ?_ | refine WC.block ?_ | refine zb ?_ | refine ze ?_ | refine za ?_ | refine zo ?_ | refine zy ?_ | refine zt ?_ | refine zk ?_ | refine zf ?_ | refine zi ?_ | refine zj ?_ | refine zl ?_ | refine zq rfl ?_ | refine zI ?_ | refine zJ ?_ | refine zn ?_ | refine zu ?_ | refine zr ?_ | refine zg rfl (Yld.add rfl rfl (by simp only [In]; omega)) ?_ | refine zg rfl (Yld.sub rfl rfl (by simp only [In]; omega)) ?_ | refine zg rfl (zN rfl rfl (by simp only [In]; omega)) ?_ | refine zg rfl (zv qD rfl rfl rfl rfl) ?_ | refine zg rfl (zw qD rfl rfl rfl (by simp only [In]; omega)) ?_ | refine zg rfl (zE rfl rfl (by omega) (by omega) (by simp only [In]; omega)) ?_ | refine zg rfl (zF rfl rfl (by omega) (by omega)) ?_ | refine zg rfl (zP rfl rfl (by omega)) ?_ | refine zg rfl (zL rfl rfl (by omega)) ?_ | refine zg rfl (zh qD rfl) ?_ | refine zg rfl (zO qI rfl rfl rfl) ?_ | refine zg rfl (zH rfl rfl) ?_ | refine zg rfl (zC rfl rfl) ?_ | refine zg rfl (zp rfl rfl rfl) ?_ | refine zG rfl rfl rfl rfl ?_ | refine zc rfl rfl rfl rfl (Yld.add rfl rfl (by simp only [In]; omega)) ?_ | refine zc rfl rfl rfl rfl (Yld.sub rfl rfl (by simp only [In]; omega)) ?_ | refine zc rfl rfl rfl rfl (zN rfl rfl (by simp only [In]; omega)) ?_ | refine zc rfl rfl rfl rfl (zv qD rfl rfl rfl rfl) ?_ | refine zc rfl rfl rfl rfl (zw qD rfl rfl rfl (by simp only [In]; omega)) ?_ | refine zc rfl rfl rfl rfl (zE rfl rfl (by omega) (by omega) (by simp only [In]; omega)) ?_ | refine zc rfl rfl rfl rfl (zF rfl rfl (by omega) (by omega)) ?_ | refine zc rfl rfl rfl rfl (zP rfl rfl (by omega)) ?_ | refine zc rfl rfl rfl rfl (zL rfl rfl (by omega)) ?_ | refine zc rfl rfl rfl rfl (zh qD rfl) ?_ | refine zc rfl rfl rfl rfl (zO qI rfl rfl rfl) ?_ | refine zc rfl rfl rfl rfl (zH rfl rfl) ?_ | refine zc rfl rfl rfl rfl (zC rfl rfl) ?_ | refine zc rfl rfl rfl rfl (zp rfl rfl rfl) ?_ | refine qu rfl rfl rfl rfl ?_)
  refine zm rfl (fun h2=>?_) (fun h2=>?_)
  ·have h3:e=.e i:=of_decide_eq_true h2
   subst h3
   repeat (first | refine zd ?_ | refine WC.block ?_ | refine zb ?_ | refine ze ?_ | refine za ?_ | refine zo ?_ | refine zy ?_ | refine zt ?_ | refine zk ?_ | refine zf ?_ | refine zi ?_ | refine zj ?_ | refine zl ?_ | refine zq rfl ?_ | refine zI ?_ | refine zJ ?_ | refine zn ?_ | refine zu ?_ | refine zr ?_ | refine zg rfl (Yld.add rfl rfl (by simp only [In]; omega)) ?_ | refine zg rfl (Yld.sub rfl rfl (by simp only [In]; omega)) ?_ | refine zg rfl (zN rfl rfl (by simp only [In]; omega)) ?_ | refine zg rfl (zv qD rfl rfl rfl rfl) ?_ | refine zg rfl (zw qD rfl rfl rfl (by simp only [In]; omega)) ?_ | refine zg rfl (zE rfl rfl (by omega) (by omega) (by simp only [In]; omega)) ?_ | refine zg rfl (zF rfl rfl (by omega) (by omega)) ?_ | refine zg rfl (zP rfl rfl (by omega)) ?_ | refine zg rfl (zL rfl rfl (by omega)) ?_ | refine zg rfl (zh qD rfl) ?_ | refine zg rfl (zO qI rfl rfl rfl) ?_ | refine zg rfl (zH rfl rfl) ?_ | refine zg rfl (zC rfl rfl) ?_ | refine zg rfl (zp rfl rfl rfl) ?_ | refine zG rfl rfl rfl rfl ?_ | refine zc rfl rfl rfl rfl (Yld.add rfl rfl (by simp only [In]; omega)) ?_ | refine zc rfl rfl rfl rfl (Yld.sub rfl rfl (by simp only [In]; omega)) ?_ | refine zc rfl rfl rfl rfl (zN rfl rfl (by simp only [In]; omega)) ?_ | refine zc rfl rfl rfl rfl (zv qD rfl rfl rfl rfl) ?_ | refine zc rfl rfl rfl rfl (zw qD rfl rfl rfl (by simp only [In]; omega)) ?_ | refine zc rfl rfl rfl rfl (zE rfl rfl (by omega) (by omega) (by simp only [In]; omega)) ?_ | refine zc rfl rfl rfl rfl (zF rfl rfl (by omega) (by omega)) ?_ | refine zc rfl rfl rfl rfl (zP rfl rfl (by omega)) ?_ | refine zc rfl rfl rfl rfl (zL rfl rfl (by omega)) ?_ | refine zc rfl rfl rfl rfl (zh qD rfl) ?_ | refine zc rfl rfl rfl rfl (zO qI rfl rfl rfl) ?_ | refine zc rfl rfl rfl rfl (zH rfl rfl) ?_ | refine zc rfl rfl rfl rfl (zC rfl rfl) ?_ | refine zc rfl rfl rfl rfl (zp rfl rfl rfl) ?_ | refine qu rfl rfl rfl rfl ?_)
   exact zD rfl rfl ⟨hg1,_,rfl,H⟩
  ·have h3:e≠.e i:=of_decide_eq_false h2
   repeat (first | refine zd ?_ | refine WC.block ?_ | refine zb ?_ | refine ze ?_ | refine za ?_ | refine zo ?_ | refine zy ?_ | refine zt ?_ | refine zk ?_ | refine zf ?_ | refine zi ?_ | refine zj ?_ | refine zl ?_ | refine zq rfl ?_ | refine zI ?_ | refine zJ ?_ | refine zn ?_ | refine zu ?_ | refine zr ?_ | refine zg rfl (Yld.add rfl rfl (by simp only [In]; omega)) ?_ | refine zg rfl (Yld.sub rfl rfl (by simp only [In]; omega)) ?_ | refine zg rfl (zN rfl rfl (by simp only [In]; omega)) ?_ | refine zg rfl (zv qD rfl rfl rfl rfl) ?_ | refine zg rfl (zw qD rfl rfl rfl (by simp only [In]; omega)) ?_ | refine zg rfl (zE rfl rfl (by omega) (by omega) (by simp only [In]; omega)) ?_ | refine zg rfl (zF rfl rfl (by omega) (by omega)) ?_ | refine zg rfl (zP rfl rfl (by omega)) ?_ | refine zg rfl (zL rfl rfl (by omega)) ?_ | refine zg rfl (zh qD rfl) ?_ | refine zg rfl (zO qI rfl rfl rfl) ?_ | refine zg rfl (zH rfl rfl) ?_ | refine zg rfl (zC rfl rfl) ?_ | refine zg rfl (zp rfl rfl rfl) ?_ | refine zG rfl rfl rfl rfl ?_ | refine zc rfl rfl rfl rfl (Yld.add rfl rfl (by simp only [In]; omega)) ?_ | refine zc rfl rfl rfl rfl (Yld.sub rfl rfl (by simp only [In]; omega)) ?_ | refine zc rfl rfl rfl rfl (zN rfl rfl (by simp only [In]; omega)) ?_ | refine zc rfl rfl rfl rfl (zv qD rfl rfl rfl rfl) ?_ | refine zc rfl rfl rfl rfl (zw qD rfl rfl rfl (by simp only [In]; omega)) ?_ | refine zc rfl rfl rfl rfl (zE rfl rfl (by omega) (by omega) (by simp only [In]; omega)) ?_ | refine zc rfl rfl rfl rfl (zF rfl rfl (by omega) (by omega)) ?_ | refine zc rfl rfl rfl rfl (zP rfl rfl (by omega)) ?_ | refine zc rfl rfl rfl rfl (zL rfl rfl (by omega)) ?_ | refine zc rfl rfl rfl rfl (zh qD rfl) ?_ | refine zc rfl rfl rfl rfl (zO qI rfl rfl rfl) ?_ | refine zc rfl rfl rfl rfl (zH rfl rfl) ?_ | refine zc rfl rfl rfl rfl (zC rfl rfl) ?_ | refine zc rfl rfl rfl rfl (zp rfl rfl rfl) ?_ | refine qu rfl rfl rfl rfl ?_)
   refine zX _ ⟨i+1,rfl,rfl,by omega,fun j hj=>?_,rfl⟩ (by repeat (first | exact qg | refine qb rfl ?_)) (by omega)
   rcases Nat.lt_or_ge j i with hji | hji
   ·exact hne j hji
   ·obtain rfl:j=i:=by omega
    exact h3
 ·simp only [decide_eq_false_iff_not] at h
  repeat (first | refine zd ?_ | refine WC.block ?_ | refine zb ?_ | refine ze ?_ | refine za ?_ | refine zo ?_ | refine zy ?_ | refine zt ?_ | refine zk ?_ | refine zf ?_ | refine zi ?_ | refine zj ?_ | refine zl ?_ | refine zq rfl ?_ | refine zI ?_ | refine zJ ?_ | refine zn ?_ | refine zu ?_ | refine zr ?_ | refine zg rfl (Yld.add rfl rfl (by simp only [In]; omega)) ?_ | refine zg rfl (Yld.sub rfl rfl (by simp only [In]; omega)) ?_ | refine zg rfl (zN rfl rfl (by simp only [In]; omega)) ?_ | refine zg rfl (zv qD rfl rfl rfl rfl) ?_ | refine zg rfl (zw qD rfl rfl rfl (by simp only [In]; omega)) ?_ | refine zg rfl (zE rfl rfl (by omega) (by omega) (by simp only [In]; omega)) ?_ | refine zg rfl (zF rfl rfl (by omega) (by omega)) ?_ | refine zg rfl (zP rfl rfl (by omega)) ?_ | refine zg rfl (zL rfl rfl (by omega)) ?_ | refine zg rfl (zh qD rfl) ?_ | refine zg rfl (zO qI rfl rfl rfl) ?_ | refine zg rfl (zH rfl rfl) ?_ | refine zg rfl (zC rfl rfl) ?_ | refine zg rfl (zp rfl rfl rfl) ?_ | refine zG rfl rfl rfl rfl ?_ | refine zc rfl rfl rfl rfl (Yld.add rfl rfl (by simp only [In]; omega)) ?_ | refine zc rfl rfl rfl rfl (Yld.sub rfl rfl (by simp only [In]; omega)) ?_ | refine zc rfl rfl rfl rfl (zN rfl rfl (by simp only [In]; omega)) ?_ | refine zc rfl rfl rfl rfl (zv qD rfl rfl rfl rfl) ?_ | refine zc rfl rfl rfl rfl (zw qD rfl rfl rfl (by simp only [In]; omega)) ?_ | refine zc rfl rfl rfl rfl (zE rfl rfl (by omega) (by omega) (by simp only [In]; omega)) ?_ | refine zc rfl rfl rfl rfl (zF rfl rfl (by omega) (by omega)) ?_ | refine zc rfl rfl rfl rfl (zP rfl rfl (by omega)) ?_ | refine zc rfl rfl rfl rfl (zL rfl rfl (by omega)) ?_ | refine zc rfl rfl rfl rfl (zh qD rfl) ?_ | refine zc rfl rfl rfl rfl (zO qI rfl rfl rfl) ?_ | refine zc rfl rfl rfl rfl (zH rfl rfl) ?_ | refine zc rfl rfl rfl rfl (zC rfl rfl) ?_ | refine zc rfl rfl rfl rfl (zp rfl rfl rfl) ?_ | refine qu rfl rfl rfl rfl ?_)
  refine zD rfl rfl ⟨hg1,_,rfl,?_⟩
  have:sentV e = -1:=by
   cases e with
   | e n =>
    by_cases hn:n<17
    ·exact absurd rfl (hne n (by omega))
    ·exact absurd (ErV.lt hE.1) hn
   | ok=>rfl
   | at_ p n=>rfl
  rw [this] at H
  exact H
end
 
section
open Go Go.RowKit
attribute [local irreducible] WL WC WX WQ WK WJ Yld Eff Ef0 Fn
def kf (e:Er) (K:Int->Bool->Int->Bool->(List UInt8)->Prop):Prop :=
 ((∀ (pos:Int) (n:Nat),e=Er.at_ pos n->(((Er.e n)=Er.ok->jE (-1:Int) (fun (b5:Int) (a2:Bool) (c2:Int) (a6:Bool) (b6:List UInt8) =>
 K b5 a2 c2 a6 b6)) /\
 (¬ ((Er.e n)=Er.ok)->jK (Er.e n) (fun (t29:Int) =>
 ke t29 pos (fun (b7:Int) (a3:Bool) (c3:Int) (a7:Bool) (b8:List UInt8) =>
 K b7 a3 c3 a7 b8))))) /\
 ((∀ p n,e≠Er.at_ p n)->jK e (fun (t13:Int) =>
 jE t13 (fun (a9:Int) (a0:Bool) (c0:Int) (a4:Bool) (b0:List UInt8) =>
 K a9 a0 c0 a4 b0))))
def kn (e:Er) (K:Int->Bool->Int->Bool->(List UInt8)->Prop):Prop :=
 ((e=Er.ok->jS (fun (c4:Int) (a8:Bool) (c8:Int) (b9:Bool) (c5:List UInt8) =>
 K c4 a8 c8 b9 c5)) /\
 (¬ (e=Er.ok)->kf e (fun (b3:Int) (a1:Bool) (c1:Int) (a5:Bool) (b4:List UInt8) =>
 K b3 a1 c1 a5 b4)))
def kq (e:Er) (f_Code:Int) (f_Placed:Bool) (f_Pos:Int) (f_Filed:Bool) (f_File:List UInt8) (K:Bool->Prop):Prop :=
 kn e (fun (d1:Int) (c6:Bool) (d5:Int) (c9:Bool) (d2:List UInt8) =>
 jU d1 c6 d5 c9 d2 f_Code f_Placed f_Pos f_Filed f_File (fun (t4:Bool) =>
 K t4))
def qZ (e:Er) (code:Int) (K:Bool->Prop):Prop :=
 jE code (fun (d3:Int) (c7:Bool) (d6:Int) (d0:Bool) (d4:List UInt8) =>
 kq e d3 c7 d6 d0 d4 (fun (t4:Bool) =>
 K t4))
set_option maxHeartbeats 8000000 in
theorem W_smithysee_placed {S:List Nat} {w:World} {v_e:Value} {e:Er} {K:Int->Bool->Int->Bool->(List UInt8)->Prop} (hG:GOK S w) (hS0:0∈S) (hS1:1∈S) (hS2:2∈S) (hS3:3∈S) (hS4:4∈S) (hS5:5∈S) (hS6:6∈S) (hS7:7∈S) (hS8:8∈S) (hS9:9∈S) (hS10:10∈S) (hS11:11∈S) (hS12:12∈S) (hS13:13∈S) (hS14:14∈S) (hS15:15∈S) (hS16:16∈S) (he:ErrR S w v_e e) (H:kf e K):Fn Tryz.prog 184 ⟨[v_e]⟩ w (fun v w'=>w.grownBy w' none/\∃ (r_Code:Int),∃ (r_Placed:Bool),∃ (r_Pos:Int),∃ (r_Filed:Bool),∃ (r_File:List UInt8),v=.agg ⟨[.int .i64 r_Code,.bool r_Placed,.int .i64 r_Pos,.bool r_Filed,vs r_File]⟩/\K r_Code r_Placed r_Pos r_Filed r_File):=by
 unfold kf at H
 refine Fn.enter (by kernel_rfl) Tryz.func184 rfl Tryz.ntmps184 rfl ?_
 refine zd (zb (WL.alloc rfl zero142 (fun g1 w1 hB1 hg1 hl1=>?_)))
 have gr1:=hg1
 refine ze (za (zd (zb (yp (h:=?_)))))
 rcases Er.atCases e with ⟨pos,n,he1⟩ | he1
 ·replace H:=H.1 pos n he1
  obtain ⟨b1,vE1,hv1,hB2,hE1⟩:=ErrR.atOut (he1 ▸ (he.grown gr1))
  refine zg rfl (Yld.assertYes Tryz.underlying298 rfl hv1) (yp (h:=(yp (h:=(yp (h:=(yp (h:=(yp (h:=(ze (za (zd (zd (zb (yp (h:=(yp (h:=(ze (za (zm rfl (fun h=>by cases h) (fun _=>zo (za (zd (zd (zb (yp (h:=(zg rfl (zY Tryz.underlying298 rfl rfl) (yp (h:=(zV 6 (fun L' w'=>∃ q1:Bool,L'=[(23,.bool q1),(2,.pointer (some ⟨g1,0,none⟩)),(3,.pointer (some ⟨b1,0,none⟩))]/\(decide ((Er.e n)=Er.ok))=q1/\w1=w') ?_ (fun hQ=>?_))))))))))))))))))))))))))))))))))
  ·rintro _ _ ⟨q1,rfl,rfl,rfl⟩
   refine ze (za (zm rfl (fun b2=>?_) (fun b2=>?_)))
   ·replace H:=H.1 (of_decide_eq_true b2)
    refine zd (zb (zx rfl rfl (W_smithyref_Bare H) ?_))
    rintro _ w2 ⟨hg2,b5,a2,c2,a6,b6,rfl,H⟩
    exact zZ (vs:=[.int .i64 b5,.bool a2,.int .i64 c2,.bool a6,vs b6]) qD rfl rfl rfl (qJ rfl (qJ rfl (qJ rfl (qJ rfl (qJ rfl jl))))) (hB1.g0 hg2) rfl rfl (fun w3 hB3 hg3=>ze (za (zt (zf (qi qD rfl rfl rfl hB3 rfl ⟨(js (qG gr1 hg2) hg3 (Ge.le (Ge.box hl1) (Nat.le_refl _))),b5,a2,c2,a6,b6,rfl,H⟩)))))
   ·replace H:=H.2 (of_decide_eq_false b2)
    refine zo (za (zd (zW (fun k => !(Nat.beq k 4 || Nat.beq k 9 || Nat.beq k 10)) (LD [3,8] (fun w'=>Bl w' b1 302 [.int .i64 pos,vE1])) jx (by kernel_rfl) (fun k w' h _=>(ki h hB2)) (zA rfl rfl (fun w' hw'=>zh qD rfl) (zA rfl rfl (fun w' hw'=>zh qD rfl) (zA rfl rfl (fun w' hw'=>zh qD rfl) (zA rfl rfl (fun w' hw'=>zz qD (hw' rfl) rfl rfl rfl) (z7 rfl (jF) rfl rfl (W_smithysee_sentinel (hG.grown gr1) hS0 hS1 hS2 hS3 hS4 hS5 hS6 hS7 hS8 hS9 hS10 hS11 hS12 hS13 hS14 hS15 hS16 hE1 H) (fun v w' h w2 e=>DD.keep (Bl.g0 hB2 (jo h.1 e))) ?_))))))))
    rintro _ w4 ⟨hg4,t29,rfl,H⟩
    have k3:=hE1.grown hg4
    have k4:=hB2.g0 hg4
    refine zA rfl rfl (fun w' hw'=>zh qD rfl) (zA rfl rfl (fun w' hw'=>zh qD rfl) (zA rfl rfl (fun w' hw'=>zh qD rfl) (zA rfl rfl (fun w' hw'=>zz qD (hw' rfl) rfl rfl rfl) (z7 rfl (jF) rfl rfl (W_smithyref_Placed H) (fun v w' h w2 e=>DD.keep (Bl.g0 k4 (jo h.1 e))) ?_))))
    rintro _ w5 ⟨hg5,b7,a3,c3,a7,b8,rfl,H⟩
    have k6:=k4.g0 hg5
    refine qw rfl (Ef0.storeW (vs:=[.int .i64 b7,.bool a3,.int .i64 c3,.bool a7,vs b8]) qD rfl rfl rfl (qJ rfl (qJ rfl (qJ rfl (qJ rfl (qJ rfl jl))))) ((hB1.g0 hg4).g0 hg5) rfl rfl) (fun w' h=>qm (by kernel_rfl)) ?_
    rintro w6 ⟨hB4,hg6⟩
    exact qh (za (zt (qi qD rfl rfl rfl hB4 rfl ⟨(js (qG (qG gr1 hg4) hg5) hg6 (Ge.le (Ge.box hl1) (Nat.le_refl _))),b7,a3,c3,a7,b8,rfl,H⟩)))
  ·clear H
   exact zc rfl rfl (rfl) rfl (zh qD rfl) (zc rfl rfl (rfl) rfl (zh qD rfl) (zc rfl rfl (rfl) rfl (zh qD rfl) (zc rfl rfl (rfl) rfl (zz qD hB2 rfl rfl rfl) (zc rfl rfl (rfl) rfl (qe Tryz.underlying43 hE1 rfl) (zg rfl (zK (rfl) rfl) (wk (hQ _ _ ⟨decide ((Er.e n)=Er.ok),rfl,rfl,rfl⟩)))))))
 ·replace H:=H.2 he1
  refine zg rfl (Yld.assertNo Tryz.underlying298 (fun _=>by kernel_rfl) (he.grown gr1) rfl rfl (.inr he1)) (yp (h:=(yp (h:=(yp (h:=(yp (h:=(yp (h:=(ze (za (zd (zd (zb (yp (h:=(yp (h:=(ze (za (zm rfl (fun _=>zd (zb (yp (h:=(zx rfl rfl (W_smithysee_sentinel (hG.grown gr1) hS0 hS1 hS2 hS3 hS4 hS5 hS6 hS7 hS8 hS9 hS10 hS11 hS12 hS13 hS14 hS15 hS16 (he.grown gr1) H) ?_))))) (fun h=>by cases h)))))))))))))))))))))))
  rintro _ w7 ⟨hg7,t13,rfl,H⟩
  refine zx rfl rfl (W_smithyref_Bare H) ?_
  rintro _ w8 ⟨hg8,a9,a0,c0,a4,b0,rfl,H⟩
  exact zZ (vs:=[.int .i64 a9,.bool a0,.int .i64 c0,.bool a4,vs b0]) qD rfl rfl rfl (qJ rfl (qJ rfl (qJ rfl (qJ rfl (qJ rfl jl))))) ((hB1.g0 hg7).g0 hg8) rfl rfl (fun w9 hB5 hg9=>ze (za (zt (zf (qi qD rfl rfl rfl hB5 rfl ⟨(js (qG (qG gr1 hg7) hg8) hg9 (Ge.le (Ge.box hl1) (Nat.le_refl _))),a9,a0,c0,a4,b0,rfl,H⟩)))))
set_option maxHeartbeats 8000000 in
theorem W_smithysee_Fault {S:List Nat} {w:World} {v_e:Value} {e:Er} {K:Int->Bool->Int->Bool->(List UInt8)->Prop} (hG:GOK S w) (hS0:0∈S) (hS1:1∈S) (hS2:2∈S) (hS3:3∈S) (hS4:4∈S) (hS5:5∈S) (hS6:6∈S) (hS7:7∈S) (hS8:8∈S) (hS9:9∈S) (hS10:10∈S) (hS11:11∈S) (hS12:12∈S) (hS13:13∈S) (hS14:14∈S) (hS15:15∈S) (hS16:16∈S) (he:ErrR S w v_e e) (H:kn e K):Fn Tryz.prog 134 ⟨[v_e]⟩ w (fun v w'=>w.grownBy w' none/\∃ (r_Code:Int),∃ (r_Placed:Bool),∃ (r_Pos:Int),∃ (r_Filed:Bool),∃ (r_File:List UInt8),v=.agg ⟨[.int .i64 r_Code,.bool r_Placed,.int .i64 r_Pos,.bool r_Filed,vs r_File]⟩/\K r_Code r_Placed r_Pos r_Filed r_File):=by
 unfold kn at H
 refine Fn.enter (by kernel_rfl) Tryz.func134 rfl Tryz.ntmps134 rfl ?_
 refine zd (zb (WL.alloc rfl zero142 (fun g1 w1 hB1 hg1 hl1=>?_)))
 have gr1:=hg1
 refine ze (za (zd (zd (zb (yp (h:=(zg rfl (qe Tryz.underlying43 (he.grown gr1) rfl) (ze (za (zm rfl (fun b1=>?_) (fun b1=>?_)))))))))))
 ·replace H:=H.1 (of_decide_eq_true b1)
  refine zd (zb (zx rfl rfl (W_smithyref_None H) ?_))
  rintro _ w2 ⟨hg2,c4,a8,c8,b9,c5,rfl,H⟩
  exact zZ (vs:=[.int .i64 c4,.bool a8,.int .i64 c8,.bool b9,vs c5]) qD rfl rfl rfl (qJ rfl (qJ rfl (qJ rfl (qJ rfl (qJ rfl jl))))) (hB1.g0 hg2) rfl rfl (fun w3 hB2 hg3=>ze (za (zt (zf (qi qD rfl rfl rfl hB2 rfl ⟨(js (qG gr1 hg2) hg3 (Ge.le (Ge.box hl1) (Nat.le_refl _))),c4,a8,c8,b9,c5,rfl,H⟩)))))
 ·replace H:=H.2 (of_decide_eq_false b1)
  refine zo (za (zd (zb (yp (h:=(zg rfl (Yld.assertNo Tryz.underlying275 (fun _=>by kernel_rfl) (he.grown gr1) rfl rfl (.inl rfl)) (yp (h:=(yp (h:=(yp (h:=(yp (h:=(yp (h:=(ze (za (zd (zd (zb (yp (h:=(yp (h:=(ze (za (zm rfl (fun _=>zd (zb (yp (h:=(zx rfl rfl (W_smithysee_placed (hG.grown gr1) hS0 hS1 hS2 hS3 hS4 hS5 hS6 hS7 hS8 hS9 hS10 hS11 hS12 hS13 hS14 hS15 hS16 (he.grown gr1) H) ?_))))) (fun h=>by cases h)))))))))))))))))))))))))))))
  rintro _ w4 ⟨hg4,b3,a1,c1,a5,b4,rfl,H⟩
  exact zZ (vs:=[.int .i64 b3,.bool a1,.int .i64 c1,.bool a5,vs b4]) qD rfl rfl rfl (qJ rfl (qJ rfl (qJ rfl (qJ rfl (qJ rfl jl))))) (hB1.g0 hg4) rfl rfl (fun w5 hB3 hg5=>ze (za (zt (zf (qi qD rfl rfl rfl hB3 rfl ⟨(js (qG gr1 hg4) hg5 (Ge.le (Ge.box hl1) (Nat.le_refl _))),b3,a1,c1,a5,b4,rfl,H⟩)))))
set_option maxHeartbeats 8000000 in
theorem W_smithysee_Same {S:List Nat} {w:World} {v_e:Value} {e:Er} {f_Code:Int} {f_Placed:Bool} {f_Pos:Int} {f_Filed:Bool} {f_File:List UInt8} {K:Bool->Prop} (hG:GOK S w) (hS0:0∈S) (hS1:1∈S) (hS2:2∈S) (hS3:3∈S) (hS4:4∈S) (hS5:5∈S) (hS6:6∈S) (hS7:7∈S) (hS8:8∈S) (hS9:9∈S) (hS10:10∈S) (hS11:11∈S) (hS12:12∈S) (hS13:13∈S) (hS14:14∈S) (hS15:15∈S) (hS16:16∈S) (he:ErrR S w v_e e) (H:kq e f_Code f_Placed f_Pos f_Filed f_File K):Fn Tryz.prog 78 ⟨[v_e,.agg ⟨[.int .i64 f_Code,.bool f_Placed,.int .i64 f_Pos,.bool f_Filed,vs f_File]⟩]⟩ w (fun v w'=>w.grownBy w' none/\∃ (r:Bool),v=.bool r/\K r):=by
 unfold kq at H
 refine Fn.enter (by kernel_rfl) Tryz.func78 rfl Tryz.ntmps78 rfl ?_
 refine zd (zb (qn (us:=[.int .i64 f_Code,.bool f_Placed,.int .i64 f_Pos,.bool f_Filed,vs f_File]) rfl rfl rfl (fun g1 w1 hB1 hg1 hl1=>?_)))
 have gr1:=hg1
 refine yp (h:=(ze (za (zd (zW (fun k => !(Nat.beq k 1 || Nat.beq k 3)) (LD [2] (fun w'=>Bl w' g1 142 [.int .i64 f_Code,.bool f_Placed,.int .i64 f_Pos,.bool f_Filed,vs f_File])) jx (by kernel_rfl) (fun k w' h _=>(ki h hB1)) (zA rfl rfl (fun w' hw'=>zh qD rfl) (z7 rfl (jF) rfl rfl (W_smithysee_Fault (hG.grown gr1) hS0 hS1 hS2 hS3 hS4 hS5 hS6 hS7 hS8 hS9 hS10 hS11 hS12 hS13 hS14 hS15 hS16 (he.grown gr1) H) (fun v w' h w2 e=>DD.keep (Bl.g0 hB1 (jo h.1 e))) ?_)))))))
 rintro _ w2 ⟨hg2,d1,c6,d5,c9,d2,rfl,H⟩
 have k1:=hB1.g0 hg2
 refine zA rfl rfl (fun w' hw'=>qt (vs:=[.int .i64 f_Code,.bool f_Placed,.int .i64 f_Pos,.bool f_Filed,vs f_File]) qD (hw' rfl) rfl rfl rfl rfl) (z7 rfl (jF) rfl rfl (W_smithyref_SameFault H) (fun v w' h w2 e=>DD.keep (Bl.g0 k1 (jo h.1 e))) ?_)
 rintro _ w3 ⟨hg3,t4,rfl,H⟩
 have k2:=k1.g0 hg3
 exact zA rfl rfl (fun w' hw'=>zh qD rfl) (qh (za (zt (zD rfl rfl ⟨(qG (qG gr1 hg2) hg3),t4,rfl,H⟩))))
set_option maxHeartbeats 8000000 in
theorem ji {S:List Nat} {w:World} {v_e:Value} {e:Er} {code:Int} {K:Bool->Prop} (hG:GOK S w) (hS0:0∈S) (hS1:1∈S) (hS2:2∈S) (hS3:3∈S) (hS4:4∈S) (hS5:5∈S) (hS6:6∈S) (hS7:7∈S) (hS8:8∈S) (hS9:9∈S) (hS10:10∈S) (hS11:11∈S) (hS12:12∈S) (hS13:13∈S) (hS14:14∈S) (hS15:15∈S) (hS16:16∈S) (he:ErrR S w v_e e) (H:qZ e code K):Fn Tryz.prog 15 ⟨[v_e,.int .i64 code]⟩ w (fun v w'=>w.grownBy w' none/\∃ (r:Bool),v=.bool r/\K r):=by
 unfold qZ at H
 refine Fn.enter (by kernel_rfl) Tryz.func15 rfl Tryz.ntmps15 rfl ?_
 refine zd (zb (yp (h:=(ze (za (zd (zb (yp (h:=(yp (h:=(zx rfl rfl (W_smithyref_Bare H) ?_))))))))))))
 rintro _ w1 ⟨hg1,d3,c7,d6,d0,d4,rfl,H⟩
 have gr1:=hg1
 refine zx rfl rfl (W_smithysee_Same (hG.grown gr1) hS0 hS1 hS2 hS3 hS4 hS5 hS6 hS7 hS8 hS9 hS10 hS11 hS12 hS13 hS14 hS15 hS16 (he.grown gr1) H) ?_
 rintro _ w2 ⟨hg2,t4,rfl,H⟩
 exact yp (h:=(ze (za (zt (zD rfl rfl ⟨(qG gr1 hg2),t4,rfl,H⟩)))))
end
 
section
open Go Go.RowKit
attribute [local irreducible] WL WC WX WQ WK WJ Yld Eff Ef0 Fn
def qL (n:Int) (K:PV->Prop):Prop:=(-9223372036854775808<=n/\n<=9223372036854775807)/\K (.int n)
def M_val_Tuple (l:List PV) (K:PV->Prop):Prop:=l.length<=1000000/\∃ zs:List PA,l=zs.map PA.v/\K (.tup zs)
theorem clone_MV {l:List PV} {K:List PV->Prop} (hl:l.length<=1000000) (h:K l):qS l K:=by
 unfold qS
 intro _
 exact ⟨fun e=>e ▸ h,by simp; omega,by simpa using h⟩
theorem qM {w:World} {n:Int} {K:PV->Prop} (H:qL n K):Fn Tryz.prog 33 ⟨[.int .i64 n]⟩ w (fun v w'=>w.grownBy w' none/\∃ (v_r:OV),∃ (F_r:Nat->Prop),∃ (r:PV),v=v_r.1/\RelD deV w' [(v_r,F_r)] [r]/\(∀ p:Option Nat,Lt p w.heap.size->DnD deV [(v_r,F_r)] [r] p)/\K r):=by
 obtain ⟨⟨h1,h2⟩,hK⟩:=H
 refine Fn.enter (by kernel_rfl) Tryz.func33 rfl Tryz.ntmps33 rfl ?_
 repeat (first | refine zd ?_ | refine WC.block ?_ | refine zb ?_ | refine ze ?_ | refine za ?_ | refine zo ?_ | refine zy ?_ | refine zt ?_ | refine zk ?_ | refine zf ?_ | refine zi ?_ | refine zj ?_ | refine zl ?_ | refine zq rfl ?_ | refine zI ?_ | refine zJ ?_ | refine zn ?_ | refine zu ?_ | refine zr ?_ | refine zg rfl (Yld.add rfl rfl (by simp only [In]; omega)) ?_ | refine zg rfl (Yld.sub rfl rfl (by simp only [In]; omega)) ?_ | refine zg rfl (zN rfl rfl (by simp only [In]; omega)) ?_ | refine zg rfl (zv qD rfl rfl rfl rfl) ?_ | refine zg rfl (zw qD rfl rfl rfl (by simp only [In]; omega)) ?_ | refine zg rfl (zE rfl rfl (by omega) (by omega) (by simp only [In]; omega)) ?_ | refine zg rfl (zF rfl rfl (by omega) (by omega)) ?_ | refine zg rfl (zP rfl rfl (by omega)) ?_ | refine zg rfl (zL rfl rfl (by omega)) ?_ | refine zg rfl (zh qD rfl) ?_ | refine zg rfl (zO qI rfl rfl rfl) ?_ | refine zg rfl (zH rfl rfl) ?_ | refine zg rfl (zC rfl rfl) ?_ | refine zg rfl (zp rfl rfl rfl) ?_ | refine zG rfl rfl rfl rfl ?_ | refine zc rfl rfl rfl rfl (Yld.add rfl rfl (by simp only [In]; omega)) ?_ | refine zc rfl rfl rfl rfl (Yld.sub rfl rfl (by simp only [In]; omega)) ?_ | refine zc rfl rfl rfl rfl (zN rfl rfl (by simp only [In]; omega)) ?_ | refine zc rfl rfl rfl rfl (zv qD rfl rfl rfl rfl) ?_ | refine zc rfl rfl rfl rfl (zw qD rfl rfl rfl (by simp only [In]; omega)) ?_ | refine zc rfl rfl rfl rfl (zE rfl rfl (by omega) (by omega) (by simp only [In]; omega)) ?_ | refine zc rfl rfl rfl rfl (zF rfl rfl (by omega) (by omega)) ?_ | refine zc rfl rfl rfl rfl (zP rfl rfl (by omega)) ?_ | refine zc rfl rfl rfl rfl (zL rfl rfl (by omega)) ?_ | refine zc rfl rfl rfl rfl (zh qD rfl) ?_ | refine zc rfl rfl rfl rfl (zO qI rfl rfl rfl) ?_ | refine zc rfl rfl rfl rfl (zH rfl rfl) ?_ | refine zc rfl rfl rfl rfl (zC rfl rfl) ?_ | refine zc rfl rfl rfl rfl (zp rfl rfl rfl) ?_)
 refine zx rfl rfl (of_fn' n w h1 h2) ?_
 rintro u w1 ⟨hN,hg,hL⟩
 obtain ⟨a,b,rfl,ha,hb⟩:=hN.agg
 have hint:Fn Tryz.prog 69 ⟨[.agg ⟨[a,b]⟩]⟩ w1 fun v w'=>v=.iface 208 (.agg ⟨[a,b]⟩)/\w1.grownBy w' none:=by
  refine Fn.enter (by kernel_rfl) Tryz.func69 rfl Tryz.ntmps69 rfl ?_
  repeat (first | refine zd ?_ | refine WC.block ?_ | refine zb ?_ | refine ze ?_ | refine za ?_ | refine zo ?_ | refine zy ?_ | refine zt ?_ | refine zk ?_ | refine zf ?_ | refine zi ?_ | refine zj ?_ | refine zl ?_ | refine zq rfl ?_ | refine zI ?_ | refine zJ ?_ | refine zn ?_ | refine zu ?_ | refine zr ?_ | refine zg rfl (Yld.add rfl rfl (by simp only [In]; omega)) ?_ | refine zg rfl (Yld.sub rfl rfl (by simp only [In]; omega)) ?_ | refine zg rfl (zN rfl rfl (by simp only [In]; omega)) ?_ | refine zg rfl (zv qD rfl rfl rfl rfl) ?_ | refine zg rfl (zw qD rfl rfl rfl (by simp only [In]; omega)) ?_ | refine zg rfl (zE rfl rfl (by omega) (by omega) (by simp only [In]; omega)) ?_ | refine zg rfl (zF rfl rfl (by omega) (by omega)) ?_ | refine zg rfl (zP rfl rfl (by omega)) ?_ | refine zg rfl (zL rfl rfl (by omega)) ?_ | refine zg rfl (zh qD rfl) ?_ | refine zg rfl (zO qI rfl rfl rfl) ?_ | refine zg rfl (zH rfl rfl) ?_ | refine zg rfl (zC rfl rfl) ?_ | refine zg rfl (zp rfl rfl rfl) ?_ | refine zG rfl rfl rfl rfl ?_ | refine zc rfl rfl rfl rfl (Yld.add rfl rfl (by simp only [In]; omega)) ?_ | refine zc rfl rfl rfl rfl (Yld.sub rfl rfl (by simp only [In]; omega)) ?_ | refine zc rfl rfl rfl rfl (zN rfl rfl (by simp only [In]; omega)) ?_ | refine zc rfl rfl rfl rfl (zv qD rfl rfl rfl rfl) ?_ | refine zc rfl rfl rfl rfl (zw qD rfl rfl rfl (by simp only [In]; omega)) ?_ | refine zc rfl rfl rfl rfl (zE rfl rfl (by omega) (by omega) (by simp only [In]; omega)) ?_ | refine zc rfl rfl rfl rfl (zF rfl rfl (by omega) (by omega)) ?_ | refine zc rfl rfl rfl rfl (zP rfl rfl (by omega)) ?_ | refine zc rfl rfl rfl rfl (zL rfl rfl (by omega)) ?_ | refine zc rfl rfl rfl rfl (zh qD rfl) ?_ | refine zc rfl rfl rfl rfl (zO qI rfl rfl rfl) ?_ | refine zc rfl rfl rfl rfl (zH rfl rfl) ?_ | refine zc rfl rfl rfl rfl (zC rfl rfl) ?_ | refine zc rfl rfl rfl rfl (zp rfl rfl rfl) ?_)
  refine qn (us:=[a,b]) rfl rfl rfl (fun g w2 hB hg hl=>?_)
  repeat (first | refine zd ?_ | refine WC.block ?_ | refine zb ?_ | refine ze ?_ | refine za ?_ | refine zo ?_ | refine zy ?_ | refine zt ?_ | refine zk ?_ | refine zf ?_ | refine zi ?_ | refine zj ?_ | refine zl ?_ | refine zq rfl ?_ | refine zI ?_ | refine zJ ?_ | refine zn ?_ | refine zu ?_ | refine zr ?_ | refine zg rfl (Yld.add rfl rfl (by simp only [In]; omega)) ?_ | refine zg rfl (Yld.sub rfl rfl (by simp only [In]; omega)) ?_ | refine zg rfl (zN rfl rfl (by simp only [In]; omega)) ?_ | refine zg rfl (zv qD rfl rfl rfl rfl) ?_ | refine zg rfl (zw qD rfl rfl rfl (by simp only [In]; omega)) ?_ | refine zg rfl (zE rfl rfl (by omega) (by omega) (by simp only [In]; omega)) ?_ | refine zg rfl (zF rfl rfl (by omega) (by omega)) ?_ | refine zg rfl (zP rfl rfl (by omega)) ?_ | refine zg rfl (zL rfl rfl (by omega)) ?_ | refine zg rfl (zh qD rfl) ?_ | refine zg rfl (zO qI rfl rfl rfl) ?_ | refine zg rfl (zH rfl rfl) ?_ | refine zg rfl (zC rfl rfl) ?_ | refine zg rfl (zp rfl rfl rfl) ?_ | refine zG rfl rfl rfl rfl ?_ | refine zc rfl rfl rfl rfl (Yld.add rfl rfl (by simp only [In]; omega)) ?_ | refine zc rfl rfl rfl rfl (Yld.sub rfl rfl (by simp only [In]; omega)) ?_ | refine zc rfl rfl rfl rfl (zN rfl rfl (by simp only [In]; omega)) ?_ | refine zc rfl rfl rfl rfl (zv qD rfl rfl rfl rfl) ?_ | refine zc rfl rfl rfl rfl (zw qD rfl rfl rfl (by simp only [In]; omega)) ?_ | refine zc rfl rfl rfl rfl (zE rfl rfl (by omega) (by omega) (by simp only [In]; omega)) ?_ | refine zc rfl rfl rfl rfl (zF rfl rfl (by omega) (by omega)) ?_ | refine zc rfl rfl rfl rfl (zP rfl rfl (by omega)) ?_ | refine zc rfl rfl rfl rfl (zL rfl rfl (by omega)) ?_ | refine zc rfl rfl rfl rfl (zh qD rfl) ?_ | refine zc rfl rfl rfl rfl (zO qI rfl rfl rfl) ?_ | refine zc rfl rfl rfl rfl (zH rfl rfl) ?_ | refine zc rfl rfl rfl rfl (zC rfl rfl) ?_ | refine zc rfl rfl rfl rfl (zp rfl rfl rfl) ?_)
  refine zg rfl (qt (vs:=[a,b]) qD hB rfl rfl rfl rfl) ?_
  refine zg rfl (z6 (us:=[a,b]) (vs:=[(1,.agg ⟨[a,b]⟩)]) zero208 places208 rfl rfl) ?_
  refine zg rfl (qj Tryz.underlying208 rfl rfl) ?_
  repeat (first | refine zd ?_ | refine WC.block ?_ | refine zb ?_ | refine ze ?_ | refine za ?_ | refine zo ?_ | refine zy ?_ | refine zt ?_ | refine zk ?_ | refine zf ?_ | refine zi ?_ | refine zj ?_ | refine zl ?_ | refine zq rfl ?_ | refine zI ?_ | refine zJ ?_ | refine zn ?_ | refine zu ?_ | refine zr ?_ | refine zg rfl (Yld.add rfl rfl (by simp only [In]; omega)) ?_ | refine zg rfl (Yld.sub rfl rfl (by simp only [In]; omega)) ?_ | refine zg rfl (zN rfl rfl (by simp only [In]; omega)) ?_ | refine zg rfl (zv qD rfl rfl rfl rfl) ?_ | refine zg rfl (zw qD rfl rfl rfl (by simp only [In]; omega)) ?_ | refine zg rfl (zE rfl rfl (by omega) (by omega) (by simp only [In]; omega)) ?_ | refine zg rfl (zF rfl rfl (by omega) (by omega)) ?_ | refine zg rfl (zP rfl rfl (by omega)) ?_ | refine zg rfl (zL rfl rfl (by omega)) ?_ | refine zg rfl (zh qD rfl) ?_ | refine zg rfl (zO qI rfl rfl rfl) ?_ | refine zg rfl (zH rfl rfl) ?_ | refine zg rfl (zC rfl rfl) ?_ | refine zg rfl (zp rfl rfl rfl) ?_ | refine zG rfl rfl rfl rfl ?_ | refine zc rfl rfl rfl rfl (Yld.add rfl rfl (by simp only [In]; omega)) ?_ | refine zc rfl rfl rfl rfl (Yld.sub rfl rfl (by simp only [In]; omega)) ?_ | refine zc rfl rfl rfl rfl (zN rfl rfl (by simp only [In]; omega)) ?_ | refine zc rfl rfl rfl rfl (zv qD rfl rfl rfl rfl) ?_ | refine zc rfl rfl rfl rfl (zw qD rfl rfl rfl (by simp only [In]; omega)) ?_ | refine zc rfl rfl rfl rfl (zE rfl rfl (by omega) (by omega) (by simp only [In]; omega)) ?_ | refine zc rfl rfl rfl rfl (zF rfl rfl (by omega) (by omega)) ?_ | refine zc rfl rfl rfl rfl (zP rfl rfl (by omega)) ?_ | refine zc rfl rfl rfl rfl (zL rfl rfl (by omega)) ?_ | refine zc rfl rfl rfl rfl (zh qD rfl) ?_ | refine zc rfl rfl rfl rfl (zO qI rfl rfl rfl) ?_ | refine zc rfl rfl rfl rfl (zH rfl rfl) ?_ | refine zc rfl rfl rfl rfl (zC rfl rfl) ?_ | refine zc rfl rfl rfl rfl (zp rfl rfl rfl) ?_)
  exact zD rfl rfl ⟨rfl,hg⟩
 refine zx rfl rfl hint ?_
 rintro v w2 ⟨rfl,hg2⟩
 repeat (first | refine zd ?_ | refine WC.block ?_ | refine zb ?_ | refine ze ?_ | refine za ?_ | refine zo ?_ | refine zy ?_ | refine zt ?_ | refine zk ?_ | refine zf ?_ | refine zi ?_ | refine zj ?_ | refine zl ?_ | refine zq rfl ?_ | refine zI ?_ | refine zJ ?_ | refine zn ?_ | refine zu ?_ | refine zr ?_ | refine zg rfl (Yld.add rfl rfl (by simp only [In]; omega)) ?_ | refine zg rfl (Yld.sub rfl rfl (by simp only [In]; omega)) ?_ | refine zg rfl (zN rfl rfl (by simp only [In]; omega)) ?_ | refine zg rfl (zv qD rfl rfl rfl rfl) ?_ | refine zg rfl (zw qD rfl rfl rfl (by simp only [In]; omega)) ?_ | refine zg rfl (zE rfl rfl (by omega) (by omega) (by simp only [In]; omega)) ?_ | refine zg rfl (zF rfl rfl (by omega) (by omega)) ?_ | refine zg rfl (zP rfl rfl (by omega)) ?_ | refine zg rfl (zL rfl rfl (by omega)) ?_ | refine zg rfl (zh qD rfl) ?_ | refine zg rfl (zO qI rfl rfl rfl) ?_ | refine zg rfl (zH rfl rfl) ?_ | refine zg rfl (zC rfl rfl) ?_ | refine zg rfl (zp rfl rfl rfl) ?_ | refine zG rfl rfl rfl rfl ?_ | refine zc rfl rfl rfl rfl (Yld.add rfl rfl (by simp only [In]; omega)) ?_ | refine zc rfl rfl rfl rfl (Yld.sub rfl rfl (by simp only [In]; omega)) ?_ | refine zc rfl rfl rfl rfl (zN rfl rfl (by simp only [In]; omega)) ?_ | refine zc rfl rfl rfl rfl (zv qD rfl rfl rfl rfl) ?_ | refine zc rfl rfl rfl rfl (zw qD rfl rfl rfl (by simp only [In]; omega)) ?_ | refine zc rfl rfl rfl rfl (zE rfl rfl (by omega) (by omega) (by simp only [In]; omega)) ?_ | refine zc rfl rfl rfl rfl (zF rfl rfl (by omega) (by omega)) ?_ | refine zc rfl rfl rfl rfl (zP rfl rfl (by omega)) ?_ | refine zc rfl rfl rfl rfl (zL rfl rfl (by omega)) ?_ | refine zc rfl rfl rfl rfl (zh qD rfl) ?_ | refine zc rfl rfl rfl rfl (zO qI rfl rfl rfl) ?_ | refine zc rfl rfl rfl rfl (zH rfl rfl) ?_ | refine zc rfl rfl rfl rfl (zC rfl rfl) ?_ | refine zc rfl rfl rfl rfl (zp rfl rfl rfl) ?_)
 have hN2:=hN.grown hg2
 refine zD rfl rfl ⟨qG hg hg2,⟨.iface 208 (.agg ⟨[a,b]⟩),rfl⟩,fun q=>w.heap.size<=q/\q<w2.heap.size,.int n,rfl,RelD.cons ⟨⟨a,b,rfl,hN2,?_⟩,fun q hq=>hq.2⟩ RelD.nil,fun p hp=>DnD.cons (fun q e hq=>?_) DnD.nil,hK⟩
 ·intro neg A m c e q hq
  have:=hL neg A m c e q hq
  have:=hg2.size
  omega
 ·have:=hp q e
  omega
theorem AR.ofV {w:World} {F:Nat->Prop} {v:Value} {p:PA} (h:VR w F v p.v):AR w F v p:=by cases p <;> exact h
def kr (s:List UInt8) (K:PV->Prop):Prop:=K (.str s)
theorem W_val_Str {w:World} {s:List UInt8} {K:PV->Prop} (H:kr s K):Fn Tryz.prog 36 ⟨[vs s]⟩ w (fun v w'=>w.grownBy w' none/\∃ (v_r:OV),∃ (F_r:Nat->Prop),∃ (r:PV),v=v_r.1/\RelD deV w' [(v_r,F_r)] [r]/\(∀ p:Option Nat,Lt p w.heap.size->DnD deV [(v_r,F_r)] [r] p)/\K r):=by
 refine Fn.enter (by kernel_rfl) Tryz.func36 rfl Tryz.ntmps36 rfl ?_
 repeat (first | refine zd ?_ | refine WC.block ?_ | refine zb ?_ | refine ze ?_ | refine za ?_ | refine zo ?_ | refine zy ?_ | refine zt ?_ | refine zk ?_ | refine zf ?_ | refine zi ?_ | refine zj ?_ | refine zl ?_ | refine zq rfl ?_ | refine zI ?_ | refine zJ ?_ | refine zn ?_ | refine zu ?_ | refine zr ?_ | refine zg rfl (Yld.add rfl rfl (by simp only [In]; omega)) ?_ | refine zg rfl (Yld.sub rfl rfl (by simp only [In]; omega)) ?_ | refine zg rfl (zN rfl rfl (by simp only [In]; omega)) ?_ | refine zg rfl (zv qD rfl rfl rfl rfl) ?_ | refine zg rfl (zw qD rfl rfl rfl (by simp only [In]; omega)) ?_ | refine zg rfl (zE rfl rfl (by omega) (by omega) (by simp only [In]; omega)) ?_ | refine zg rfl (zF rfl rfl (by omega) (by omega)) ?_ | refine zg rfl (zP rfl rfl (by omega)) ?_ | refine zg rfl (zL rfl rfl (by omega)) ?_ | refine zg rfl (zh qD rfl) ?_ | refine zg rfl (zO qI rfl rfl rfl) ?_ | refine zg rfl (zH rfl rfl) ?_ | refine zg rfl (zC rfl rfl) ?_ | refine zg rfl (zp rfl rfl rfl) ?_ | refine zG rfl rfl rfl rfl ?_ | refine zc rfl rfl rfl rfl (Yld.add rfl rfl (by simp only [In]; omega)) ?_ | refine zc rfl rfl rfl rfl (Yld.sub rfl rfl (by simp only [In]; omega)) ?_ | refine zc rfl rfl rfl rfl (zN rfl rfl (by simp only [In]; omega)) ?_ | refine zc rfl rfl rfl rfl (zv qD rfl rfl rfl rfl) ?_ | refine zc rfl rfl rfl rfl (zw qD rfl rfl rfl (by simp only [In]; omega)) ?_ | refine zc rfl rfl rfl rfl (zE rfl rfl (by omega) (by omega) (by simp only [In]; omega)) ?_ | refine zc rfl rfl rfl rfl (zF rfl rfl (by omega) (by omega)) ?_ | refine zc rfl rfl rfl rfl (zP rfl rfl (by omega)) ?_ | refine zc rfl rfl rfl rfl (zL rfl rfl (by omega)) ?_ | refine zc rfl rfl rfl rfl (zh qD rfl) ?_ | refine zc rfl rfl rfl rfl (zO qI rfl rfl rfl) ?_ | refine zc rfl rfl rfl rfl (zH rfl rfl) ?_ | refine zc rfl rfl rfl rfl (zC rfl rfl) ?_ | refine zc rfl rfl rfl rfl (zp rfl rfl rfl) ?_)
 refine zg rfl (qj Tryz.underlying169 rfl rfl) ?_
 repeat (first | refine zd ?_ | refine WC.block ?_ | refine zb ?_ | refine ze ?_ | refine za ?_ | refine zo ?_ | refine zy ?_ | refine zt ?_ | refine zk ?_ | refine zf ?_ | refine zi ?_ | refine zj ?_ | refine zl ?_ | refine zq rfl ?_ | refine zI ?_ | refine zJ ?_ | refine zn ?_ | refine zu ?_ | refine zr ?_ | refine zg rfl (Yld.add rfl rfl (by simp only [In]; omega)) ?_ | refine zg rfl (Yld.sub rfl rfl (by simp only [In]; omega)) ?_ | refine zg rfl (zN rfl rfl (by simp only [In]; omega)) ?_ | refine zg rfl (zv qD rfl rfl rfl rfl) ?_ | refine zg rfl (zw qD rfl rfl rfl (by simp only [In]; omega)) ?_ | refine zg rfl (zE rfl rfl (by omega) (by omega) (by simp only [In]; omega)) ?_ | refine zg rfl (zF rfl rfl (by omega) (by omega)) ?_ | refine zg rfl (zP rfl rfl (by omega)) ?_ | refine zg rfl (zL rfl rfl (by omega)) ?_ | refine zg rfl (zh qD rfl) ?_ | refine zg rfl (zO qI rfl rfl rfl) ?_ | refine zg rfl (zH rfl rfl) ?_ | refine zg rfl (zC rfl rfl) ?_ | refine zg rfl (zp rfl rfl rfl) ?_ | refine zG rfl rfl rfl rfl ?_ | refine zc rfl rfl rfl rfl (Yld.add rfl rfl (by simp only [In]; omega)) ?_ | refine zc rfl rfl rfl rfl (Yld.sub rfl rfl (by simp only [In]; omega)) ?_ | refine zc rfl rfl rfl rfl (zN rfl rfl (by simp only [In]; omega)) ?_ | refine zc rfl rfl rfl rfl (zv qD rfl rfl rfl rfl) ?_ | refine zc rfl rfl rfl rfl (zw qD rfl rfl rfl (by simp only [In]; omega)) ?_ | refine zc rfl rfl rfl rfl (zE rfl rfl (by omega) (by omega) (by simp only [In]; omega)) ?_ | refine zc rfl rfl rfl rfl (zF rfl rfl (by omega) (by omega)) ?_ | refine zc rfl rfl rfl rfl (zP rfl rfl (by omega)) ?_ | refine zc rfl rfl rfl rfl (zL rfl rfl (by omega)) ?_ | refine zc rfl rfl rfl rfl (zh qD rfl) ?_ | refine zc rfl rfl rfl rfl (zO qI rfl rfl rfl) ?_ | refine zc rfl rfl rfl rfl (zH rfl rfl) ?_ | refine zc rfl rfl rfl rfl (zC rfl rfl) ?_ | refine zc rfl rfl rfl rfl (zp rfl rfl rfl) ?_)
 exact zD rfl rfl ⟨jH _ _,⟨.iface 169 (vs s),rfl⟩,noF,.str s,rfl,RelD.cons ⟨rfl,fun _ h=>h.elim⟩ RelD.nil,fun p _=>DnD.cons (fun _ _ h=>h) DnD.nil,H⟩
theorem W_val_Tuple {w:World} {l:List PV} {A_l:Option Addr} {c_l:Nat} {hs_l:List VH} {n_l:Nat} {K:PV->Prop} (hl:Rd vv w A_l c_l hs_l) (hn_l:n_l=l.length) (hr_l:RelD deV w hs_l l) (H:M_val_Tuple l K):Fn Tryz.prog 19 ⟨[.slice A_l n_l c_l]⟩ w
  (fun v w'=>w.grownBy w' none/\∃ (v_r:OV),∃ (F_r:Nat->Prop),∃ (r:PV),v=v_r.1/\RelD deV w' [(v_r,F_r)] [r]/\(∀ p:Option Nat,Lt p w.heap.size->DnD deV hs_l l p->DnD deV [(v_r,F_r)] [r] p)/\K r):=by
 obtain ⟨hlen,zs,rfl,hK⟩:=H
 refine Fn.enter (by kernel_rfl) Tryz.func19 rfl Tryz.ntmps19 rfl ?_
 repeat (first | refine zd ?_ | refine WC.block ?_ | refine zb ?_ | refine ze ?_ | refine za ?_ | refine zo ?_ | refine zy ?_ | refine zt ?_ | refine zk ?_ | refine zf ?_ | refine zi ?_ | refine zj ?_ | refine zl ?_ | refine zq rfl ?_ | refine zI ?_ | refine zJ ?_ | refine zn ?_ | refine zu ?_ | refine zr ?_ | refine zg rfl (Yld.add rfl rfl (by simp only [In]; omega)) ?_ | refine zg rfl (Yld.sub rfl rfl (by simp only [In]; omega)) ?_ | refine zg rfl (zN rfl rfl (by simp only [In]; omega)) ?_ | refine zg rfl (zv qD rfl rfl rfl rfl) ?_ | refine zg rfl (zw qD rfl rfl rfl (by simp only [In]; omega)) ?_ | refine zg rfl (zE rfl rfl (by omega) (by omega) (by simp only [In]; omega)) ?_ | refine zg rfl (zF rfl rfl (by omega) (by omega)) ?_ | refine zg rfl (zP rfl rfl (by omega)) ?_ | refine zg rfl (zL rfl rfl (by omega)) ?_ | refine zg rfl (zh qD rfl) ?_ | refine zg rfl (zO qI rfl rfl rfl) ?_ | refine zg rfl (zH rfl rfl) ?_ | refine zg rfl (zC rfl rfl) ?_ | refine zg rfl (zp rfl rfl rfl) ?_ | refine zG rfl rfl rfl rfl ?_ | refine zc rfl rfl rfl rfl (Yld.add rfl rfl (by simp only [In]; omega)) ?_ | refine zc rfl rfl rfl rfl (Yld.sub rfl rfl (by simp only [In]; omega)) ?_ | refine zc rfl rfl rfl rfl (zN rfl rfl (by simp only [In]; omega)) ?_ | refine zc rfl rfl rfl rfl (zv qD rfl rfl rfl rfl) ?_ | refine zc rfl rfl rfl rfl (zw qD rfl rfl rfl (by simp only [In]; omega)) ?_ | refine zc rfl rfl rfl rfl (zE rfl rfl (by omega) (by omega) (by simp only [In]; omega)) ?_ | refine zc rfl rfl rfl rfl (zF rfl rfl (by omega) (by omega)) ?_ | refine zc rfl rfl rfl rfl (zP rfl rfl (by omega)) ?_ | refine zc rfl rfl rfl rfl (zL rfl rfl (by omega)) ?_ | refine zc rfl rfl rfl rfl (zh qD rfl) ?_ | refine zc rfl rfl rfl rfl (zO qI rfl rfl rfl) ?_ | refine zc rfl rfl rfl rfl (zH rfl rfl) ?_ | refine zc rfl rfl rfl rfl (zC rfl rfl) ?_ | refine zc rfl rfl rfl rfl (zp rfl rfl rfl) ?_)
 refine zx rfl rfl (jp (K:=fun r=>r=zs.map PA.v) hl hn_l hr_l (clone_MV hlen rfl)) ?_
 rintro _ w1 ⟨hg1,r,A,c,hs,rfl,hO,hr,ho,hc,hrn⟩
 subst hrn
 refine zg rfl (z6 (us:=[.slice A (zs.map PA.v).length c]) (vs:=[(1,.slice A (zs.map PA.v).length c)]) zero158 places158 rfl rfl) ?_
 refine qn (us:=[.slice A (zs.map PA.v).length c]) rfl rfl rfl (fun g w2 hB hg2 hl2=>?_)
 repeat (first | refine zd ?_ | refine WC.block ?_ | refine zb ?_ | refine ze ?_ | refine za ?_ | refine zo ?_ | refine zy ?_ | refine zt ?_ | refine zk ?_ | refine zf ?_ | refine zi ?_ | refine zj ?_ | refine zl ?_ | refine zq rfl ?_ | refine zI ?_ | refine zJ ?_ | refine zn ?_ | refine zu ?_ | refine zr ?_ | refine zg rfl (Yld.add rfl rfl (by simp only [In]; omega)) ?_ | refine zg rfl (Yld.sub rfl rfl (by simp only [In]; omega)) ?_ | refine zg rfl (zN rfl rfl (by simp only [In]; omega)) ?_ | refine zg rfl (zv qD rfl rfl rfl rfl) ?_ | refine zg rfl (zw qD rfl rfl rfl (by simp only [In]; omega)) ?_ | refine zg rfl (zE rfl rfl (by omega) (by omega) (by simp only [In]; omega)) ?_ | refine zg rfl (zF rfl rfl (by omega) (by omega)) ?_ | refine zg rfl (zP rfl rfl (by omega)) ?_ | refine zg rfl (zL rfl rfl (by omega)) ?_ | refine zg rfl (zh qD rfl) ?_ | refine zg rfl (zO qI rfl rfl rfl) ?_ | refine zg rfl (zH rfl rfl) ?_ | refine zg rfl (zC rfl rfl) ?_ | refine zg rfl (zp rfl rfl rfl) ?_ | refine zG rfl rfl rfl rfl ?_ | refine zc rfl rfl rfl rfl (Yld.add rfl rfl (by simp only [In]; omega)) ?_ | refine zc rfl rfl rfl rfl (Yld.sub rfl rfl (by simp only [In]; omega)) ?_ | refine zc rfl rfl rfl rfl (zN rfl rfl (by simp only [In]; omega)) ?_ | refine zc rfl rfl rfl rfl (zv qD rfl rfl rfl rfl) ?_ | refine zc rfl rfl rfl rfl (zw qD rfl rfl rfl (by simp only [In]; omega)) ?_ | refine zc rfl rfl rfl rfl (zE rfl rfl (by omega) (by omega) (by simp only [In]; omega)) ?_ | refine zc rfl rfl rfl rfl (zF rfl rfl (by omega) (by omega)) ?_ | refine zc rfl rfl rfl rfl (zP rfl rfl (by omega)) ?_ | refine zc rfl rfl rfl rfl (zL rfl rfl (by omega)) ?_ | refine zc rfl rfl rfl rfl (zh qD rfl) ?_ | refine zc rfl rfl rfl rfl (zO qI rfl rfl rfl) ?_ | refine zc rfl rfl rfl rfl (zH rfl rfl) ?_ | refine zc rfl rfl rfl rfl (zC rfl rfl) ?_ | refine zc rfl rfl rfl rfl (zp rfl rfl rfl) ?_)
 refine zg rfl (qj Tryz.underlying155 rfl rfl) ?_
 repeat (first | refine zd ?_ | refine WC.block ?_ | refine zb ?_ | refine ze ?_ | refine za ?_ | refine zo ?_ | refine zy ?_ | refine zt ?_ | refine zk ?_ | refine zf ?_ | refine zi ?_ | refine zj ?_ | refine zl ?_ | refine zq rfl ?_ | refine zI ?_ | refine zJ ?_ | refine zn ?_ | refine zu ?_ | refine zr ?_ | refine zg rfl (Yld.add rfl rfl (by simp only [In]; omega)) ?_ | refine zg rfl (Yld.sub rfl rfl (by simp only [In]; omega)) ?_ | refine zg rfl (zN rfl rfl (by simp only [In]; omega)) ?_ | refine zg rfl (zv qD rfl rfl rfl rfl) ?_ | refine zg rfl (zw qD rfl rfl rfl (by simp only [In]; omega)) ?_ | refine zg rfl (zE rfl rfl (by omega) (by omega) (by simp only [In]; omega)) ?_ | refine zg rfl (zF rfl rfl (by omega) (by omega)) ?_ | refine zg rfl (zP rfl rfl (by omega)) ?_ | refine zg rfl (zL rfl rfl (by omega)) ?_ | refine zg rfl (zh qD rfl) ?_ | refine zg rfl (zO qI rfl rfl rfl) ?_ | refine zg rfl (zH rfl rfl) ?_ | refine zg rfl (zC rfl rfl) ?_ | refine zg rfl (zp rfl rfl rfl) ?_ | refine zG rfl rfl rfl rfl ?_ | refine zc rfl rfl rfl rfl (Yld.add rfl rfl (by simp only [In]; omega)) ?_ | refine zc rfl rfl rfl rfl (Yld.sub rfl rfl (by simp only [In]; omega)) ?_ | refine zc rfl rfl rfl rfl (zN rfl rfl (by simp only [In]; omega)) ?_ | refine zc rfl rfl rfl rfl (zv qD rfl rfl rfl rfl) ?_ | refine zc rfl rfl rfl rfl (zw qD rfl rfl rfl (by simp only [In]; omega)) ?_ | refine zc rfl rfl rfl rfl (zE rfl rfl (by omega) (by omega) (by simp only [In]; omega)) ?_ | refine zc rfl rfl rfl rfl (zF rfl rfl (by omega) (by omega)) ?_ | refine zc rfl rfl rfl rfl (zP rfl rfl (by omega)) ?_ | refine zc rfl rfl rfl rfl (zL rfl rfl (by omega)) ?_ | refine zc rfl rfl rfl rfl (zh qD rfl) ?_ | refine zc rfl rfl rfl rfl (zO qI rfl rfl rfl) ?_ | refine zc rfl rfl rfl rfl (zH rfl rfl) ?_ | refine zc rfl rfl rfl rfl (zC rfl rfl) ?_ | refine zc rfl rfl rfl rfl (zp rfl rfl rfl) ?_)
 have h0:=hg1.size
 have hO2:=hO.grown hg2
 have hr2:=hr.grown hg2
 have at1:∀ h∈hs,∃ i x,hs[i]? = some h/\(zs.map PA.v)[i]? = some x:=fun h hh=>by
  obtain ⟨i,hi,rfl⟩:=List.getElem_of_mem hh
  exact ⟨i,_,List.getElem?_eq_getElem hi,List.getElem?_eq_getElem (by rw [<-hr.1]; exact hi)⟩
 refine zD rfl rfl ⟨qG hg1 hg2,⟨.iface 155 (.pointer (some ⟨g,0,none⟩)),rfl⟩,fun q=>q=g∨blk A=some q∨∃ h,h∈hs/\h.2 q,.tup zs,rfl,RelD.cons ⟨⟨g,A,c,hs,rfl,by rw [List.length_map] at hB; exact hB,hO2.rd,by rw [hr.1,List.length_map],fun q hq=>.inr (.inl hq),.inl rfl,fun i h z hh hz=>?_⟩,fun q hq=>?_⟩ RelD.nil,fun p hp hd=>DnD.cons (fun q e hq=>?_) DnD.nil,hK⟩
 ·have:=hr2.2 i h z.v hh (by rw [List.getElem?_map,hz]; rfl)
  exact AR.mono (AR.ofV this.1) fun q hq=>.inr (.inr ⟨h,List.mem_of_getElem? hh,hq⟩)
 ·rcases hq with rfl | hq | ⟨h,hh,hq⟩
  ·exact hB.lt
  ·exact (hO2.lt hq).2
  ·obtain ⟨i,x,a,b⟩:=at1 h hh; exact (hr2.2 i h x a b).2 q hq
 ·have hpq:=hp q e
  rcases hq with rfl | hq | ⟨h,hh,hq⟩
  ·omega
  ·have:=(hO.lt hq).1; omega
  ·obtain ⟨i,x,a,b⟩:=at1 h hh
   exact ho p hp hd i h x a b q e hq
end
 
section
open Go Go.RowKit
end
 
section
open Go Go.RowKit
end
 
section
open Go Go.RowKit
structure HasD (N:Nat) (ds:List Deferred) (L:qO) (a:Act):Prop where
 size:a.tmps.size=N
 defers:a.defers=ds
 get:∀ t v,lk L t=some v->a.tmps.getD t undef=v
def noD (a:Act):Act:={ a with defers:=[] }
section
variable {N:Nat} {ds:List Deferred} {L L':qO} {a:Act}
theorem HasD.has (h:HasD N ds L a):Has N L (noD a):=⟨h.size,rfl,h.get⟩
theorem eval_noD:(noD a).eval=a.eval:=by
 funext x
 cases x <;> rfl
theorem HasD.ev {x:Operand} {v:Value} (h:HasD N ds L a) (hx:opv L x=some v):a.eval x=v:=by rw [<-eval_noD]; exact h.has.ev hx
theorem HasD.evs {xs:List Operand} {vs:List Value} (h:HasD N ds L a) (hx:opvs L xs=some vs):xs.map a.eval=vs:=by rw [<-eval_noD]; exact h.has.evs hx
theorem HasD.put (h:HasD N ds L a) {d:Nat} (hd:Nat.blt d N=true) (v:Value):HasD N ds ((d,v) :: L) (a.put (some d) v) :=
 ⟨(h.has.put hd v).size,h.defers,(h.has.put hd v).get⟩
theorem HasD.sub (h:HasD N ds L a) (hs:Sub L L'):HasD N ds L' a:=⟨h.size,h.defers,fun t v ht=>h.get t v (hs t v ht)⟩
end
def DL (P:Program) (N:Nat) (ds:List Deferred) (ops:Array Oper) (Q:Post) (l:List Oper) (L:qO) (w:World):Prop:=∀ a w1,Eqv w w1->HasD N ds L a->wpList P ops Q l a w1
def DC (P:Program) (N:Nat) (ds:List Deferred) (Q:Post) (c:Code) (L:qO) (w:World):Prop:=∀ a w1,Eqv w w1->HasD N ds L a->c.wp P Q a w1
def DX (N:Nat) (ds:List Deferred) (Q:Post) (e:Exit) (L:qO) (w:World):Prop:=∀ a w1,Eqv w w1->HasD N ds L a->Q e a w1
def dfr (g:FuncId) (vs:List Value):List Deferred:=[{ target:=.fn (.func g) #[],args:=⟨vs⟩ }]
section rules
variable {P:Program} {N:Nat} {ds:List Deferred} {ops:Array Oper} {Q:Post} {L:qO} {w:World} {rest:List Oper} {d:Nat} {ty:TypeId} {pos:String} {af:Array Edge}
theorem WL.dfr {g:FuncId} {ao:List Operand} {ts:Array TypeId} {vs:List Value} (hv:opvs L ao=some vs) (h:DL P N (dfr g vs) ops Q rest L w) :
  WL P N ops Q (⟨none,.defer ⟨.value (.func g),⟨ao⟩,ts⟩,ty,pos,af,none⟩ :: rest) L w:=fun a w1 e ha =>
 wpList_plain rfl fun K hK=>by
  have hm:(⟨ao⟩:Array Operand).map a.eval=⟨vs⟩:=by rw [<-ha.evs hv]; simp
  have hrun:(execOp a.eval ⟨none,.defer ⟨.value (.func g),⟨ao⟩,ts⟩,ty,pos,af,none⟩).run P w1=.ok (.defer { target:=.fn (.func g) #[],args:=⟨vs⟩ }) w1:=by
   unfold execOp
   simp only [resolve,Act.eval,hm,Deferred.ofValue,Sem.run_bind,Sem.run_pure,Result.andThen_ok]
   simp
  unfold Oper.wp
  rw [hrun]
  refine hK _ _ (h _ _ e ⟨ha.size,?_,ha.get⟩)
  show _ :: a.defers=_
  rw [ha.defers]; rfl
theorem DL.y {op:Op} {v:Value} (hd:Nat.blt d N=true) (hy:Yld P N w ⟨some d,op,ty,pos,af,none⟩ L v) (h:DL P N ds ops Q rest ((d,v) :: L) w):DL P N ds ops Q (⟨some d,op,ty,pos,af,none⟩ :: rest) L w:=fun a w1 e ha =>
 wpList_plain rfl fun K hK=>by
  unfold Oper.wp
  rw [<-eval_noD,hy _ w1 e ha.has]
  exact hK _ _ (h _ _ e (ha.put hd v))
theorem DL.put {op:Op} {R:Value->World->Prop} (hd:Nat.blt d N=true) (hr:Eff P N w ⟨some d,op,ty,pos,af,none⟩ L R) (hk:∀ v w',R v w'->DL P N ds ops Q rest ((d,v) :: L) w'):DL P N ds ops Q (⟨some d,op,ty,pos,af,none⟩ :: rest) L w:=fun a w1 e ha =>
 wpList_plain rfl fun K hK=>by
  obtain ⟨v,w',h,hR⟩:=hr _ w1 e ha.has
  unfold Oper.wp
  rw [<-eval_noD,h]
  exact hK _ _ (hk v w' hR _ w' (Eqv.refl _) (ha.put hd v))
theorem DL.call {R:Value->World->Prop} {g:FuncId} {ao:List Operand} {ts:Array TypeId} {vs:List Value} (hd:Nat.blt d N=true) (hv:opvs L ao=some vs) (hf:Fn P g ⟨vs⟩ w R) (hk:∀ v w',R v w'->DL P N ds ops Q rest ((d,v) :: L) w') :
  DL P N ds ops Q (⟨some d,.call ⟨.value (.func g),⟨ao⟩,ts⟩,ty,pos,af,none⟩ :: rest) L w:=fun a w1 e ha =>
 wpList_plain rfl fun K hK=>by
  have hm:(⟨ao⟩:Array Operand).map a.eval=⟨vs⟩:=by rw [<-ha.evs hv]; simp
  obtain ⟨hgo,hC⟩:=hf
  unfold goesIn at hgo
  split at hgo
  ·rename_i fn hfn
   simp only [Bool.and_eq_true,Bool.not_eq_true'] at hgo
   have hnone:fn.body.isNone=false:=by cases hb:fn.body <;> simp_all
   have hrun:(execOp a.eval ⟨some d,.call ⟨.value (.func g),⟨ao⟩,ts⟩,ty,pos,af,none⟩).run P w1=.ok (.enter g ⟨vs⟩) w1:=by
    unfold execOp
    simp only [resolve,Act.eval,hm,Deferred.ofValue,Sem.run_bind,Sem.run_pure,Result.andThen_ok,invoke,callFunc,program,Sem.run,hfn,hgo.1,hnone,Bool.false_eq_true,if_false]
    simp
   unfold Oper.wp
   rw [hrun]
   refine (hC w1 e).mono ?_
   rintro en w' ⟨v,w0,rfl,h0,hR⟩
   exact hK _ _ (hk v w0 hR _ w' h0 (ha.put hd v))
  ·cases hgo
theorem DL.lit {T:Tab} {us:List Value} {t:TypeId} {e b m:Nat} {ps:List (Nat × Operand)} (hT:T.Ok P) (hd:Nat.blt d N=true) (hs:nk T.ow t=some (e,b)) (hp:partsV L 0 ps=some us) (h1:∀ u∈us,u.oneCell'=true) (hm:us.length=m) (hm2:m<=16777216)
  (hk:∀ g w',Bl w' g e us->w.grownBy w' none->w.heap.size<=g->DL P N ds ops Q rest ((d,.slice (some ⟨g,0,none⟩) m m) :: L) w') :
  DL P N ds ops Q (⟨some d,.buildSlice t m ⟨ps⟩,ty,pos,af,none⟩ :: rest) L w :=
 DL.put (R:=fun v w'=>v=.slice (some ⟨w.heap.size,0,none⟩) m m/\Bl w' w.heap.size e us/\w.grownBy w' none) hd (Eff.lit hT hs hp h1 hm hm2) (fun v w' ⟨hv,hb,hg⟩=>by subst hv; exact hk _ _ hb hg (Nat.le_refl _))
theorem DL.append {α:Type} {f:α->Value} {T:Tab} {t:TypeId} {x y:Operand} {A:Option Addr} {c n B e:Nat} {xs:List α} {A2:Option Addr} {c2 n2:Nat} {ys:List α} {b:Nat} (hT:T.Ok P) (hd:Nat.blt d N=true) (hs:nk T.ow t=some (e,b)) (hf:One f) (hO:Own f w B e A c xs) (hx:opv L x=some (.slice A n c)) (hn:n=xs.length) (hR:Rd f w A2 c2 ys) (hy:opv L y=some (.slice A2 n2 c2)) (hn2:n2=ys.length)
  (hl:(xs.length+ys.length)*b<=140737488355328) (h63:xs.length+ys.length<=maxLen) (hB:B<=w.heap.size)
  (hk:∀ A' c' w',Own f w' B e A' c' (xs++ys)->w.grownBy w' (blk A)->(∀ g,blk A'=some g->blk A=some g∨w.heap.size<=g)->DL P N ds ops Q rest ((d,.slice A' (xs++ys).length c') :: L) w') :
  DL P N ds ops Q (⟨some d,.call ⟨.builtin .append,⟨[x,y]⟩,⟨[t,t]⟩⟩,ty,pos,af,none⟩ :: rest) L w :=
 DL.put (R:=fun v w'=>∃ A' c',v=.slice A' (xs++ys).length c'/\Own f w' B e A' c' (xs++ys)/\w.grownBy w' (blk A)/\(∀ g,blk A'=some g->blk A=some g∨w.heap.size<=g)) hd (Eff.append hT hs hf hO hx hn hR hy hn2 hl h63 hB) (fun v w' ⟨A',c',hv,h1,h2,h3⟩=>by subst hv; exact hk A' c' w' h1 h2 h3)
theorem DL.nil (h:DX N ds Q .normal L w):DL P N ds ops Q [] L w:=fun a w1 e ha=>wpList_nil (h a w1 e ha)
theorem DC.seq {x y:Code} (h:DC P N ds (Exit.then (y.wp P Q) Q) x L w):DC P N ds Q (.seq x y) L w:=fun a w1 e ha=>wp_seq (h a w1 e ha)
theorem DC.block {i:Nat} {c:Code} (h:DC P N ds (Exit.inBlock i Q) c L w):DC P N ds Q (.block i c) L w:=fun a w1 e ha=>wp_block (h a w1 e ha)
theorem DC.skip (h:DX N ds Q .normal L w):DC P N ds Q .skip L w:=fun a w1 e ha=>wp_skip (h a w1 e ha)
theorem DC.exit {i:Nat} (h:DX N ds Q (.exit i) L w):DC P N ds Q (.exit i) L w:=fun a w1 e ha=>wp_exit (h a w1 e ha)
theorem DC.ret (h:DX N ds Q .ret L w):DC P N ds Q .ret L w:=fun a w1 e ha=>wp_ret (h a w1 e ha)
theorem DC.region {i:Nat} {l:List Oper} (h:DL P N ds l.toArray Q l L w):DC P N ds Q (.region i l.toArray false) L w:=fun a w1 e ha=>wp_region_lit (h a w1 e ha)
theorem DC.cond {c:Operand} {x y:Code} {b:Bool} (hc:opv L c=some (.bool b)) (ht:b=true->DC P N ds Q x L w) (hf:b=false->DC P N ds Q y L w):DC P N ds Q (.cond c x y) L w:=fun a w1 e ha=>by
 refine wp_cond (t:=b) (ha.ev hc) ?_
 cases b with
 | true=>exact ht rfl a w1 e ha
 | false=>exact hf rfl a w1 e ha
theorem DX.then_normal {y:Code} (h:DC P N ds Q y L w):DX N ds (Exit.then (y.wp P Q) Q) .normal L w:=h
theorem DX.then_exit {K:Act->World->Prop} {i:Nat} (h:DX N ds Q (.exit i) L w):DX N ds (Exit.then K Q) (.exit i) L w:=h
theorem DX.block_normal {i:Nat} (h:DX N ds Q .normal L w):DX N ds (Exit.inBlock i Q) .normal L w:=h
theorem DX.block_same {i:Nat} (h:DX N ds Q .normal L w):DX N ds (Exit.inBlock i Q) (.exit i) L w:=fun a w1 e ha=>by
 show if i=i then _ else _
 rw [if_pos rfl]; exact h a w1 e ha
theorem DX.weaken {e:Exit} {L':qO} (hs:Sub L L') (h:DX N ds Q e L' w):DX N ds Q e L w:=fun a w1 k ha=>h a w1 k (ha.sub hs)
theorem DC.loopF {k:Code} (F:Nat->qO->World->Prop) (n0:Nat) (L0:qO) (h0:F n0 L0 w) (hL:Sub L L0)
  (round:∀ n L w,F n L w->DC P N ds (Exit.then (fun a' w'=>∃ n' L' w0,F n' L' w0/\Eqv w0 w'/\HasD N ds L' a'/\n'<n) Q) k L w):DC P N ds Q (.loop k) L w:=fun a w1 e ha=>by
 have key:∀ n L a w0 w1,F n L w0->Eqv w0 w1->HasD N ds L a->∀ (b:Frame) (t:List Item) (cs:List Frame),
   ∃ e a' w',Q e a' w'/\Arrives P (lone (b.at a (.code k :: .inLoop k :: t)) cs w1) b t cs e a' w':=by
  intro n
  induction n using Nat.strongRecOn with
  | _ n ih =>
   intro L a w0 w1 hI he ha b t cs
   obtain ⟨e,a1,w2,hq,harr⟩:=round n L w0 hI a w1 he ha b (.inLoop k :: t) cs
   cases e with
   | normal =>
    obtain ⟨n',L',w3,hI',he',ha',hlt⟩:=hq
    obtain ⟨e2,a2,w4,hq2,harr2⟩:=ih n' hlt L' a1 w3 w2 hI' he' ha' b t cs
    exact ⟨e2,a2,w4,hq2,.of_steps (Steps.trans harr (.one step_inLoop)) harr2⟩
   | exit id=>exact ⟨_,a1,w2,hq,.pass (x:=.inLoop k) rfl (fun _ _=>.inl (by simp)) harr⟩
   | goto l=>exact ⟨_,a1,w2,hq,.pass (x:=.inLoop k) rfl (fun _ _=>.inl (by simp)) harr⟩
   | ret=>exact ⟨_,a1,w2,hq,.pass (x:=.inLoop k) rfl (fun _ _=>.inl (by simp)) harr⟩
   | panic ch=>exact ⟨_,a1,w2,hq,.pass (x:=.inLoop k) rfl (fun _ _=>.inl (by simp)) harr⟩
   | outgrown=>exact ⟨_,a1,w2,hq,.pass (x:=.inLoop k) rfl (fun _ _=>.inl (by simp)) harr⟩
 intro b t cs
 obtain ⟨e',a',w',hq,harr⟩:=key n0 L0 a w w1 h0 e (ha.sub hL) b t cs
 exact ⟨e',a',w',hq,.of_steps (.one step_loop) harr⟩
theorem DX.roundF {F:Nat->qO->World->Prop} {n n':Nat} (L':qO) (hI:F n' L' w) (hL:Sub L L') (hm:n'<n) :
  DX N ds (Exit.then (fun a' w'=>∃ n' L' w0,F n' L' w0/\Eqv w0 w'/\HasD N ds L' a'/\n'<n) Q) .normal L w:=fun _ _ e ha=>⟨n',L',w,hI,e,ha.sub hL,hm⟩
def FnQ (P:Program) (f:FuncId) (args:Array Value) (w:World) (R:Value->World->Prop):Prop :=
 goesIn P f=true/\∀ w1,Eqv w w1->CallsD P f args .returning w1 fun e u' w'=>u'=.returning/\∃ v w0,e=.returned v/\Eqv w0 w'/\R v w0
theorem FnQ.enter {g:FuncId} {fn:Func} {c:Code} {args:List Value} {R:Value->World->Prop} (hgo:goesIn P g=true) (hf:P.funcs[g]? = some fn) (hb:fn.body=some c) (hN:fn.ntmps=N) (ha:Nat.ble args.length N=true)
  (h:WC P N (RetPost P fn R) c (slotsOf args 0) w):FnQ P g ⟨args⟩ w R :=
 ⟨hgo,fun w1 e=>callsD_of_wp hf hb (h _ w1 e (by
  have hle:args.length<=N:=Nat.le_of_ble_eq_true ha
  refine ⟨by simp [hN]; omega,rfl,fun t v ht=>?_⟩
  obtain ⟨_,h2⟩:=slotsOf_get args 0 t v ht
  have hlt:t<args.length:=by
   rcases Nat.lt_or_ge t args.length with h | h
   ·exact h
   ·rw [List.getElem?_eq_none (by omega)] at h2; cases h2
  have h3:args[t]=v:=by
   rw [Nat.sub_zero,List.getElem?_eq_getElem hlt] at h2
   exact Option.some.inj h2
  rw [Array.getD_eq_getD_getElem?,Array.getElem?_append_left (by simpa using hlt)]
  simp [hlt,h3]))⟩
def RetPostD (P:Program) (fn:Func) (R:Value->World->Prop):Post:=bodyPostD P fn fun e w'=>∃ v w0,e=.returned v/\Eqv w0 w'/\R v w0
theorem Fn.enterD {g:FuncId} {fn:Func} {c:Code} {args:List Value} {R:Value->World->Prop} (hgo:goesIn P g=true) (hf:P.funcs[g]? = some fn) (hb:fn.body=some c) (hN:fn.ntmps=N) (ha:Nat.ble args.length N=true)
  (h:WC P N (RetPostD P fn R) c (slotsOf args 0) w):Fn P g ⟨args⟩ w R :=
 ⟨hgo,fun w1 e=>calls_of_wp_defers hf hb (h _ w1 e (by
  have hle:args.length<=N:=Nat.le_of_ble_eq_true ha
  refine ⟨by simp [hN]; omega,rfl,fun t v ht=>?_⟩
  obtain ⟨_,h2⟩:=slotsOf_get args 0 t v ht
  have hlt:t<args.length:=by
   rcases Nat.lt_or_ge t args.length with h | h
   ·exact h
   ·rw [List.getElem?_eq_none (by omega)] at h2; cases h2
  have h3:args[t]=v:=by
   rw [Nat.sub_zero,List.getElem?_eq_getElem hlt] at h2
   exact Option.some.inj h2
  rw [Array.getD_eq_getD_getElem?,Array.getElem?_append_left (by simpa using hlt)]
  simp [hlt,h3]))⟩
theorem DX.ret2 {fn:Func} {R R0:Value->World->Prop} {g:FuncId} {vs:List Value} {s1 s2:Nat} {v1 v2:Value} (hr:fn.results = #[.tmp s1,.tmp s2]) (h1:lk L s1=some v1) (h2:lk L s2=some v2) (hf:FnQ P g ⟨vs⟩ w R0)
  (hk:∀ v w',R0 v w'->R (.tuple #[v1,v2]) w'):DX N (Go.Proofs.YtjoepdjeekadcaaGreatDoor.dfr g vs) (RetPostD P fn R) .ret L w:=fun a w1 e ha=>by
 show Leaves P fn a.tmps _ a.defers .returning w1
 rw [ha.defers]
 obtain ⟨hgo,hC⟩:=hf
 unfold goesIn at hgo
 split at hgo
 ·rename_i fn' hfn
  simp only [Bool.and_eq_true,Bool.not_eq_true'] at hgo
  have hnone:fn'.body.isNone=false:=by cases hb:fn'.body <;> simp_all
  refine leaves_cons (f:=g) (args:=⟨vs⟩) (by simp) ?_ ?_
  ·simp only [invoke,callFunc,program,Sem.run_bind,Sem.run,Result.andThen_ok,hfn,hgo.1,hnone,Bool.false_eq_true,if_false]
   simp
  ·refine (hC w1 e).mono ?_
   rintro en u' w' ⟨rfl,v,w0,rfl,h0,hR⟩
   have p1:a.tmps[s1]?.getD undef=v1:=by simpa using ha.get s1 _ h1
   have p2:a.tmps[s2]?.getD undef=v2:=by simpa using ha.get s2 _ h2
   exact ⟨.tuple #[v1,v2],by simp [results,hr,p1,p2],_,w0,rfl,h0,hk v w0 hR⟩
 ·cases hgo
end rules
end
 
section
open Go Go.RowKit
attribute [local irreducible] WL WC WX WQ WK WJ Yld Eff Ef0 Fn
def kw (l:List PV) (K0:Prop) (K:(List PV)->Bool->Int->Prop):Prop :=
 (l.length<=maxLen ->
 qS l (fun (t4:List PV) =>
 K t4 false (0:Int)))
def kl (l_l:List PV) (l_frozen:Bool) (l_over:Int) (K:Bool->Prop):Prop :=
 (l_l.length<=maxLen ->
 K ((!l_frozen) && (decide (l_over=(0:Int)))))
def M_pval_List_Len (l_l:List PV) (l_frozen:Bool) (l_over:Int) (K:Int->Prop):Prop :=
 (l_l.length<=maxLen ->
 K (l_l.length:Int))
def M_pval_List_Add (l_l:List PV) (l_frozen:Bool) (l_over:Int) (items:List PV) (K:(List PV)->Bool->Int->Prop):Prop :=
 (l_l.length<=maxLen ->
 (items.length<=maxLen ->
 ((l_l.length+items.length)*16<=140737488355328) /\
 K (l_l++items) l_frozen l_over))
def M_val_items_List0 (v_l:List PV) (v_frozen:Bool) (v_over:Int) (K:(List PV)->Bool->Prop):Prop :=
 (v_l.length<=maxLen ->
 qS v_l (fun (t2:List PV) =>
 K t2 true))
def M_val_Items_List0 (v_l:List PV) (v_frozen:Bool) (v_over:Int) (K:(List PV)->Bool->Prop):Prop :=
 (v_l.length<=maxLen ->
 M_val_items_List0 v_l v_frozen v_over (fun (t50:List PV) (t51:Bool) =>
 K t50 t51))
def M_val_hold_List0 (v_l:List PV) (v_frozen:Bool) (v_over:Int) (by_:Int) (K:(List PV)->Bool->Int->Prop):Prop :=
 (v_l.length<=maxLen ->
 (In .i64 (v_over+by_)) /\
 K v_l v_frozen (v_over+by_))
def j9 (v_l:List PV) (v_frozen:Bool) (v_over:Int) (by_:Int) (K:(List PV)->Bool->Int->Prop):Prop :=
 (v_l.length<=maxLen ->
 M_val_hold_List0 v_l v_frozen v_over by_ (fun (v_:List PV) (v_2:Bool) (v_3:Int) =>
 K v_ v_2 v_3))
def qX (v_l:List PV) (v_frozen:Bool) (v_over:Int) (K0:Er->(List PV)->Bool->Int->Prop) (K:(List PV)->Int->Bool->Bool->Er->(List PV)->Bool->Int->Prop):Prop :=
 (v_l.length<=maxLen ->
 M_val_Items_List0 v_l v_frozen v_over (fun (t180:List PV) (t181:Bool) =>
 j9 v_l v_frozen v_over (1:Int) (fun (v_:List PV) (v_2:Bool) (v_3:Int) =>
 K t180 (0:Int) false false Er.ok v_ v_2 v_3)))
def qP (o_v_l:List PV) (o_v_frozen:Bool) (o_v_over:Int) (o_l:List PV) (o_at:Int) (o_ended:Bool) (o_Paid:Bool) (K:Int->Bool->Bool->(List PV)->Bool->Int->Prop):Prop :=
 (o_v_l.length<=maxLen ->
 (o_l.length<=maxLen ->
 (((!o_ended)=true->j9 o_v_l o_v_frozen o_v_over (-1:Int) (fun (o_v_:List PV) (o_v_2:Bool) (o_v_3:Int) =>
 K o_at true o_Paid o_v_ o_v_2 o_v_3)) /\
 ((!o_ended)=false->K o_at o_ended o_Paid o_v_l o_v_frozen o_v_over))))
def M_list_Extend (l_l:List PV) (l_frozen:Bool) (l_over:Int) (x:List PV) (K:Er->(List PV)->Bool->Int->Prop):Prop :=
 (l_l.length<=maxLen ->
 (x.length<=maxLen ->
 kl l_l l_frozen l_over (fun (t6:Bool) =>
 (((!t6)=true->K (Er.e 3) l_l l_frozen l_over) /\
 ((!t6)=false->M_pval_List_Len l_l l_frozen l_over (fun (t12:Int) =>
 (In .i64 ((1024:Int) - t12)) /\
 ((((1024:Int) - t12)<(x.length:Int)->K (Er.e 7) l_l l_frozen l_over) /\
 (¬ (((1024:Int) - t12)<(x.length:Int))->M_pval_List_Add l_l l_frozen l_over x (fun (l_:List PV) (l_2:Bool) (l_3:Int) =>
 K Er.ok l_ l_2 l_3)))))))))
def jc (l_l:List PV) (l_frozen:Bool) (l_over:Int) (x:PV) (K:Er->(List PV)->Bool->Int->Prop):Prop :=
 (l_l.length<=maxLen ->
 M_list_Extend l_l l_frozen l_over ([x]:List PV) (fun (t4:Er) (l_:List PV) (l_2:Bool) (l_3:Int) =>
 K t4 l_ l_2 l_3))
def j3 (K:Bool->Prop):Prop :=
 qL (3:Int) (fun (t8:PV) =>
 qL (1:Int) (fun (t9:PV) =>
 qL (2:Int) (fun (t10:PV) =>
 M_list_Sorted ([t8,t9,t10]:List PV) true (fun (t120:List PV) (t121:Er) =>
 ∃ J1:Bool->Prop,(((((!decide (t121=Er.ok)) || (!decide ((t120.length:Int)=(3:Int))))=true->J1 true) /\
 (((!decide (t121=Er.ok)) || (!decide ((t120.length:Int)=(3:Int))))=false->(0<=(0:Int)/\(0:Int)<(t120.length:Nat)) /\
 jb (t120.getD 0 PV.nil) (fun (t26:List UInt8) =>
 J1 (!decide (t26=([51]:List UInt8))))))) /\
 (∀ q2:Bool,J1 q2->∃ J2:Bool->Prop,(((q2=true->J2 true) /\
 (q2=false->(0<=(2:Int)/\(2:Int)<(t120.length:Nat)) /\
 jb (t120.getD 2 PV.nil) (fun (t33:List UInt8) =>
 J2 (!decide (t33=([49]:List UInt8))))))) /\
 (∀ q3:Bool,J2 q3->((q3=true->K false) /\
 (q3=false->qL (1:Int) (fun (t36:PV) =>
 kw ([t36]:List PV) (
 K false) (fun (a_l:List PV) (a_frozen:Bool) (a_over:Int) =>
 qX a_l a_frozen a_over (fun (t441:Er) (a_:List PV) (a_2:Bool) (a_3:Int) =>
 K false) (fun (i4:List PV) (g9:Int) (e5:Bool) (e6:Bool) (t4412:Er) (a_4:List PV) (a_5:Bool) (a_6:Int) =>
 ((¬ (t4412=Er.ok)->K false) /\
 (t4412=Er.ok->qL (2:Int) (fun (t54:PV) =>
 jc a_4 a_5 a_6 t54 (fun (g:Er) (a_7:List PV) (a_8:Bool) (a_9:Int) =>
 qP a_7 a_8 a_9 i4 g9 e5 e6 (fun (t440_:Int) (m0:Bool) (m1:Bool) (a_10:List PV) (a_11:Bool) (a_12:Int) =>
 qZ g (104:Int) (fun (t59:Bool) =>
 ∃ J3:Bool->Prop,(((t59=true->qL (2:Int) (fun (t62:PV) =>
 jc a_10 a_11 a_12 t62 (fun (t63:Er) (a_13:List PV) (a_14:Bool) (a_15:Int) =>
 J3 (decide (t63=Er.ok))))) /\
 (t59=false->J3 false))) /\
 (∀ q6:Bool,J3 q6->K q6))))))))))))))))))
set_option maxHeartbeats 8000000 in
theorem W_val_NewList {w:World} {l:List PV} {A_l:Option Addr} {c_l:Nat} {l8:List VH} {n_l:Nat} {K0:Prop} {K:(List PV)->Bool->Int->Prop} (hl:Rd vv w A_l c_l l8) (n3:n_l=l.length) (m7:RelD deV w l8 l) (H:kw l K0 K):Fn Tryz.prog 29 ⟨[.slice A_l n_l c_l]⟩ w (fun v w'=>w.grownBy w' none/\((v=.pointer none/\K0 )∨(∃ (g_r:Nat),∃ (r_l:List PV),∃ (f0:Option Addr),∃ (i8:Nat),∃ (e2:List VH),∃ (r_frozen:Bool),∃ (r_over:Int),v=.pointer (some ⟨g_r,0,none⟩)/\Own vv w' w.heap.size 32 f0 i8 e2/\RelD deV w' e2 r_l/\(∀ p:Option Nat,Lt p w.heap.size->DnD deV l8 l p->DnD deV e2 r_l p)/\DnD deV e2 r_l (blk f0)/\Bl w' g_r 166 [.slice f0 r_l.length i8,.bool r_frozen,.int .i64 r_over]/\Ge (some g_r) w.heap.size/\DnD deV e2 r_l (blk f0)/\DnD deV e2 r_l (some g_r)/\Dj (blk f0) (some g_r)/\K r_l r_frozen r_over))):=by
 subst n3
 unfold kw at H
 refine Fn.enter (by kernel_rfl) Tryz.func29 rfl Tryz.ntmps29 rfl ?_
 replace H:=H (by rw [<-m7.1]; exact Nat.le_trans hl.cap hl.max)
 refine zd (zb (yp (h:=(ze (za (zd (zb (yp (h:=(zx rfl rfl (jp hl rfl m7 H) ?_))))))))))
 rintro _ w1 ⟨hg1,t4,l2,l4,n0,rfl,ht4,l0,ho1,dj1,H⟩
 have hb1:=ht4.ge'
 have k1:=ht4.base (fun g hg=>Nat.le_trans (Nat.le_refl _) (hb1 g hg))
 have gr1:=hg1
 exact zg rfl (z6 (us:=[.slice l2 t4.length l4,.bool false,.int .i64 (0:Int)]) zero166 places166 rfl rfl) (qn (us:=[.slice l2 t4.length l4,.bool false,.int .i64 (0:Int)]) rfl rfl rfl (fun g1 w2 hB1 hg2 hl1=>yp (h:=(ze (za (zt (zD rfl rfl ⟨(qG gr1 hg2),Or.inr ⟨g1,t4,l2,l4,n0,false,(0:Int),rfl,(k1.grown hg2),(l0.grown hg2),(fun p_ hp_ v0_=>have q_:=v0_; ho1 p_ (fun g_ e_=>Nat.lt_of_lt_of_le (hp_ g_ e_) (Nat.le_refl _)) (q_)),dj1,hB1,(Ge.le (Ge.box hl1) (qE gr1)),dj1,(l0.new (Ge.box hl1)),(Dj.new k1.lt' (Ge.box hl1)),H⟩⟩)))))))
set_option maxHeartbeats 8000000 in
theorem W_pval_List_Loose {w:World} {g_l:Nat} {l_l:List PV} {a1:Option Addr} {c4:Nat} {a3:List VH} {l_frozen:Bool} {l_over:Int} {d0:Nat} {K:Bool->Prop} (hl_l:Rd vv w a1 c4 a3) (d3:d0=l_l.length) (a8:RelD deV w a3 l_l) (hl:Bl w g_l 166 [.slice a1 d0 c4,.bool l_frozen,.int .i64 l_over]) (H:kl l_l l_frozen l_over K):Fn Tryz.prog 96 ⟨[.pointer (some ⟨g_l,0,none⟩)]⟩ w (fun v w'=>w=w'/\∃ (r:Bool),v=.bool r/\K r):=by
 subst d3
 unfold kl at H
 refine Fn.enter (by kernel_rfl) Tryz.func96 rfl Tryz.ntmps96 rfl ?_
 replace H:=H (by rw [<-a8.1]; exact Nat.le_trans hl_l.cap hl_l.max)
 refine zd (zb (yp (h:=(ze (za (zd (zb (yp (h:=(yp (h:=(zg rfl (z9 (o:=1) (by kernel_rfl) rfl) (zg rfl (zz qD hl rfl rfl rfl) (yp (h:=(yp (h:=(zV 6 (fun L' w'=>∃ q1:Bool,L'=[(14,.bool q1)]/\((!l_frozen) && (decide (l_over=(0:Int))))=q1/\w=w') ?_ (fun hQ=>?_)))))))))))))))))))
 ·rintro _ _ ⟨q1,rfl,rfl,rfl⟩
  exact yp (h:=(ze (za (zt (zD rfl rfl ⟨rfl,(!l_frozen) && (decide (l_over=(0:Int))),rfl,H⟩)))))
 ·clear H
  rcases Bool.eq_false_or_eq_true (!l_frozen) with b1 | b1
  ·exact gp b1 (h:=(gp b1 (h:=(zc rfl rfl (okb b1) rfl (z9 (o:=2) (by kernel_rfl) rfl) (zc rfl rfl (okb b1) rfl (zz qD hl rfl rfl rfl) (gp b1 (h:=(zg rfl (zQ (okb b1) rfl) (wk (hQ _ _ ⟨decide (l_over=(0:Int)),rfl,by rw [b1] <;> rfl,rfl⟩))))))))))
  ·exact gn b1 (h:=(gn b1 (h:=(gn b1 (h:=(gn b1 (h:=(gn b1 (h:=(zg rfl (zK (okb b1) rfl) (wk (hQ _ _ ⟨false,rfl,by rw [b1] <;> rfl,rfl⟩))))))))))))
set_option maxHeartbeats 8000000 in
theorem W_pval_List_Len {w:World} {g_l:Nat} {l_l:List PV} {a1:Option Addr} {c4:Nat} {a3:List VH} {l_frozen:Bool} {l_over:Int} {d0:Nat} {K:Int->Prop} (hl_l:Rd vv w a1 c4 a3) (d3:d0=l_l.length) (a8:RelD deV w a3 l_l) (hl:Bl w g_l 166 [.slice a1 d0 c4,.bool l_frozen,.int .i64 l_over]) (H:M_pval_List_Len l_l l_frozen l_over K):Fn Tryz.prog 97 ⟨[.pointer (some ⟨g_l,0,none⟩)]⟩ w (fun v w'=>w=w'/\∃ (r:Int),v=.int .i64 r/\K r):=by
 subst d3
 unfold M_pval_List_Len at H
 refine Fn.enter (by kernel_rfl) Tryz.func97 rfl Tryz.ntmps97 rfl ?_
 replace H:=H (by rw [<-a8.1]; exact Nat.le_trans hl_l.cap hl_l.max)
 exact zd (zb (yp (h:=(ze (za (zd (zb (yp (h:=(yp (h:=(zg rfl (z9 (o:=0) (by kernel_rfl) rfl) (zg rfl (zz qD hl rfl rfl rfl) (yp (h:=(yp (h:=(ze (za (zt (zD rfl rfl ⟨rfl,(l_l.length:Int),rfl,H⟩)))))))))))))))))))))
set_option maxHeartbeats 8000000 in
theorem W_pval_List_Add {w:World} {g_l:Nat} {l_l:List PV} {a1:Option Addr} {c4:Nat} {a3:List VH} {l_frozen:Bool} {l_over:Int} {items:List PV} {e7:Option Addr} {g5:Nat} {b8:List VH} {d0:Nat} {g7:Nat} {K:(List PV)->Bool->Int->Prop} (hl_l:Own vv w 0 32 a1 c4 a3) (d3:d0=l_l.length) (a8:RelD deV w a3 l_l) (hl:Bl w g_l 166 [.slice a1 d0 c4,.bool l_frozen,.int .i64 l_over]) (hitems:Rd vv w e7 g5 b8) (i0:g7=items.length) (c3:RelD deV w b8 items) (hdj0_1:Dj (some g_l) (blk a1)) (hap0:AllP (DnD deV a3 l_l) [(some g_l),(blk a1)]) (hap1:AllP (Dn b8 (blk e7)) [(some g_l),(blk a1)]) (hap2:AllP (DnD deV b8 items) [(some g_l),(blk a1)]) (H:M_pval_List_Add l_l l_frozen l_over items K):Fn Tryz.prog 98 ⟨[.pointer (some ⟨g_l,0,none⟩),.slice e7 g7 g5]⟩ w (fun v w'=>GrL [(some g_l),(blk a1)] w w'/\∃ (l_l2:List PV),∃ (c0:Option Addr),∃ (d7:Nat),∃ (b0:List VH),∃ (l_frozen2:Bool),∃ (l_over2:Int),v=.tuple #[]/\Bl w' g_l 166 [.slice c0 l_l2.length d7,.bool l_frozen2,.int .i64 l_over2]/\Own vv w' 0 32 c0 d7 b0/\InP [(some g_l),(blk a1)] w.heap.size (blk c0)/\RelD deV w' b0 l_l2/\(∀ p:Option Nat,Lt p w.heap.size->DnD deV a3 l_l p->DnD deV b8 items p->DnD deV b0 l_l2 p)/\Dj (some g_l) (blk c0)/\DnD deV b0 l_l2 (some g_l)/\DnD deV b0 l_l2 (blk c0)/\K l_l2 l_frozen2 l_over2):=by
 subst d3
 subst i0
 unfold M_pval_List_Add at H
 refine Fn.enter (by kernel_rfl) Tryz.func98 rfl Tryz.ntmps98 rfl ?_
 replace H:=H (by rw [<-a8.1]; exact Nat.le_trans hl_l.rd.cap hl_l.rd.max)
 replace H:=H (by rw [<-c3.1]; exact Nat.le_trans hitems.cap hitems.max)
 have hNoAt:AllP (NoAt w) [(some g_l),(blk a1)]:=(apC (NoAt.bl hl rfl) (apC (NoAt.own hl_l rfl) apN))
 refine zb (yp (h:=(yp (h:=(yp (h:=(zg rfl (z9 (o:=0) (by kernel_rfl) rfl) (zg rfl (zz qD hl rfl rfl rfl) (yp (h:=?_))))))))))
 obtain ⟨h1,H⟩:=H
 have h2:((a3:List VH).length+b8.length)*16<=140737488355328:=by rw [a8.1,c3.1]; exact h1
 refine z4 qD rfl rfl One.vv hl_l rfl a8.1.symm hitems rfl c3.1.symm h2 (jT h2) (Nat.zero_le _) (fun h4 i9 w1 hO1 hg1 hk1=>?_)
 have el1:(a3++b8).length=(l_l++items).length:=by rw [List.length_append,List.length_append,a8.1,c3.1]
 rw [el1]
 have gr1:GrL [(some g_l),(blk a1)] w w1:=GrL.mod (GrL.refl _) hg1 (InP.mem (List.Mem.tail _ (List.Mem.head _)))
 have hr1:RelD deV w1 (a3++b8) (l_l++items):=RelD.append (a8.go hg1 (hap0 _ (List.Mem.tail _ (List.Mem.head _)))) (c3.goL gr1 hap2)
 have nd1:OrD (fun p=>DnD deV a3 l_l p/\DnD deV b8 items p) deV (a3++b8) (l_l++items) w.heap.size:=OrD.append a8.1 (fun p_ hp_ q_=>q_.1) (fun p_ hp_ q_=>q_.2)
 have dj1:DnD deV (a3++b8) (l_l++items) (some g_l):=(DnD.append a8.1 (hap0 _ (List.Mem.head _)) (c3.inp hap2 (InP.mem (List.Mem.head _))))
 have dj2:DnD deV (a3++b8) (l_l++items) (blk h4):=(DnD.append a8.1 (RelD.app a8 (hap0 _ (List.Mem.tail _ (List.Mem.head _))) hk1) (RelD.app c3 (c3.inp hap2 (InP.mem (List.Mem.tail _ (List.Mem.head _)))) hk1))
 refine yp (h:=(zg rfl (z9 (o:=0) (by kernel_rfl) rfl) (qp one27 rfl rfl rfl (hl.go hg1 hdj0_1) (by simp) (fun w2 hB2 hg2=>?_))))
 have hB1:Bl w2 g_l 166 [.slice h4 ((l_l++items).length) i9,.bool l_frozen,.int .i64 l_over]:=hB2
 have gr2:GrL [(some g_l),(blk a1)] w w2:=GrL.mod gr1 hg2 (InP.mem (List.Mem.head _))
 exact ze (qd rfl ⟨gr2,(l_l++items),h4,i9,(a3++b8),l_frozen,l_over,rfl,hB1,(hO1.go hg2 (Dj.app hdj0_1.symm hl.lt' hk1)),(InP.app (InP.mem (List.Mem.tail _ (List.Mem.head _))) hk1 (Nat.le_refl _)),(hr1.go hg2 dj1),(fun p_ hp_ v0_ v1_=>nd1 p_ hp_ ⟨v0_,v1_⟩),(Dj.app hdj0_1.symm hl.lt' hk1).symm,dj1,dj2,H⟩)
set_option maxHeartbeats 8000000 in
theorem W_val_items_List0 {w:World} {g_v:Nat} {v_l:List PV} {a4:Option Addr} {c5:Nat} {a7:List VH} {v_frozen:Bool} {v_over:Int} {d1:Nat} {K:(List PV)->Bool->Prop} (hv_l:Rd vv w a4 c5 a7) (d4:d1=v_l.length) (b9:RelD deV w a7 v_l) (hv:Bl w g_v 166 [.slice a4 d1 c5,.bool v_frozen,.int .i64 v_over]) (H:M_val_items_List0 v_l v_frozen v_over K):Fn Tryz.prog 95 ⟨[.iface 61 (.pointer (some ⟨g_v,0,none⟩))]⟩ w (fun v w'=>w.grownBy w' none/\∃ (r0:List PV),∃ (f4:Option Addr),∃ (h7:Nat),∃ (e0:List VH),∃ (r1:Bool),v=.tuple #[.slice f4 r0.length h7,.bool r1]/\Own vv w' w.heap.size 32 f4 h7 e0/\RelD deV w' e0 r0/\(∀ p:Option Nat,Lt p w.heap.size->DnD deV a7 v_l p->DnD deV e0 r0 p)/\DnD deV e0 r0 (blk f4)/\K r0 r1):=by
 subst d4
 unfold M_val_items_List0 at H
 refine Fn.enter (by kernel_rfl) Tryz.func95 rfl Tryz.ntmps95 rfl ?_
 replace H:=H (by rw [<-b9.1]; exact Nat.le_trans hv_l.cap hv_l.max)
 refine zd (zb (yp (h:=(yp (h:=(ze (za (zd (zd (zb (yp (h:=(ze (za (WC.block (zd (zb (zg rfl (jf (v:=⟨.iface 61 (.pointer (some ⟨g_v,0,none⟩)),rfl⟩) Tryz.underlying61 rfl rfl rfl) (yp (h:=(yp (h:=(ze (za (zm rfl (fun _=>zd (zb (yp (h:=(ze (za (zd (zb (yp (h:=(yp (h:=(zg rfl (z9 (o:=0) (by kernel_rfl) rfl) (zg rfl (zz qD hv rfl rfl rfl) (zx rfl rfl (jp hv_l rfl b9 H) ?_))))))))))))))) (fun h=>by cases h))))))))))))))))))))))))))
 rintro _ w1 ⟨hg1,t2,n1,n2,m9,rfl,ht2,m8,ho1,dj1,H⟩
 have hb1:=ht2.ge'
 exact yp (h:=(yp (h:=(ze (za (zt (zj (zf (z8 rfl rfl rfl ⟨hg1,t2,n1,n2,m9,true,rfl,(ht2.base (fun g hg=>Nat.le_trans (Nat.le_refl _) (hb1 g hg))),m8,(fun p_ hp_ v0_=>have q_:=v0_; ho1 p_ (fun g_ e_=>Nat.lt_of_lt_of_le (hp_ g_ e_) (Nat.le_refl _)) (q_)),dj1,H⟩)))))))))
set_option maxHeartbeats 8000000 in
theorem W_val_Items_List0 {w:World} {g_v:Nat} {v_l:List PV} {a4:Option Addr} {c5:Nat} {a7:List VH} {v_frozen:Bool} {v_over:Int} {d1:Nat} {K:(List PV)->Bool->Prop} (hv_l:Rd vv w a4 c5 a7) (d4:d1=v_l.length) (b9:RelD deV w a7 v_l) (hv:Bl w g_v 166 [.slice a4 d1 c5,.bool v_frozen,.int .i64 v_over]) (H:M_val_Items_List0 v_l v_frozen v_over K):Fn Tryz.prog 39 ⟨[.iface 61 (.pointer (some ⟨g_v,0,none⟩))]⟩ w (fun v w'=>w.grownBy w' none/\∃ (r0:List PV),∃ (f4:Option Addr),∃ (h7:Nat),∃ (e0:List VH),∃ (r1:Bool),v=.tuple #[.slice f4 r0.length h7,.bool r1]/\Own vv w' w.heap.size 32 f4 h7 e0/\RelD deV w' e0 r0/\(∀ p:Option Nat,Lt p w.heap.size->DnD deV a7 v_l p->DnD deV e0 r0 p)/\DnD deV e0 r0 (blk f4)/\K r0 r1):=by
 subst d4
 unfold M_val_Items_List0 at H
 refine Fn.enter (by kernel_rfl) Tryz.func39 rfl Tryz.ntmps39 rfl ?_
 replace H:=H (by rw [<-b9.1]; exact Nat.le_trans hv_l.cap hv_l.max)
 refine zd (zb (yp (h:=(yp (h:=(ze (za (zd (zb (yp (h:=(zx rfl rfl (W_val_items_List0 hv_l rfl b9 hv H) ?_))))))))))))
 rintro _ w1 ⟨hg1,t50,m4,m6,l9,t51,rfl,ht50,l7,ho1,dj1,H⟩
 have hb1:=ht50.ge'
 exact yp (h:=(yp (h:=(yp (h:=(yp (h:=(ze (za (zt (z8 rfl rfl rfl ⟨hg1,t50,m4,m6,l9,t51,rfl,(ht50.base (fun g hg=>Nat.le_trans (Nat.le_refl _) (hb1 g hg))),l7,(fun p_ hp_ v0_=>have q_:=v0_; ho1 p_ (fun g_ e_=>Nat.lt_of_lt_of_le (hp_ g_ e_) (Nat.le_refl _)) (q_)),dj1,H⟩)))))))))))
set_option maxHeartbeats 8000000 in
theorem W_val_hold_List0 {w:World} {g_v:Nat} {v_l:List PV} {a4:Option Addr} {c5:Nat} {a7:List VH} {v_frozen:Bool} {v_over:Int} {by_:Int} {d1:Nat} {K:(List PV)->Bool->Int->Prop} (hv_l:Own vv w 0 32 a4 c5 a7) (d4:d1=v_l.length) (b9:RelD deV w a7 v_l) (hv:Bl w g_v 166 [.slice a4 d1 c5,.bool v_frozen,.int .i64 v_over]) (hdj0_1:Dj (some g_v) (blk a4)) (hap0:AllP (DnD deV a7 v_l) [(some g_v),(blk a4)]) (H:M_val_hold_List0 v_l v_frozen v_over by_ K):Fn Tryz.prog 152 ⟨[.iface 61 (.pointer (some ⟨g_v,0,none⟩)),.int .i64 by_]⟩ w (fun v w'=>GrL [(some g_v),(blk a4)] w w'/\∃ (v_l2:List PV),∃ (a6:Option Addr),∃ (c6:Nat),∃ (a2:List VH),∃ (v_frozen2:Bool),∃ (v_over2:Int),v=.tuple #[]/\Bl w' g_v 166 [.slice a6 v_l2.length c6,.bool v_frozen2,.int .i64 v_over2]/\Own vv w' 0 32 a6 c6 a2/\InP [(some g_v),(blk a4)] w.heap.size (blk a6)/\RelD deV w' a2 v_l2/\(∀ p:Option Nat,Lt p w.heap.size->DnD deV a7 v_l p->DnD deV a2 v_l2 p)/\Dj (some g_v) (blk a6)/\DnD deV a2 v_l2 (some g_v)/\DnD deV a2 v_l2 (blk a6)/\K v_l2 v_frozen2 v_over2):=by
 subst d4
 unfold M_val_hold_List0 at H
 refine Fn.enter (by kernel_rfl) Tryz.func152 rfl Tryz.ntmps152 rfl ?_
 replace H:=H (by rw [<-b9.1]; exact Nat.le_trans hv_l.rd.cap hv_l.rd.max)
 have hNoAt:AllP (NoAt w) [(some g_v),(blk a4)]:=(apC (NoAt.bl hv rfl) (apC (NoAt.own hv_l rfl) apN))
 refine zd (zb (yp (h:=(ze (za (WC.block (zd (zb (zg rfl (jf (v:=⟨.iface 61 (.pointer (some ⟨g_v,0,none⟩)),rfl⟩) Tryz.underlying61 rfl rfl rfl) (yp (h:=(yp (h:=(ze (za (zm rfl (fun _=>zd (zb (yp (h:=(ze (za (zb (yp (h:=(yp (h:=(zg rfl (z9 (o:=2) (by kernel_rfl) rfl) (zg rfl (zz qD hv rfl rfl rfl) (yp (h:=?_))))))))))))))) (fun h=>by cases h)))))))))))))))))
 obtain ⟨h1,H⟩:=H
 refine zg rfl (Yld.add rfl rfl h1) (yp (h:=(zg rfl (z9 (o:=2) (by kernel_rfl) rfl) (qp one3 rfl rfl rfl hv (by simp) (fun w1 hB2 hg1=>?_)))))
 have hB1:Bl w1 g_v 166 [.slice a4 v_l.length c5,.bool v_frozen,.int .i64 (v_over+by_)]:=hB2
 have gr1:GrL [(some g_v),(blk a4)] w w1:=GrL.mod (GrL.refl _) hg1 (InP.mem (List.Mem.head _))
 exact ze (zi (qd rfl ⟨gr1,v_l,a4,c5,a7,v_frozen,v_over+by_,rfl,hB1,(hv_l.go hg1 hdj0_1.symm),(InP.mem (List.Mem.tail _ (List.Mem.head _))),(b9.go hg1 (hap0 _ (List.Mem.head _))),(fun p_ hp_ v0_=>have q_:=v0_; q_),hdj0_1,(hap0 _ (List.Mem.head _)),(hap0 _ (List.Mem.tail _ (List.Mem.head _))),H⟩))
set_option maxHeartbeats 8000000 in
theorem W_val_Hold_List0 {w:World} {g_v:Nat} {v_l:List PV} {a4:Option Addr} {c5:Nat} {a7:List VH} {v_frozen:Bool} {v_over:Int} {by_:Int} {d1:Nat} {K:(List PV)->Bool->Int->Prop} (hv_l:Own vv w 0 32 a4 c5 a7) (d4:d1=v_l.length) (b9:RelD deV w a7 v_l) (hv:Bl w g_v 166 [.slice a4 d1 c5,.bool v_frozen,.int .i64 v_over]) (hdj0_1:Dj (some g_v) (blk a4)) (hap0:AllP (DnD deV a7 v_l) [(some g_v),(blk a4)]) (H:j9 v_l v_frozen v_over by_ K):Fn Tryz.prog 87 ⟨[.iface 61 (.pointer (some ⟨g_v,0,none⟩)),.int .i64 by_]⟩ w (fun v w'=>GrL [(some g_v),(blk a4)] w w'/\∃ (v_l2:List PV),∃ (a6:Option Addr),∃ (c6:Nat),∃ (a2:List VH),∃ (v_frozen2:Bool),∃ (v_over2:Int),v=.tuple #[]/\Bl w' g_v 166 [.slice a6 v_l2.length c6,.bool v_frozen2,.int .i64 v_over2]/\Own vv w' 0 32 a6 c6 a2/\InP [(some g_v),(blk a4)] w.heap.size (blk a6)/\RelD deV w' a2 v_l2/\(∀ p:Option Nat,Lt p w.heap.size->DnD deV a7 v_l p->DnD deV a2 v_l2 p)/\Dj (some g_v) (blk a6)/\DnD deV a2 v_l2 (some g_v)/\DnD deV a2 v_l2 (blk a6)/\K v_l2 v_frozen2 v_over2):=by
 subst d4
 unfold j9 at H
 refine Fn.enter (by kernel_rfl) Tryz.func87 rfl Tryz.ntmps87 rfl ?_
 replace H:=H (by rw [<-b9.1]; exact Nat.le_trans hv_l.rd.cap hv_l.rd.max)
 have hNoAt:AllP (NoAt w) [(some g_v),(blk a4)]:=(apC (NoAt.bl hv rfl) (apC (NoAt.own hv_l rfl) apN))
 refine zb (yp (h:=(yp (h:=(zx rfl rfl (W_val_hold_List0 hv_l rfl b9 hv hdj0_1 (apC (hap0 _ (List.Mem.head _)) (apC (hap0 _ (List.Mem.tail _ (List.Mem.head _))) apN)) H) ?_)))))
 rintro _ w1 ⟨hgl1,v_,h6,l5,i2,v_2,v_3,rfl,hB1,hO1,hi1,hr1,ho1,dj1,dj2,dj3,H⟩
 have hi2:InP [(some g_v),(blk a4)] w.heap.size (blk h6):=InP.trans hi1 (apC (InP.mem (List.Mem.head _)) (apC (InP.mem (List.Mem.tail _ (List.Mem.head _))) apN)) (Nat.le_refl _)
 have gr1:GrL [(some g_v),(blk a4)] w w1:=GrL.modL (GrL.refl _) hgl1 (apC (InP.mem (List.Mem.head _)) (apC (InP.mem (List.Mem.tail _ (List.Mem.head _))) apN))
 have k1:=b9.goL hgl1 (apC (hap0 _ (List.Mem.head _)) (apC (hap0 _ (List.Mem.tail _ (List.Mem.head _))) apN))
 exact ze (qd rfl ⟨gr1,v_,h6,l5,i2,v_2,v_3,rfl,hB1,hO1,hi2,hr1,(fun p_ hp_ v0_=>have q_:=v0_; ho1 p_ (fun g_ e_=>Nat.lt_of_lt_of_le (hp_ g_ e_) (Nat.le_refl _)) (q_)),dj1,dj2,dj3,H⟩)
set_option maxHeartbeats 8000000 in
theorem jg {S:List Nat} {w:World} {g_v:Nat} {v_l:List PV} {a4:Option Addr} {c5:Nat} {a7:List VH} {v_frozen:Bool} {v_over:Int} {d1:Nat} {K0:Er->(List PV)->Bool->Int->Prop} {K:(List PV)->Int->Bool->Bool->Er->(List PV)->Bool->Int->Prop} (hv_l:Own vv w 0 32 a4 c5 a7) (d4:d1=v_l.length) (b9:RelD deV w a7 v_l) (hv:Bl w g_v 166 [.slice a4 d1 c5,.bool v_frozen,.int .i64 v_over]) (hdj0_1:Dj (some g_v) (blk a4)) (hap0:AllP (DnD deV a7 v_l) [(some g_v),(blk a4)]) (H:qX v_l v_frozen v_over K0 K):Fn Tryz.prog 30 ⟨[.iface 61 (.pointer (some ⟨g_v,0,none⟩))]⟩ w (fun v w'=>GrL [(some g_v),(blk a4)] w w'/\((∃ (v_r12:Value),∃ (r12:Er),∃ (v_l2:List PV),∃ (a6:Option Addr),∃ (c6:Nat),∃ (a2:List VH),∃ (v_frozen2:Bool),∃ (v_over2:Int),v=.tuple #[.pointer none,v_r12]/\ErrR S w' v_r12 r12/\Bl w' g_v 166 [.slice a6 v_l2.length c6,.bool v_frozen2,.int .i64 v_over2]/\Own vv w' 0 32 a6 c6 a2/\InP [(some g_v),(blk a4)] w.heap.size (blk a6)/\RelD deV w' a2 v_l2/\(∀ p:Option Nat,Lt p w.heap.size->DnD deV a7 v_l p->DnD deV a2 v_l2 p)/\Dj (some g_v) (blk a6)/\DnD deV a2 v_l2 (some g_v)/\DnD deV a2 v_l2 (blk a6)/\K0 r12 v_l2 v_frozen2 v_over2)∨(∃ (f1:Nat),∃ (e9:List PV),∃ (d6:Option Addr),∃ (h8:Nat),∃ (c9:List VH),∃ (l1:Int),∃ (f3:Bool),∃ (g8:Bool),∃ (v_r1:Value),∃ (r1:Er),∃ (v_l2:List PV),∃ (a6:Option Addr),∃ (c6:Nat),∃ (a2:List VH),∃ (v_frozen2:Bool),∃ (v_over2:Int),v=.tuple #[.pointer (some ⟨f1,0,none⟩),v_r1]/\Own vv w' w.heap.size 32 d6 h8 c9/\RelD deV w' c9 e9/\(∀ p:Option Nat,Lt p w.heap.size->DnD deV a7 v_l p->DnD deV c9 e9 p)/\DnD deV c9 e9 (blk d6)/\ErrR S w' v_r1 r1/\Bl w' f1 168 [.iface 61 (.pointer (some ⟨g_v,0,none⟩)),.slice d6 e9.length h8,.int .i64 l1,.bool f3,.bool g8]/\Ge (some f1) w.heap.size/\DnD deV c9 e9 (blk d6)/\DnD deV c9 e9 (some f1)/\Dj (blk d6) (some f1)/\Bl w' g_v 166 [.slice a6 v_l2.length c6,.bool v_frozen2,.int .i64 v_over2]/\Own vv w' 0 32 a6 c6 a2/\InP [(some g_v),(blk a4)] w.heap.size (blk a6)/\RelD deV w' a2 v_l2/\(∀ p:Option Nat,Lt p w.heap.size->DnD deV a7 v_l p->DnD deV a2 v_l2 p)/\Dj (some g_v) (blk a6)/\DnD deV a2 v_l2 (some g_v)/\DnD deV a2 v_l2 (blk a6)/\Dj (blk d6) (some g_v)/\Dj (blk d6) (blk a6)/\Dj (some f1) (some g_v)/\Dj (some f1) (blk a6)/\DnD deV c9 e9 (some g_v)/\DnD deV c9 e9 (blk a6)/\DnD deV a2 v_l2 (blk d6)/\DnD deV a2 v_l2 (some f1)/\K e9 l1 f3 g8 r1 v_l2 v_frozen2 v_over2))):=by
 subst d4
 unfold qX at H
 refine Fn.enter (by kernel_rfl) Tryz.func30 rfl Tryz.ntmps30 rfl ?_
 replace H:=H (by rw [<-b9.1]; exact Nat.le_trans hv_l.rd.cap hv_l.rd.max)
 have hNoAt:AllP (NoAt w) [(some g_v),(blk a4)]:=(apC (NoAt.bl hv rfl) (apC (NoAt.own hv_l rfl) apN))
 refine zd (zb (yp (h:=(yp (h:=(ze (za (zd (zb (yp (h:=?_)))))))))))
 have hv1:RelD deV w [(vnil,noF)] [PV.nil]:=deV_nil
 refine zg rfl (z6 (us:=[.iface 61 (.pointer (some ⟨g_v,0,none⟩)),.slice none 0 0,.int .i64 (0:Int),.bool false,.bool false]) zero168 places168 rfl rfl) (qn (us:=[.iface 61 (.pointer (some ⟨g_v,0,none⟩)),.slice none 0 0,.int .i64 (0:Int),.bool false,.bool false]) rfl rfl rfl (fun g1 w1 hB1 hg1 hl1=>yp (h:=(ze (za (zd (zd (zb (yp (h:=(qB rfl rfl (fun w=>by kernel_rfl) rfl (kindL_fn (u:=.pointer (some ⟨g_v,0,none⟩))) ?_)))))))))))
 rintro _ w2 ⟨hg2,rfl⟩
 have gr2:=GrL.add0 ((GrL.of0 (ps:=[(some g_v),(blk a4)]) hg1)) hg2
 have k4:=(hv_l.grown hg1).grown hg2
 have k5:=(b9.grown hg1).grown hg2
 have k6:=(hv.g0 hg1).g0 hg2
 have k7:=hB1.g0 hg2
 refine ze (za (WC.block (zd (zd (zb (yp (h:=(yp (h:=(ze (za (zm rfl (fun _=>zo (za (zm rfl (fun _=>zb (yp (h:=(yp (h:=(zx rfl rfl (W_val_Items_List0 k4.rd rfl k5 k6 H) ?_)))))) (fun h=>by cases h)))) (fun h=>by cases h)))))))))))))
 rintro _ w3 ⟨hg3,t180,h5,h9,i7,t181,rfl,ht180,i5,ho1,dj1,H⟩
 have hb1:=ht180.ge'
 refine yp (h:=(yp (h:=(yp (h:=(yp (h:=(yp (h:=(qp one27 rfl rfl rfl (k7.g0 hg3) (by simp) (fun w4 hB3 hg4=>?_)))))))))))
 have hB2:Bl w4 g1 168 [.iface 61 (.pointer (some ⟨g_v,0,none⟩)),.slice h5 t180.length h9,.int .i64 (0:Int),.bool false,.bool false]:=hB3
 have gr4:GrL [(some g_v),(blk a4)] w w4:=GrL.mod (GrL.add0 gr2 hg3) hg4 (InP.ge (Ge.le (Ge.box hl1) (Nat.le_refl _)))
 have k14:=(k5.grown hg3).go hg4 (b9.new (Ge.box hl1))
 have k16:=(ht180.base (fun g hg=>Nat.le_trans (GrL.sizeL gr2) (hb1 g hg))).go hg4 ((Dj.new k7.lt' hb1).symm)
 have k17:=i5.go hg4 (ho1 _ k7.lt' (b9.new (Ge.box hl1)))
 refine ze (zi (za (zd (zb (yp (h:=(zx rfl rfl (W_val_Hold_List0 ((k4.grown hg3).go hg4 (Dj.new hv_l.lt' (Ge.box hl1))) rfl k14 ((k6.g0 hg3).go hg4 (Dj.new hv.lt' (Ge.box hl1))) hdj0_1 (apC (hap0 _ (List.Mem.head _)) (apC (hap0 _ (List.Mem.tail _ (List.Mem.head _))) apN)) H) ?_)))))))
 rintro _ w5 ⟨hgl1,v_,h6,l5,i2,v_2,v_3,rfl,hB4,hO1,hi1,hr1,ho2,dj2,dj3,dj4,H⟩
 have hi2:InP [(some g_v),(blk a4)] w.heap.size (blk h6):=InP.trans hi1 (apC (InP.mem (List.Mem.head _)) (apC (InP.mem (List.Mem.tail _ (List.Mem.head _))) apN)) (GrL.sizeL gr4)
 have gr5:GrL [(some g_v),(blk a4)] w w5:=GrL.modL gr4 hgl1 (apC (InP.mem (List.Mem.head _)) (apC (InP.mem (List.Mem.tail _ (List.Mem.head _))) apN))
 have k18:=k14.goL hgl1 (apC (hap0 _ (List.Mem.head _)) (apC (hap0 _ (List.Mem.tail _ (List.Mem.head _))) apN))
 refine ze (za (zd (zb (yp (h:=(yp (h:=(yp (h:=(ze (za (zt ?_))))))))))))
 exact z8 rfl rfl rfl ⟨gr5,Or.inr ⟨g1,t180,h5,h9,i7,(0:Int),false,false,.nilIface,Er.ok,v_,h6,l5,i2,v_2,v_3,rfl,(k16.goL hgl1 (apC (Dj.new k6.lt' hb1).symm (apC (Dj.new k4.lt' hb1).symm apN))),(k17.goL hgl1 (apC (ho1 _ k6.lt' (hap0 _ (List.Mem.head _))) (apC (ho1 _ k4.lt' (hap0 _ (List.Mem.tail _ (List.Mem.head _)))) apN))),(fun p_ hp_ v0_=>have q_:=v0_; ho1 p_ (fun g_ e_=>Nat.lt_of_lt_of_le (hp_ g_ e_) (GrL.sizeL gr2)) (q_)),dj1,(ErrR.okR (S:=S) (w:=w5)),(hB2.goL hgl1 (apC (Dj.new hv.lt' (Ge.box hl1)).symm (apC (Dj.new hv_l.lt' (Ge.box hl1)).symm apN))),(Ge.le (Ge.box hl1) (Nat.le_refl _)),dj1,(ho1 _ k7.lt' (b9.new (Ge.box hl1))),(Dj.new k7.lt' hb1).symm,hB4,hO1,hi2,hr1,(fun p_ hp_ v0_=>have q_:=v0_; ho2 p_ (fun g_ e_=>Nat.lt_of_lt_of_le (hp_ g_ e_) (GrL.sizeL gr4)) (q_)),dj2,dj3,dj4,(Dj.new k6.lt' hb1).symm,(InP.dj hi1 k16.lt' (apC (Dj.new k6.lt' hb1).symm (apC (Dj.new k4.lt' hb1).symm apN))).symm,(Dj.new hv.lt' (Ge.box hl1)).symm,(InP.dj hi1 hB2.lt' (apC (Dj.new hv.lt' (Ge.box hl1)).symm (apC (Dj.new hv_l.lt' (Ge.box hl1)).symm apN))).symm,(ho1 _ k6.lt' (hap0 _ (List.Mem.head _))),(RelD.inp k17 (apC (ho1 _ k6.lt' (hap0 _ (List.Mem.head _))) (apC (ho1 _ k4.lt' (hap0 _ (List.Mem.tail _ (List.Mem.head _)))) apN)) hi1),(ho2 _ k16.lt' (k5.new hb1)),(ho2 _ hB2.lt' (b9.new (Ge.box hl1))),H⟩⟩
set_option maxHeartbeats 8000000 in
theorem ja {w:World} {g_o:Nat} {a5:Nat} {o_v_l:List PV} {a0:Option Addr} {d2:Nat} {c1:List VH} {o_v_frozen:Bool} {o_v_over:Int} {o_l:List PV} {d5:Option Addr} {d9:Nat} {c8:List VH} {o_at:Int} {o_ended:Bool} {o_Paid:Bool} {e1:Nat} {f2:Nat} {K:Int->Bool->Bool->(List PV)->Bool->Int->Prop} (ho_v_l:Own vv w 0 32 a0 d2 c1) (e4:e1=o_v_l.length) (c7:RelD deV w c1 o_v_l) (ho_v:Bl w a5 166 [.slice a0 e1 d2,.bool o_v_frozen,.int .i64 o_v_over]) (ho_l:Rd vv w d5 d9 c8) (f8:f2=o_l.length) (g3:RelD deV w c8 o_l) (ho:Bl w g_o 168 [.iface 61 (.pointer (some ⟨a5,0,none⟩)),.slice d5 f2 d9,.int .i64 o_at,.bool o_ended,.bool o_Paid]) (hdj0_1:Dj (some g_o) (some a5)) (hdj0_2:Dj (some g_o) (blk a0)) (hdj1_2:Dj (some a5) (blk a0)) (hap0:AllP (DnD deV c1 o_v_l) [(some g_o),(some a5),(blk a0)]) (hap1:AllP (Dn c8 (blk d5)) [(some g_o),(some a5),(blk a0)]) (hap2:AllP (DnD deV c8 o_l) [(some g_o),(some a5),(blk a0)]) (H:qP o_v_l o_v_frozen o_v_over o_l o_at o_ended o_Paid K):Fn Tryz.prog 34 ⟨[.pointer (some ⟨g_o,0,none⟩)]⟩ w (fun v w'=>GrL [(some g_o),(some a5),(blk a0)] w w'/\∃ (o_at2:Int),∃ (o_ended2:Bool),∃ (o_Paid2:Bool),∃ (o_v_l2:List PV),∃ (b7:Option Addr),∃ (d8:Nat),∃ (a9:List VH),∃ (o_v_frozen2:Bool),∃ (o_v_over2:Int),v=.tuple #[]/\Bl w' g_o 168 [.iface 61 (.pointer (some ⟨a5,0,none⟩)),.slice d5 o_l.length d9,.int .i64 o_at2,.bool o_ended2,.bool o_Paid2]/\Bl w' a5 166 [.slice b7 o_v_l2.length d8,.bool o_v_frozen2,.int .i64 o_v_over2]/\Own vv w' 0 32 b7 d8 a9/\InP [(some g_o),(some a5),(blk a0)] w.heap.size (blk b7)/\RelD deV w' a9 o_v_l2/\(∀ p:Option Nat,Lt p w.heap.size->DnD deV c1 o_v_l p->DnD deV c8 o_l p->DnD deV a9 o_v_l2 p)/\Dj (some g_o) (some a5)/\Dj (some g_o) (blk b7)/\Dj (some a5) (blk b7)/\DnD deV a9 o_v_l2 (some g_o)/\DnD deV a9 o_v_l2 (some a5)/\DnD deV a9 o_v_l2 (blk b7)/\K o_at2 o_ended2 o_Paid2 o_v_l2 o_v_frozen2 o_v_over2):=by
 subst e4
 subst f8
 unfold qP at H
 refine Fn.enter (by kernel_rfl) Tryz.func34 rfl Tryz.ntmps34 rfl ?_
 replace H:=H (by rw [<-c7.1]; exact Nat.le_trans ho_v_l.rd.cap ho_v_l.rd.max)
 replace H:=H (by rw [<-g3.1]; exact Nat.le_trans ho_l.cap ho_l.max)
 have hNoAt:AllP (NoAt w) [(some g_o),(some a5),(blk a0)]:=(apC (NoAt.bl ho rfl) (apC (NoAt.bl ho_v rfl) (apC (NoAt.own ho_v_l rfl) apN)))
 refine zd (zb (yp (h:=(yp (h:=(yp (h:=(zg rfl (zz qD ho rfl rfl rfl) (yp (h:=(ze (za (zm rfl (fun b1=>?_) (fun b1=>?_))))))))))))))
 ·replace H:=H.1 (b1)
  refine zd (zb (yp (h:=(yp (h:=(yp (h:=(qp one4 rfl rfl rfl ho (by simp) (fun w1 hB2 hg1=>?_)))))))))
  have hB1:Bl w1 g_o 168 [.iface 61 (.pointer (some ⟨a5,0,none⟩)),.slice d5 o_l.length d9,.int .i64 o_at,.bool true,.bool o_Paid]:=hB2
  have gr1:GrL [(some g_o),(some a5),(blk a0)] w w1:=GrL.mod (GrL.refl _) hg1 (InP.mem (List.Mem.head _))
  have k2:=c7.go hg1 (hap0 _ (List.Mem.head _))
  refine ze (za (zb (yp (h:=(yp (h:=(yp (h:=(zg rfl (zz qD hB1 rfl rfl rfl) (zx rfl rfl (W_val_Hold_List0 (ho_v_l.go hg1 hdj0_2.symm) rfl k2 (ho_v.go hg1 hdj0_1.symm) hdj1_2 (apC (hap0 _ (List.Mem.tail _ (List.Mem.head _))) (apC (hap0 _ (List.Mem.tail _ (List.Mem.tail _ (List.Mem.head _)))) apN)) H) ?_))))))))))
  rintro _ w2 ⟨hgl1,o_v_,e3,f6,e8,o_v_2,o_v_3,rfl,hB3,hO1,hi1,hr1,ho1,dj1,dj2,dj3,H⟩
  have hi2:InP [(some g_o),(some a5),(blk a0)] w.heap.size (blk e3):=InP.trans hi1 (apC (InP.mem (List.Mem.tail _ (List.Mem.head _))) (apC (InP.mem (List.Mem.tail _ (List.Mem.tail _ (List.Mem.head _)))) apN)) (GrL.sizeL gr1)
  have gr2:GrL [(some g_o),(some a5),(blk a0)] w w2:=GrL.modL gr1 hgl1 (apC (InP.mem (List.Mem.tail _ (List.Mem.head _))) (apC (InP.mem (List.Mem.tail _ (List.Mem.tail _ (List.Mem.head _)))) apN))
  have k4:=k2.goL hgl1 (apC (hap0 _ (List.Mem.tail _ (List.Mem.head _))) (apC (hap0 _ (List.Mem.tail _ (List.Mem.tail _ (List.Mem.head _)))) apN))
  exact ze (qd rfl ⟨gr2,o_at,true,o_Paid,o_v_,e3,f6,e8,o_v_2,o_v_3,rfl,(hB1.goL hgl1 (apC hdj0_1 (apC hdj0_2 apN))),hB3,hO1,hi2,hr1,(fun p_ hp_ v0_ v1_=>have q_:=And.intro v0_ v1_; ho1 p_ (fun g_ e_=>Nat.lt_of_lt_of_le (hp_ g_ e_) (GrL.sizeL gr1)) (q_.1)),hdj0_1,(InP.dj hi1 hB1.lt' (apC hdj0_1 (apC hdj0_2 apN))).symm,dj1,(ho1 _ hB1.lt' (hap0 _ (List.Mem.head _))),dj2,dj3,H⟩)
 ·replace H:=H.2 (b1)
  exact zo (qd rfl ⟨(GrL.refl _),o_at,o_ended,o_Paid,o_v_l,a0,d2,c1,o_v_frozen,o_v_over,rfl,ho,ho_v,ho_v_l,(InP.mem (List.Mem.tail _ (List.Mem.tail _ (List.Mem.head _)))),c7,(fun p_ hp_ v0_ v1_=>have q_:=And.intro v0_ v1_; q_.1),hdj0_1,hdj0_2,hdj1_2,(hap0 _ (List.Mem.head _)),(hap0 _ (List.Mem.tail _ (List.Mem.head _))),(hap0 _ (List.Mem.tail _ (List.Mem.tail _ (List.Mem.head _)))),H⟩)
set_option maxHeartbeats 8000000 in
theorem WQ_plist_Over_End_List0 {w:World} {g_o:Nat} {a5:Nat} {o_v_l:List PV} {a0:Option Addr} {d2:Nat} {c1:List VH} {o_v_frozen:Bool} {o_v_over:Int} {o_l:List PV} {d5:Option Addr} {d9:Nat} {c8:List VH} {o_at:Int} {o_ended:Bool} {o_Paid:Bool} {e1:Nat} {f2:Nat} {K:Int->Bool->Bool->(List PV)->Bool->Int->Prop} (ho_v_l:Own vv w 0 32 a0 d2 c1) (e4:e1=o_v_l.length) (c7:RelD deV w c1 o_v_l) (ho_v:Bl w a5 166 [.slice a0 e1 d2,.bool o_v_frozen,.int .i64 o_v_over]) (ho_l:Rd vv w d5 d9 c8) (f8:f2=o_l.length) (g3:RelD deV w c8 o_l) (ho:Bl w g_o 168 [.iface 61 (.pointer (some ⟨a5,0,none⟩)),.slice d5 f2 d9,.int .i64 o_at,.bool o_ended,.bool o_Paid]) (hdj0_1:Dj (some g_o) (some a5)) (hdj0_2:Dj (some g_o) (blk a0)) (hdj1_2:Dj (some a5) (blk a0)) (hap0:AllP (DnD deV c1 o_v_l) [(some g_o),(some a5),(blk a0)]) (hap1:AllP (Dn c8 (blk d5)) [(some g_o),(some a5),(blk a0)]) (hap2:AllP (DnD deV c8 o_l) [(some g_o),(some a5),(blk a0)]) (H:qP o_v_l o_v_frozen o_v_over o_l o_at o_ended o_Paid K):FnQ Tryz.prog 34 ⟨[.pointer (some ⟨g_o,0,none⟩)]⟩ w (fun v w'=>GrL [(some g_o),(some a5),(blk a0)] w w'/\∃ (o_at2:Int),∃ (o_ended2:Bool),∃ (o_Paid2:Bool),∃ (o_v_l2:List PV),∃ (b7:Option Addr),∃ (d8:Nat),∃ (a9:List VH),∃ (o_v_frozen2:Bool),∃ (o_v_over2:Int),v=.tuple #[]/\Bl w' g_o 168 [.iface 61 (.pointer (some ⟨a5,0,none⟩)),.slice d5 o_l.length d9,.int .i64 o_at2,.bool o_ended2,.bool o_Paid2]/\Bl w' a5 166 [.slice b7 o_v_l2.length d8,.bool o_v_frozen2,.int .i64 o_v_over2]/\Own vv w' 0 32 b7 d8 a9/\InP [(some g_o),(some a5),(blk a0)] w.heap.size (blk b7)/\RelD deV w' a9 o_v_l2/\(∀ p:Option Nat,Lt p w.heap.size->DnD deV c1 o_v_l p->DnD deV c8 o_l p->DnD deV a9 o_v_l2 p)/\Dj (some g_o) (some a5)/\Dj (some g_o) (blk b7)/\Dj (some a5) (blk b7)/\DnD deV a9 o_v_l2 (some g_o)/\DnD deV a9 o_v_l2 (some a5)/\DnD deV a9 o_v_l2 (blk b7)/\K o_at2 o_ended2 o_Paid2 o_v_l2 o_v_frozen2 o_v_over2):=by
 subst e4
 subst f8
 unfold qP at H
 refine FnQ.enter (by kernel_rfl) Tryz.func34 rfl Tryz.ntmps34 rfl ?_
 replace H:=H (by rw [<-c7.1]; exact Nat.le_trans ho_v_l.rd.cap ho_v_l.rd.max)
 replace H:=H (by rw [<-g3.1]; exact Nat.le_trans ho_l.cap ho_l.max)
 have hNoAt:AllP (NoAt w) [(some g_o),(some a5),(blk a0)]:=(apC (NoAt.bl ho rfl) (apC (NoAt.bl ho_v rfl) (apC (NoAt.own ho_v_l rfl) apN)))
 refine zd (zb (yp (h:=(yp (h:=(yp (h:=(zg rfl (zz qD ho rfl rfl rfl) (yp (h:=(ze (za (zm rfl (fun b1=>?_) (fun b1=>?_))))))))))))))
 ·replace H:=H.1 (b1)
  refine zd (zb (yp (h:=(yp (h:=(yp (h:=(qp one4 rfl rfl rfl ho (by simp) (fun w1 hB2 hg1=>?_)))))))))
  have hB1:Bl w1 g_o 168 [.iface 61 (.pointer (some ⟨a5,0,none⟩)),.slice d5 o_l.length d9,.int .i64 o_at,.bool true,.bool o_Paid]:=hB2
  have gr1:GrL [(some g_o),(some a5),(blk a0)] w w1:=GrL.mod (GrL.refl _) hg1 (InP.mem (List.Mem.head _))
  have k2:=c7.go hg1 (hap0 _ (List.Mem.head _))
  refine ze (za (zb (yp (h:=(yp (h:=(yp (h:=(zg rfl (zz qD hB1 rfl rfl rfl) (zx rfl rfl (W_val_Hold_List0 (ho_v_l.go hg1 hdj0_2.symm) rfl k2 (ho_v.go hg1 hdj0_1.symm) hdj1_2 (apC (hap0 _ (List.Mem.tail _ (List.Mem.head _))) (apC (hap0 _ (List.Mem.tail _ (List.Mem.tail _ (List.Mem.head _)))) apN)) H) ?_))))))))))
  rintro _ w2 ⟨hgl1,o_v_,e3,f6,e8,o_v_2,o_v_3,rfl,hB3,hO1,hi1,hr1,ho1,dj1,dj2,dj3,H⟩
  have hi2:InP [(some g_o),(some a5),(blk a0)] w.heap.size (blk e3):=InP.trans hi1 (apC (InP.mem (List.Mem.tail _ (List.Mem.head _))) (apC (InP.mem (List.Mem.tail _ (List.Mem.tail _ (List.Mem.head _)))) apN)) (GrL.sizeL gr1)
  have gr2:GrL [(some g_o),(some a5),(blk a0)] w w2:=GrL.modL gr1 hgl1 (apC (InP.mem (List.Mem.tail _ (List.Mem.head _))) (apC (InP.mem (List.Mem.tail _ (List.Mem.tail _ (List.Mem.head _)))) apN))
  have k4:=k2.goL hgl1 (apC (hap0 _ (List.Mem.tail _ (List.Mem.head _))) (apC (hap0 _ (List.Mem.tail _ (List.Mem.tail _ (List.Mem.head _)))) apN))
  exact ze (qd rfl ⟨gr2,o_at,true,o_Paid,o_v_,e3,f6,e8,o_v_2,o_v_3,rfl,(hB1.goL hgl1 (apC hdj0_1 (apC hdj0_2 apN))),hB3,hO1,hi2,hr1,(fun p_ hp_ v0_ v1_=>have q_:=And.intro v0_ v1_; ho1 p_ (fun g_ e_=>Nat.lt_of_lt_of_le (hp_ g_ e_) (GrL.sizeL gr1)) (q_.1)),hdj0_1,(InP.dj hi1 hB1.lt' (apC hdj0_1 (apC hdj0_2 apN))).symm,dj1,(ho1 _ hB1.lt' (hap0 _ (List.Mem.head _))),dj2,dj3,H⟩)
 ·replace H:=H.2 (b1)
  exact zo (qd rfl ⟨(GrL.refl _),o_at,o_ended,o_Paid,o_v_l,a0,d2,c1,o_v_frozen,o_v_over,rfl,ho,ho_v,ho_v_l,(InP.mem (List.Mem.tail _ (List.Mem.tail _ (List.Mem.head _)))),c7,(fun p_ hp_ v0_ v1_=>have q_:=And.intro v0_ v1_; q_.1),hdj0_1,hdj0_2,hdj1_2,(hap0 _ (List.Mem.head _)),(hap0 _ (List.Mem.tail _ (List.Mem.head _))),(hap0 _ (List.Mem.tail _ (List.Mem.tail _ (List.Mem.head _)))),H⟩)
set_option maxHeartbeats 8000000 in
theorem W_list_Extend {S:List Nat} {B:Nat} {w:World} {g_l:Nat} {l_l:List PV} {a1:Option Addr} {c4:Nat} {a3:List VH} {l_frozen:Bool} {l_over:Int} {x:List PV} {A_x:Option Addr} {c_x:Nat} {i3:List VH} {d0:Nat} {n_x:Nat} {K:Er->(List PV)->Bool->Int->Prop} (hG:GB S B w) (hB:B<=w.heap.size) (hP:AllP (fun p=>Ge p B) [(some g_l),(blk a1)]) (hS3:3∈S) (hS7:7∈S) (hl_l:Own vv w 0 32 a1 c4 a3) (d3:d0=l_l.length) (a8:RelD deV w a3 l_l) (hl:Bl w g_l 166 [.slice a1 d0 c4,.bool l_frozen,.int .i64 l_over]) (hx:Rd vv w A_x c_x i3) (n4:n_x=x.length) (i6:RelD deV w i3 x) (hdj0_1:Dj (some g_l) (blk a1)) (hap0:AllP (DnD deV a3 l_l) [(some g_l),(blk a1)]) (hap1:AllP (Dn i3 (blk A_x)) [(some g_l),(blk a1)]) (hap2:AllP (DnD deV i3 x) [(some g_l),(blk a1)]) (H:M_list_Extend l_l l_frozen l_over x K):Fn Tryz.prog 40 ⟨[.pointer (some ⟨g_l,0,none⟩),.slice A_x n_x c_x]⟩ w (fun v w'=>GrL [(some g_l),(blk a1)] w w'/\∃ (v_r:Value),∃ (r:Er),∃ (l_l2:List PV),∃ (c0:Option Addr),∃ (d7:Nat),∃ (b0:List VH),∃ (l_frozen2:Bool),∃ (l_over2:Int),v=v_r/\ErrR S w' v_r r/\Bl w' g_l 166 [.slice c0 l_l2.length d7,.bool l_frozen2,.int .i64 l_over2]/\Own vv w' 0 32 c0 d7 b0/\InP [(some g_l),(blk a1)] w.heap.size (blk c0)/\RelD deV w' b0 l_l2/\(∀ p:Option Nat,Lt p w.heap.size->DnD deV a3 l_l p->DnD deV i3 x p->DnD deV b0 l_l2 p)/\Dj (some g_l) (blk c0)/\DnD deV b0 l_l2 (some g_l)/\DnD deV b0 l_l2 (blk c0)/\K r l_l2 l_frozen2 l_over2):=by
 subst d3
 subst n4
 unfold M_list_Extend at H
 refine Fn.enter (by kernel_rfl) Tryz.func40 rfl Tryz.ntmps40 rfl ?_
 replace H:=H (by rw [<-a8.1]; exact Nat.le_trans hl_l.rd.cap hl_l.rd.max)
 replace H:=H (by rw [<-i6.1]; exact Nat.le_trans hx.cap hx.max)
 have hNoAt:AllP (NoAt w) [(some g_l),(blk a1)]:=(apC (NoAt.bl hl rfl) (apC (NoAt.own hl_l rfl) apN))
 refine zd (zb (yp (h:=(ze (za (zd (zd (zb (yp (h:=(zx rfl rfl (W_pval_List_Loose hl_l.rd rfl a8 hl H) ?_)))))))))))
 rintro _ _ ⟨rfl,t6,rfl,H⟩
 refine yp (h:=(ze (za (zm rfl (fun b1=>?_) (fun b1=>?_)))))
 ·replace H:=H.1 (b1)
  refine zd (zb ?_)
  obtain ⟨vE1,_,hE1⟩:=GOK.get hG.ok 3 0 hS3 rfl rfl
  exact zg rfl (Yld.cell qD (ErrR.cell hE1 rfl) rfl rfl) (yp (h:=(ze (za (zt (zf (zD rfl rfl ⟨(GrL.refl _),vE1,(Er.e 3),l_l,a1,c4,a3,l_frozen,l_over,rfl,hE1,hl,hl_l,(InP.mem (List.Mem.tail _ (List.Mem.head _))),a8,(fun p_ hp_ v0_ v1_=>have q_:=And.intro v0_ v1_; q_.1),hdj0_1,(hap0 _ (List.Mem.head _)),(hap0 _ (List.Mem.tail _ (List.Mem.head _))),H⟩)))))))
 ·replace H:=H.2 (b1)
  refine zo (za (zd (zd (zb (yp (h:=(yp (h:=(yp (h:=(zx rfl rfl (W_pval_List_Len hl_l.rd rfl a8 hl H) ?_)))))))))))
  rintro _ _ ⟨rfl,t12,rfl,H⟩
  obtain ⟨h1,H⟩:=H
  refine zg rfl (Yld.sub rfl rfl h1) (yp (h:=(ze (za (zm rfl (fun b2=>?_) (fun b2=>?_))))))
  ·replace H:=H.1 (of_decide_eq_true b2)
   refine zd (zb ?_)
   obtain ⟨vE2,_,hE2⟩:=GOK.get hG.ok 7 1 hS7 rfl rfl
   exact zg rfl (Yld.cell qD (ErrR.cell hE2 rfl) rfl rfl) (yp (h:=(ze (za (zt (zf (zD rfl rfl ⟨(GrL.refl _),vE2,(Er.e 7),l_l,a1,c4,a3,l_frozen,l_over,rfl,hE2,hl,hl_l,(InP.mem (List.Mem.tail _ (List.Mem.head _))),a8,(fun p_ hp_ v0_ v1_=>have q_:=And.intro v0_ v1_; q_.1),hdj0_1,(hap0 _ (List.Mem.head _)),(hap0 _ (List.Mem.tail _ (List.Mem.head _))),H⟩)))))))
  ·replace H:=H.2 (of_decide_eq_false b2)
   refine zo (za (zd (zb (yp (h:=(yp (h:=(zx rfl rfl (W_pval_List_Add hl_l rfl a8 hl hx rfl i6 hdj0_1 (apC (hap0 _ (List.Mem.head _)) (apC (hap0 _ (List.Mem.tail _ (List.Mem.head _))) apN)) (apC (InP.dn (InP.mem (List.Mem.head _)) (fun hx_=>hx.lt' hx_) hap1) (apC (InP.dn (InP.mem (List.Mem.tail _ (List.Mem.head _))) (fun hx_=>hx.lt' hx_) hap1) apN)) (apC (i6.inp hap2 (InP.mem (List.Mem.head _))) (apC (i6.inp hap2 (InP.mem (List.Mem.tail _ (List.Mem.head _)))) apN)) H) ?_))))))))
   rintro _ w1 ⟨hgl1,l_,h3,l3,i1,l_2,l_3,rfl,hB1,hO1,hi1,hr1,ho1,dj1,dj2,dj3,H⟩
   have hi2:InP [(some g_l),(blk a1)] w.heap.size (blk h3):=InP.trans hi1 (apC (InP.mem (List.Mem.head _)) (apC (InP.mem (List.Mem.tail _ (List.Mem.head _))) apN)) (Nat.le_refl _)
   have gr1:GrL [(some g_l),(blk a1)] w w1:=GrL.modL (GrL.refl _) hgl1 (apC (InP.mem (List.Mem.head _)) (apC (InP.mem (List.Mem.tail _ (List.Mem.head _))) apN))
   have k1:=a8.goL hgl1 (apC (hap0 _ (List.Mem.head _)) (apC (hap0 _ (List.Mem.tail _ (List.Mem.head _))) apN))
   exact ze (za (zd (zb (yp (h:=(ze (za (zt (zD rfl rfl ⟨gr1,.nilIface,Er.ok,l_,h3,l3,i1,l_2,l_3,rfl,(ErrR.okR (S:=S) (w:=w1)),hB1,hO1,hi2,hr1,(fun p_ hp_ v0_ v1_=>have q_:=And.intro v0_ v1_; ho1 p_ (fun g_ e_=>Nat.lt_of_lt_of_le (hp_ g_ e_) (Nat.le_refl _)) (q_.1) (q_.2)),dj1,dj2,dj3,H⟩)))))))))
set_option maxHeartbeats 8000000 in
theorem jk {S:List Nat} {B:Nat} {w:World} {g_l:Nat} {l_l:List PV} {a1:Option Addr} {c4:Nat} {a3:List VH} {l_frozen:Bool} {l_over:Int} {v_x:OV} {F_x:Nat->Prop} {x:PV} {d0:Nat} {K:Er->(List PV)->Bool->Int->Prop} (hG:GB S B w) (hB:B<=w.heap.size) (hP:AllP (fun p=>Ge p B) [(some g_l),(blk a1)]) (hS3:3∈S) (hS7:7∈S) (hl_l:Own vv w 0 32 a1 c4 a3) (d3:d0=l_l.length) (a8:RelD deV w a3 l_l) (hl:Bl w g_l 166 [.slice a1 d0 c4,.bool l_frozen,.int .i64 l_over]) (hx:RelD deV w [(v_x,F_x)] [x]) (hdj0_1:Dj (some g_l) (blk a1)) (hap0:AllP (DnD deV a3 l_l) [(some g_l),(blk a1)]) (hap1:AllP (DnD deV [(v_x,F_x)] [x]) [(some g_l),(blk a1)]) (H:jc l_l l_frozen l_over x K):Fn Tryz.prog 32 ⟨[.pointer (some ⟨g_l,0,none⟩),v_x.1]⟩ w (fun v w'=>GrL [(some g_l),(blk a1)] w w'/\∃ (v_r:Value),∃ (r:Er),∃ (l_l2:List PV),∃ (c0:Option Addr),∃ (d7:Nat),∃ (b0:List VH),∃ (l_frozen2:Bool),∃ (l_over2:Int),v=v_r/\ErrR S w' v_r r/\Bl w' g_l 166 [.slice c0 l_l2.length d7,.bool l_frozen2,.int .i64 l_over2]/\Own vv w' 0 32 c0 d7 b0/\InP [(some g_l),(blk a1)] w.heap.size (blk c0)/\RelD deV w' b0 l_l2/\(∀ p:Option Nat,Lt p w.heap.size->DnD deV a3 l_l p->DnD deV [(v_x,F_x)] [x] p->DnD deV b0 l_l2 p)/\Dj (some g_l) (blk c0)/\DnD deV b0 l_l2 (some g_l)/\DnD deV b0 l_l2 (blk c0)/\K r l_l2 l_frozen2 l_over2):=by
 subst d3
 unfold jc at H
 refine Fn.enter (by kernel_rfl) Tryz.func32 rfl Tryz.ntmps32 rfl ?_
 replace H:=H (by rw [<-a8.1]; exact Nat.le_trans hl_l.rd.cap hl_l.rd.max)
 have hNoAt:AllP (NoAt w) [(some g_l),(blk a1)]:=(apC (NoAt.bl hl rfl) (apC (NoAt.own hl_l rfl) apN))
 refine zd (zb (yp (h:=(ze (za (zd (zb (yp (h:=(yp (h:=(z5 (us:=[v_x.1]) qD rfl rfl rfl (qJ v_x.2 jl) rfl (by omega) (fun g2 w2 hB2 hg2 hl2=>?_)))))))))))))
 have hO2:Own vv w2 w.heap.size 32 (some ⟨g2,0,none⟩) 1 ([(v_x,F_x)]:List VH):=Own.ofBl hB2 (Nat.le_trans (Nat.le_refl _) hl2) (by simp [maxLen]) rfl
 have gr1:=(GrL.of0 (ps:=[(some g_l),(blk a1)]) hg2)
 have k2:=a8.grown hg2
 have hr1:RelD deV w2 ([(v_x,F_x)]:List VH) ([x]:List PV):=(RelD.cons (RelD.one (hx.goL gr1 hap1)) RelD.nil)
 have nd1:OrD (fun p=>DnD deV a3 l_l p/\DnD deV [(v_x,F_x)] [x] p) deV ([(v_x,F_x)]:List VH) ([x]:List PV) w.heap.size:=(OrD.cons (d:=deV) (fun p_ hp_ q_=>(DnD.one (q_.2))) (fun _ _ _=>DnD.nil))
 have dj1:DnD deV ([(v_x,F_x)]:List VH) ([x]:List PV) (blk a1):=(DnD.cons (d:=deV) (DnD.one (hx.inp hap1 (InP.mem (List.Mem.tail _ (List.Mem.head _))))) DnD.nil)
 have dj2:DnD deV ([(v_x,F_x)]:List VH) ([x]:List PV) (some g_l):=(DnD.cons (d:=deV) (DnD.one (hx.inp hap1 (InP.mem (List.Mem.head _)))) DnD.nil)
 have dj3:DnD deV ([(v_x,F_x)]:List VH) ([x]:List PV) (blk (some ⟨g2,0,none⟩)):=(DnD.cons (d:=deV) (DnD.one (hx.inp hap1 (InP.ge hO2.ge'))) DnD.nil)
 refine zx rfl rfl (W_list_Extend (hG.goL gr1 hP) (Nat.le_trans hB (GrL.sizeL gr1)) (apC (InP.toGe (InP.mem (List.Mem.head _)) hP hB) (apC (InP.toGe (InP.mem (List.Mem.tail _ (List.Mem.head _))) hP hB) apN)) hS3 hS7 (hl_l.grown hg2) rfl k2 (hl.g0 hg2) hO2.rd (rfl.trans hr1.1) hr1 hdj0_1 (apC (hap0 _ (List.Mem.head _)) (apC (hap0 _ (List.Mem.tail _ (List.Mem.head _))) apN)) (apC (Dn.of (Dj.new hl.lt' (Ge.box hl2)).symm) (apC (Dn.of (Dj.new hl_l.lt' (Ge.box hl2)).symm) apN)) (apC dj2 (apC dj1 apN)) H) ?_
 rintro v_t4 w3 ⟨hgl1,_,t4,l_,h3,l3,i1,l_2,l_3,rfl,ht4,hB3,hO3,hi1,hr2,ho1,dj4,dj5,dj6,H⟩
 have hi2:InP [(some g_l),(blk a1)] w.heap.size (blk h3):=InP.trans hi1 (apC (InP.mem (List.Mem.head _)) (apC (InP.mem (List.Mem.tail _ (List.Mem.head _))) apN)) (GrL.sizeL gr1)
 have gr2:GrL [(some g_l),(blk a1)] w w3:=GrL.modL gr1 hgl1 (apC (InP.mem (List.Mem.head _)) (apC (InP.mem (List.Mem.tail _ (List.Mem.head _))) apN))
 have k4:=k2.goL hgl1 (apC (hap0 _ (List.Mem.head _)) (apC (hap0 _ (List.Mem.tail _ (List.Mem.head _))) apN))
 exact yp (h:=(ze (za (zt (zD rfl rfl ⟨gr2,v_t4,t4,l_,h3,l3,i1,l_2,l_3,rfl,ht4,hB3,hO3,hi2,hr2,(fun p_ hp_ v0_ v1_=>have q_:=And.intro v0_ v1_; ho1 p_ (fun g_ e_=>Nat.lt_of_lt_of_le (hp_ g_ e_) (GrL.sizeL gr1)) (q_.1) (nd1 p_ hp_ q_)),dj4,dj5,dj6,H⟩)))))
set_option maxHeartbeats 8000000 in
theorem W_smithylaw12_first {S:List Nat} {w:World} {K:Bool->Prop} (hG:GOK S w) (hS0:0∈S) (hS1:1∈S) (hS2:2∈S) (hS3:3∈S) (hS4:4∈S) (hS5:5∈S) (hS6:6∈S) (hS7:7∈S) (hS8:8∈S) (hS9:9∈S) (hS10:10∈S) (hS11:11∈S) (hS12:12∈S) (hS13:13∈S) (hS14:14∈S) (hS15:15∈S) (hS16:16∈S) (H:j3  K):Fn Tryz.prog 27 ⟨[]⟩ w (fun v w'=>w.grownBy w' none/\∃ (r:Bool),v=.bool r/\K r):=by
 unfold j3 at H
 refine Fn.enter (by kernel_rfl) Tryz.func27 rfl Tryz.ntmps27 rfl ?_
 refine zd (zb (yp (h:=(ze (za (zd (zb (zx rfl rfl (qM H) ?_))))))))
 rintro _ w1 ⟨hg1,v_t8,F_t8,t8,rfl,ht8,ho1,H⟩
 have gr1:=hg1
 refine zx rfl rfl (qM H) ?_
 rintro _ w2 ⟨hg2,v_t9,F_t9,t9,rfl,ht9,ho2,H⟩
 have gr2:=qG gr1 hg2
 refine zx rfl rfl (qM H) ?_
 rintro _ w3 ⟨hg3,v_t10,F_t10,t10,rfl,ht10,ho3,H⟩
 have gr3:=qG gr2 hg3
 have k2:=(ht8.grown hg2).grown hg3
 have k3:=ht9.grown hg3
 refine z5 (us:=[v_t8.1,v_t9.1,v_t10.1]) qD rfl rfl rfl (qJ v_t8.2 (qJ v_t9.2 (qJ v_t10.2 jl))) rfl (by omega) (fun g2 w5 hB2 hg5 hl2=>?_)
 have hO2:Own vv w5 w.heap.size 32 (some ⟨g2,0,none⟩) 3 ([(v_t8,F_t8),(v_t9,F_t9),(v_t10,F_t10)]:List VH):=Own.ofBl hB2 (Nat.le_trans (qE gr3) hl2) (by simp [maxLen]) rfl
 have gr4:=qG gr3 hg5
 have hr1:RelD deV w5 ([(v_t8,F_t8),(v_t9,F_t9),(v_t10,F_t10)]:List VH) ([t8,t9,t10]:List PV):=(RelD.cons (RelD.one (k2.grown hg5)) (RelD.cons (RelD.one (k3.grown hg5)) (RelD.cons (RelD.one (ht10.grown hg5)) RelD.nil)))
 have nd1:NewD deV ([(v_t8,F_t8),(v_t9,F_t9),(v_t10,F_t10)]:List VH) ([t8,t9,t10]:List PV) w.heap.size:=(NewD.cons (d:=deV) (fun p_ hp_=>(DnD.one (ho1 p_ (fun g_ e_=>Nat.lt_of_lt_of_le (hp_ g_ e_) (Nat.le_refl _))))) (NewD.cons (d:=deV) (fun p_ hp_=>(DnD.one (ho2 p_ (fun g_ e_=>Nat.lt_of_lt_of_le (hp_ g_ e_) (qE gr1))))) (NewD.cons (d:=deV) (fun p_ hp_=>(DnD.one (ho3 p_ (fun g_ e_=>Nat.lt_of_lt_of_le (hp_ g_ e_) (qE gr2))))) NewD.nil)))
 have dj1:DnD deV ([(v_t8,F_t8),(v_t9,F_t9),(v_t10,F_t10)]:List VH) ([t8,t9,t10]:List PV) (blk (some ⟨g2,0,none⟩)):=(DnD.cons (d:=deV) (DnD.one (k2.new (Ge.box hl2))) (DnD.cons (d:=deV) (DnD.one (k3.new (Ge.box hl2))) (DnD.cons (d:=deV) (DnD.one (ht10.new (Ge.box hl2))) DnD.nil)))
 refine zx rfl rfl (W_list_Sorted (hG.grown gr4) hS3 hS7 hO2.rd (rfl.trans hr1.1) hr1 H) ?_
 rintro _ w6 ⟨hg6,t120,f5,f7,g6,v_t121,t121,rfl,ht120,c2,ho4,dj2,ht121,H⟩
 have hb1:=ht120.ge'
 have k7:=ht120.base (fun g hg=>Nat.le_trans (qE gr4) (hb1 g hg))
 have gr5:=qG gr4 hg6
 refine yp (h:=(yp (h:=(yp (h:=(yp (h:=(yp (h:=(ze (za (zd (zd (zb (yp (h:=(zg rfl (z1 Tryz.underlying43 ht121 rfl) (yp (h:=(zV 4 (fun L' w'=>∃ q1:Bool,L'=[(21,.bool q1),(1,.slice f5 t120.length f7)]/\((!decide (t121=Er.ok)) || (!decide ((t120.length:Int)=(3:Int))))=q1/\w6=w') ?_ (fun hQ=>?_)))))))))))))))))))))
 ·rintro _ _ ⟨q1,rfl,rfl,rfl⟩
  refine yp (h:=?_)
  obtain ⟨J1,H,hJ1⟩:=H
  refine zV 6 (fun L' w'=>∃ q2:Bool,L'=[(28,.bool q2),(1,.slice f5 t120.length f7)]/\J1 q2/\w.grownBy w' none/\Own vv w' w.heap.size 32 f5 f7 g6/\RelD deV w' g6 t120) ?_ (fun hQ=>?_)
  ·clear H
   rintro _ w7 ⟨q2,rfl,H,gr6,k8,k9⟩
   replace H:=hJ1 q2 H
   refine yp (h:=?_)
   obtain ⟨J2,H,hJ2⟩:=H
   refine zV 6 (fun L' w'=>∃ q3:Bool,L'=[(35,.bool q3)]/\J2 q3/\w.grownBy w' none) ?_ (fun hQ=>?_)
   ·clear H
    rintro _ w8 ⟨q3,rfl,H,gr7⟩
    replace H:=hJ2 q3 H
    refine ze (za (zm rfl (fun b1=>?_) (fun b1=>?_)))
    ·replace H:=H.1 (b1)
     exact zd (zb (yp (h:=(ze (za (zt (zf (zD rfl rfl ⟨gr7,false,rfl,H⟩))))))))
    ·replace H:=H.2 (b1)
     refine zo (za (zd (zb (zx rfl rfl (qM H) ?_))))
     rintro _ w9 ⟨hg7,v_t36,F_t36,t36,rfl,ht36,ho5,H⟩
     have gr8:=qG gr7 hg7
     refine z5 (us:=[v_t36.1]) qD rfl rfl rfl (qJ v_t36.2 jl) rfl (by omega) (fun g4 w11 hB4 hg9 hl4=>?_)
     have hO4:Own vv w11 w.heap.size 32 (some ⟨g4,0,none⟩) 1 ([(v_t36,F_t36)]:List VH):=Own.ofBl hB4 (Nat.le_trans (qE gr8) hl4) (by simp [maxLen]) rfl
     have gr9:=qG gr8 hg9
     have hr2:RelD deV w11 ([(v_t36,F_t36)]:List VH) ([t36]:List PV):=(RelD.cons (RelD.one (ht36.grown hg9)) RelD.nil)
     have nd2:NewD deV ([(v_t36,F_t36)]:List VH) ([t36]:List PV) w.heap.size:=(NewD.cons (d:=deV) (fun p_ hp_=>(DnD.one (ho5 p_ (fun g_ e_=>Nat.lt_of_lt_of_le (hp_ g_ e_) (qE gr7))))) NewD.nil)
     have dj3:DnD deV ([(v_t36,F_t36)]:List VH) ([t36]:List PV) (blk (some ⟨g4,0,none⟩)):=(DnD.cons (d:=deV) (DnD.one (ht36.new (Ge.box hl4))) DnD.nil)
     refine zx rfl rfl (W_val_NewList hO4.rd (rfl.trans hr2.1) hr2 H) ?_
     rintro v_ w12 ⟨hg_,hc_ | hc_⟩
     ·obtain ⟨rfl,H⟩:=hc_
      have hg10:=hg_
      exact yp (h:=(ze (za (zd (zd (zb (yp (h:=(zg rfl (zY Tryz.underlying61 rfl rfl) (ze (za (zm rfl (fun _=>zd (zb (yp (h:=(ze (za (zt (zf (zD rfl rfl ⟨(qG gr9 hg10),false,rfl,H⟩))))))))) (fun h=>by cases h)))))))))))))
     ·obtain ⟨g_a,a_l,o4,o9,n9,a_frozen,a_over,rfl,ha_l,f9,ho6,dj4,ha,hge1,dj5,dj6,dj7,H⟩:=hc_
      have hg11:=hg_
      have hb2:=ha_l.ge'
      have k11:=ha_l.base (fun g hg=>Nat.le_trans (qE gr9) (hb2 g hg))
      have gr11:=qG gr9 hg11
      refine yp (h:=(ze (za (zd (zd (zb (yp (h:=(zg rfl (zY Tryz.underlying61 rfl rfl) (ze (za (zm rfl (fun h=>by cases h) (fun _=>zo (za (zd (zb (yp (h:=(zg rfl (qj Tryz.underlying61 rfl rfl) (zx rfl rfl (jg (S:=S) (k11.base (fun _ _=>Nat.zero_le _)) rfl f9 ha dj7.symm (apC dj6 (apC dj5 apN)) H) ?_))))))))))))))))))))
      rintro v_ w15 ⟨hg_,hc_ | hc_⟩
      ·obtain ⟨v_t441,t441,a_,p1,p2,p0,a_2,a_3,rfl,ht441,hB5,hO5,hi1,hr3,ho7,dj8,dj9,dj10,H⟩:=hc_
       have hgl1:=hg_
       have hO6:=hO5.base (InP.toGe hi1 (apC (Ge.le hge1 (qE gr9)) (apC k11.ge' apN)) (qE gr11))
       have k12:=f9.goL hgl1 (apC dj6 (apC dj5 apN))
       refine yp (h:=(yp (h:=(yp (h:=(yp (h:=(yp (h:=(ze (za (zd (zd (zb (yp (h:=(zg rfl (zY Tryz.underlying64 rfl rfl) (yp (h:=(zV 3 (fun L' w'=>∃ q4:Bool,L'=[(52,.bool q4),(3,.pointer (some ⟨g_a,0,none⟩)),(4,.pointer none)]/\true=q4/\w15=w') ?_ (fun hQ=>?_)))))))))))))))))))))
       ·rintro _ _ ⟨q4,rfl,rfl,rfl⟩
        exact ze (za (zm rfl (fun _=>zd (zb (yp (h:=(ze (za (zt (zf (zD rfl rfl ⟨(qN gr11 hgl1 (apC (Ge.le hge1 (qE gr9)) (apC k11.ge' apN))),false,rfl,H⟩))))))))) (fun h=>by cases h)))
       ·clear H
        exact zG rfl rfl (rfl) rfl (zG rfl rfl (rfl) rfl (zg rfl (zQ (rfl) rfl) (wk (hQ _ _ ⟨true,rfl,rfl,rfl⟩))))
      ·obtain ⟨l6,i4,m3,m5,m2,g9,e5,e6,v_t4412,t4412,a_4,o0,o5,n5,a_5,a_6,rfl,ht440_l,h0,ho9,dj11,ht4412,ht440,hge2,dj12,dj13,dj14,hB6,hO7,hi2,hr4,ho8,dj15,dj16,dj17,dj18,dj19,dj20,dj21,dj22,dj23,dj24,dj25,H⟩:=hc_
       have hgl2:=hg_
       have hO8:=hO7.base (InP.toGe hi2 (apC (Ge.le hge1 (qE gr9)) (apC k11.ge' apN)) (qE gr11))
       have hb3:=ht440_l.ge'
       have gr13:=qN gr11 hgl2 (apC (Ge.le hge1 (qE gr9)) (apC k11.ge' apN))
       have k14:=f9.goL hgl2 (apC dj6 (apC dj5 apN))
       refine yp (h:=(yp (h:=(yp (h:=(yp (h:=(yp (h:=(ze (za (zd (zd (zb (yp (h:=(zg rfl (zY Tryz.underlying64 rfl rfl) (yp (h:=(zV 3 (fun L' w'=>∃ q5:Bool,L'=[(52,.bool q5),(3,.pointer (some ⟨g_a,0,none⟩)),(4,.pointer (some ⟨l6,0,none⟩))]/\(!decide (t4412=Er.ok))=q5/\w15=w') ?_ (fun hQ=>?_)))))))))))))))))))))
       ·rintro _ _ ⟨q5,rfl,rfl,rfl⟩
        refine ze (za (zm rfl (fun b2=>?_) (fun b2=>?_)))
        ·replace H:=H.1 (jw b2)
         exact zd (zb (yp (h:=(ze (za (zt (zf (zD rfl rfl ⟨gr13,false,rfl,H⟩))))))))
        ·replace H:=H.2 (jq b2)
         refine zo (za (zd (zb (yp (h:=(zx rfl rfl (qM H) ?_))))))
         rintro _ w18 ⟨hg12,v_t54,F_t54,t54,rfl,ht54,ho10,H⟩
         have gr14:=qG gr13 hg12
         have k15:=hB6.g0 hg12
         have k16:=hO8.grown hg12
         have k17:=hr4.grown hg12
         have k18:=(ht440_l.base (fun g hg=>Nat.le_trans (qE gr11) (hb3 g hg))).grown hg12
         have k19:=ht440.g0 hg12
         have k20:=h0.grown hg12
         refine zx rfl rfl (jk (GB.grown hG gr14) (qE gr14) (apC (Ge.le hge1 (qE gr9)) (apC k16.ge' apN)) hS3 hS7 (k16.base (fun _ _=>Nat.zero_le _)) rfl k17 k15 ht54 dj15 (apC dj16 (apC dj17 apN)) (apC (ho10 _ hB6.lt') (apC (ho10 _ hO8.lt') apN)) H) ?_
         rintro v_g w19 ⟨hgl3,_,g,a_7,o1,o6,n6,a_8,a_9,rfl,hg,hB7,hO9,hi3,hr5,ho11,dj26,dj27,dj28,H⟩
         have hO10:=hO9.base (InP.toGe hi3 (apC (Ge.le hge1 (qE gr9)) (apC k16.ge' apN)) (qE gr14))
         have gr15:=qN gr14 hgl3 (apC (Ge.le hge1 (qE gr9)) (apC k16.ge' apN))
         have k21:=k17.goL hgl3 (apC dj16 (apC dj17 apN))
         have k22:=k18.goL hgl3 (apC dj18 (apC dj19 apN))
         have k23:=k19.goL hgl3 (apC dj20 (apC dj21 apN))
         have k24:=k20.goL hgl3 (apC dj22 (apC dj23 apN))
         refine yp (h:=(ze (za (zd (zb (yp (h:=(zx rfl rfl (ja (hO10.base (fun _ _=>Nat.zero_le _)) rfl hr5 hB7 k22.rd rfl k24 k23 dj20 (InP.dj hi3 k19.lt' (apC dj20 (apC dj21 apN))).symm dj26 (apC (ho11 _ k19.lt' dj25 (ho10 _ ht440.lt')) (apC dj27 (apC dj28 apN))) (apC (Dn.of dj14) (apC (Dn.of dj18) (apC (Dn.of (InP.dj hi3 k18.lt' (apC dj18 (apC dj19 apN))).symm) apN))) (apC dj13 (apC dj22 (apC (RelD.inp k20 (apC dj22 (apC dj23 apN)) hi3) apN))) H) ?_))))))))
         rintro _ w20 ⟨hgl4,t440_,m0,m1,a_10,o2,o7,n7,a_11,a_12,rfl,hB8,hB9,hO11,hi4,hr6,ho12,dj29,dj30,dj31,dj32,dj33,dj34,H⟩
         have hO12:=hO11.base (InP.toGe hi4 (apC (Ge.le hge2 (qE gr11)) (apC (Ge.le hge1 (qE gr9)) (apC hO10.ge' apN))) (qE gr15))
         have gr16:=qN gr15 hgl4 (apC (Ge.le hge2 (qE gr11)) (apC (Ge.le hge1 (qE gr9)) (apC hO10.ge' apN)))
         have k25:=hr5.goL hgl4 (apC (ho11 _ k19.lt' dj25 (ho10 _ ht440.lt')) (apC dj27 (apC dj28 apN)))
         refine ze (za (zd (zb (yp (h:=(zx rfl rfl (ji (hG.grown gr16) hS0 hS1 hS2 hS3 hS4 hS5 hS6 hS7 hS8 hS9 hS10 hS11 hS12 hS13 hS14 hS15 hS16 (ErrR.goB hg (GB.grown hG gr15) hgl4 (apC (Ge.le hge2 (qE gr11)) (apC (Ge.le hge1 (qE gr9)) (apC hO10.ge' apN))) (apC (NoAt.bl k23 rfl) (apC (NoAt.bl hB7 rfl) (apC (NoAt.own hO10 rfl) apN)))) H) ?_))))))
         rintro _ w21 ⟨hg13,t59,rfl,H⟩
         have gr17:=qG gr16 hg13
         have k27:=hB9.g0 hg13
         have k28:=hO12.grown hg13
         refine yp (h:=?_)
         obtain ⟨J3,H,hJ3⟩:=H
         refine zV 5 (fun L' w'=>∃ q6:Bool,L'=[(65,.bool q6)]/\J3 q6/\w.grownBy w' none) ?_ (fun hQ=>?_)
         ·clear H
          rintro _ w22 ⟨q6,rfl,H,gr18⟩
          replace H:=hJ3 q6 H
          exact yp (h:=(ze (za (zt (zD rfl rfl ⟨gr18,q6,rfl,H⟩)))))
         ·clear hJ3
          rcases Bool.eq_false_or_eq_true (t59) with b3 | b3
          ·replace H:=H.1 b3
           refine gp b3 (h:=(zT (qF rfl rfl (okb b3)) rfl rfl (qM H) ?_))
           rintro _ w23 ⟨hg14,v_t62,F_t62,t62,rfl,ht62,ho13,H⟩
           have gr19:=qG gr17 hg14
           have k30:=k27.g0 hg14
           have k31:=k28.grown hg14
           have k32:=(hr6.grown hg13).grown hg14
           refine zT (qF rfl rfl (okb b3)) rfl rfl (jk (GB.grown hG gr19) (qE gr19) (apC (Ge.le hge1 (qE gr9)) (apC k31.ge' apN)) hS3 hS7 (k31.base (fun _ _=>Nat.zero_le _)) rfl k32 k30 ht62 dj31 (apC dj33 (apC dj34 apN)) (apC (ho13 _ k27.lt') (apC (ho13 _ k28.lt') apN)) H) ?_
           rintro v_t63 w24 ⟨hgl5,_,t63,a_13,o3,o8,n8,a_14,a_15,rfl,ht63,hB10,hO13,hi5,hr7,ho14,dj35,dj36,dj37,H⟩
           have hO14:=hO13.base (InP.toGe hi5 (apC (Ge.le hge1 (qE gr9)) (apC k31.ge' apN)) (qE gr19))
           have k33:=k32.goL hgl5 (apC dj33 (apC dj34 apN))
           have k34:=ht62.goL hgl5 (apC (ho13 _ k27.lt') (apC (ho13 _ k28.lt') apN))
           exact zc rfl rfl (okb b3) rfl (qe Tryz.underlying43 ht63 rfl) (zg rfl (zQ (okb b3) rfl) (wk (hQ _ _ ⟨decide (t63=Er.ok),rfl,H,(qN gr19 hgl5 (apC (Ge.le hge1 (qE gr9)) (apC k31.ge' apN)))⟩)))
          ·replace H:=H.2 b3
           exact gn b3 (h:=(gn b3 (h:=(gn b3 (h:=(gn b3 (h:=(zg rfl (zK (okb b3) rfl) (wk (hQ _ _ ⟨false,rfl,H,gr17⟩))))))))))
       ·clear H
        exact zc rfl rfl (rfl) rfl (zh qD rfl) (zc rfl rfl (rfl) rfl (z1 Tryz.underlying43 ht4412 rfl) (zg rfl (zK (rfl) rfl) (wk (hQ _ _ ⟨!decide (t4412=Er.ok),rfl,rfl,rfl⟩))))
   ·clear hJ2
    rcases Bool.eq_false_or_eq_true (q2) with b4 | b4
    ·replace H:=H.1 b4
     exact gn b4 (h:=(gn b4 (h:=(gn b4 (h:=(gn b4 (h:=(gn b4 (h:=(zg rfl (zQ (okb b4) rfl) (wk (hQ _ _ ⟨true,rfl,H,gr6⟩))))))))))))
    ·replace H:=H.2 b4
     refine gp b4 (h:=?_)
     obtain ⟨h1,H⟩:=H
     refine zc rfl rfl (okb b4) rfl (zB qD k8.rd rfl rfl c2.1.symm rfl h1.1 h1.2) ?_
     obtain ⟨⟨v_el,F_el⟩,eh1,hR1⟩:=RelD.at k9 vh0 PV.nil (j:=2) (Nat.lt_of_lt_of_eq (iltN h1 c2.1.symm) k9.1)
     have hv1:RelD deV w7 [(v_el,F_el)] [t120.getD 2 PV.nil]:=RelD.cons hR1 RelD.nil
     refine zc rfl rfl (okb b4) rfl (zR (v:=v_el.1) (zM vh0 qD k8.rd rfl rfl (iltN h1 c2.1.symm)) (congrArg vv eh1)) (zT (qF rfl rfl (okb b4)) rfl rfl (jn hv1 H) ?_)
     rintro _ w25 ⟨hg15,t33,rfl,H⟩
     have k35:=hv1.grown hg15
     exact gp b4 (h:=(zg rfl (zK (okb b4) rfl) (wk (hQ _ _ ⟨!decide (t33=([49]:List UInt8)),rfl,H,(qG gr6 hg15)⟩))))
  ·clear hJ1
   rcases Bool.eq_false_or_eq_true ((!decide (t121=Er.ok)) || (!decide ((t120.length:Int)=(3:Int)))) with b5 | b5
   ·replace H:=H.1 b5
    exact gn b5 (h:=(gn b5 (h:=(gn b5 (h:=(gn b5 (h:=(gn b5 (h:=(zg rfl (zQ (okb b5) rfl) (wk (hQ _ _ ⟨true,rfl,H,gr5,k7,c2⟩))))))))))))
   ·replace H:=H.2 b5
    refine gp b5 (h:=?_)
    obtain ⟨h2,H⟩:=H
    refine zc rfl rfl (okb b5) rfl (zB qD k7.rd rfl rfl c2.1.symm rfl h2.1 h2.2) ?_
    obtain ⟨⟨v_el2,F_el2⟩,eh2,hR2⟩:=RelD.at c2 vh0 PV.nil (j:=0) (Nat.lt_of_lt_of_eq (iltN h2 c2.1.symm) c2.1)
    have hv2:RelD deV w6 [(v_el2,F_el2)] [t120.getD 0 PV.nil]:=RelD.cons hR2 RelD.nil
    refine zc rfl rfl (okb b5) rfl (zR (v:=v_el2.1) (zM vh0 qD k7.rd rfl rfl (iltN h2 c2.1.symm)) (congrArg vv eh2)) (zT (qF rfl rfl (okb b5)) rfl rfl (jn hv2 H) ?_)
    rintro _ w26 ⟨hg16,t26,rfl,H⟩
    have k38:=hv2.grown hg16
    exact gp b5 (h:=(zg rfl (zK (okb b5) rfl) (wk (hQ _ _ ⟨!decide (t26=([51]:List UInt8)),rfl,H,(qG gr5 hg16),(k7.grown hg16),(c2.grown hg16)⟩))))
 ·clear H
  rcases Bool.eq_false_or_eq_true (!decide (t121=Er.ok)) with b6 | b6
  ·exact gn b6 (h:=(gn b6 (h:=(gn b6 (h:=(zg rfl (zQ (okb b6) rfl) (wk (hQ _ _ ⟨true,rfl,by rw [b6] <;> rfl,rfl⟩))))))))
  ·exact gp b6 (h:=(gp b6 (h:=(gp b6 (h:=(zg rfl (zK (okb b6) rfl) (wk (hQ _ _ ⟨!decide ((t120.length:Int)=(3:Int)),rfl,by rw [b6] <;> rfl,rfl⟩))))))))
end
 
section
open Go Go.RowKit
def isB:Er->Int->Bool
 | .ok,c=>decide (0=c)
 | .e n,c=>decide (101+(n:Int)=c)
 | .at_ _ _,_=>false
theorem is_M {e:Er} {code:Int} {K:Bool->Prop} (h:K (isB e code)):qZ e code K:=by
 unfold qZ jE kq kn jS jU kf jK jE ke jS
 cases e with
 | ok=>refine ⟨fun _=>?_,fun h2=>absurd rfl h2⟩; exact (congrArg K (show isB .ok code=_ by simp [isB])).mp h
 | e n=>refine ⟨fun h2=>(by cases h2),fun _=>⟨fun p m h2=>(by cases h2),fun _=>?_⟩⟩; exact (congrArg K (show isB (.e n) code=_ by rw [Bool.eq_iff_iff]; simp [isB,sentV]; exact decide_eq_true_iff.symm)).mp h
 | at_ p n =>
  refine ⟨fun h2=>(by cases h2),fun _=>⟨fun p' m h2=>?_,fun h2=>absurd rfl (h2 p n)⟩⟩
  cases h2
  refine ⟨fun h2=>(by simp at h2),fun _=>⟨fun h2=>(by simp only [sentV] at h2; omega),fun _=>?_⟩⟩
  exact (congrArg K (show isB (.at_ p n) code=_ by simp [isB])).mp h
end
 
section
open Go Go.RowKit
theorem stable_M {t back:Bool} {data:List PV} {K:List PV->Prop} (hP:Okl t data) (hl:data.length<=40) (h:∀ d',SyM (ltP back) PV.nil data d' 0 data.length->K d') :
  je data (data.length:Int) back false K:=by
 intro _
 refine ⟨fun a b d2=>b=a+20/\(a=0∨a=20∨a=40)/\a<=data.length/\SyO PV.nil data d2 0 data.length/\(20<=a->jB (ltP back) PV.nil d2 0 20)/\(40<=a->jB (ltP back) PV.nil d2 20 40),fun a _ _=>((data.length:Int)+20 - a).toNat,⟨by omega,.inl rfl,by omega,SyO.refl _ _ _ _,fun e=>by omega,fun e=>by omega⟩,?_⟩
 rintro a b d2 ⟨rfl,ha,h1,h2,h3,h4⟩ hlen
 have hP2:Okl t d2:=hP.perm h2.perm
 refine ⟨fun hb=>insertion_M hP2 (by omega) (by omega) (by omega) (by omega) fun d' k=>⟨by simp only [In]; omega,⟨by omega,by omega,by omega,h2.trans (k.1.wide (by omega) (by omega)),fun e=>?_,fun e=>?_⟩,by first | omega | (dsimp only; omega)⟩,fun hb=>insertion_M hP2 (by omega) (by omega) (by omega) (by omega) fun d' k=>?_⟩
 ·rcases ha with rfl | rfl | rfl
  ·exact k.2
  ·exact (h3 (by omega)).out k.1 (.inr (by omega))
  ·omega
 ·have:a=20:=by omega
  subst this; exact k.2
 ·have hP3:Okl t d':=hP2.perm k.1.perm
  have o3:=h2.trans (k.1.wide (a':=0) (b':=data.length) (by omega) (by omega))
  have hn:((data.length:Nat):Int).toNat=data.length:=by omega
  have s20:jB (ltP back) PV.nil d' 0 (min 20 data.length)/\jB (ltP back) PV.nil d' 20 data.length:=by
   rcases ha with rfl | rfl | rfl
   ·refine ⟨k.2.sub (by omega) (by omega),fun i j q1 q2 q3=>by omega⟩
   ·refine ⟨((h3 (by omega)).out k.1 (.inr (by omega))).sub (by omega) (by omega),k.2.sub (by omega) (by omega)⟩
   ·refine ⟨((h3 (by omega)).out k.1 (.inr (by omega))).sub (by omega) (by omega),((h4 (by omega)).out k.1 (.inr (by omega))).sub (by omega) (by omega)⟩
  refine ⟨fun bs d3=>(bs=20/\d3=d')∨(bs=40/\SyM (ltP back) PV.nil data d3 0 data.length),fun bs _=>(40 - bs).toNat,.inl ⟨rfl,rfl⟩,?_⟩
  rintro bs d3 (⟨rfl,rfl⟩ | ⟨rfl,h5⟩) hlen3
  ·refine ⟨fun hbs=>⟨by simp only [In]; omega,?_⟩,fun hbs=>?_⟩
   ·rw [show min 20 data.length=20 by omega] at s20
    refine ⟨fun a2 b2 d4=>(a2=0/\b2=40/\d4=d3)∨(a2=40/\b2=80/\data.length=40/\SyM (ltP back) PV.nil data d4 0 data.length),fun a2 _ _=>(40 - a2).toNat,.inl ⟨rfl,by omega,rfl⟩,?_⟩
    rintro a2 b2 d4 (⟨rfl,rfl,rfl⟩ | ⟨rfl,rfl,h40,h6⟩) hlen4
    ·refine ⟨fun hb2=>⟨by simp only [In]; omega,40,sym_M 40 (by omega) hP3 (by omega) (by omega) (by omega) (by omega) (by omega) s20.1 (s20.2.sub (by omega) (by omega)) fun d5 k5=>?_⟩,fun hb2=>?_⟩
     ·refine ⟨by simp only [In]; omega,by simp only [In]; omega,.inr ⟨rfl,by omega,by omega,?_⟩,by first | omega | (dsimp only; omega)⟩
      rw [show (40:Int).toNat=data.length by omega] at k5
      exact ⟨o3.trans k5.1,k5.2⟩
     ·refine ⟨fun xs=>SyM (ltP back) PV.nil data xs 0 data.length,⟨by simp only [In]; omega,fun hq=>?_,fun hq=>absurd (show (0:Int)+20<data.length by omega) hq⟩,fun xs hxs hlx=>⟨by simp only [In]; omega,.inr ⟨by omega,hxs⟩,by first | omega | (dsimp only; omega)⟩⟩
      refine ⟨40,sym_M 40 (by omega) hP3 (by omega) (by omega) (by omega) (by omega) (by omega) s20.1 (s20.2.sub (by omega) (by omega)) fun d5 k5=>?_⟩
      rw [hn] at k5
      exact ⟨o3.trans k5.1,k5.2⟩
    ·refine ⟨fun hb2=>by omega,fun hb2=>⟨fun xs=>SyM (ltP back) PV.nil data xs 0 data.length,⟨by simp only [In]; omega,fun hq=>by omega,fun hq=>h6⟩,fun xs hxs hlx=>⟨by simp only [In]; omega,.inr ⟨by omega,hxs⟩,by first | omega | (dsimp only; omega)⟩⟩⟩
   ·refine h _ ⟨o3,?_⟩
    rw [show min 20 data.length=data.length by omega] at s20
    exact s20.1
  ·exact ⟨fun hbs=>by omega,fun _=>h _ h5⟩
theorem sstable_M {t back:Bool} {l:List PV} {K:List PV->Prop} (hP:Okl t l) (hl:l.length<=40) (h:∀ d',SyM (ltP back) PV.nil l d' 0 l.length->K d'):qU l back false K:=fun _=>stable_M hP hl h
def wgt:PV->Int:=fun _=>1
theorem weightT_M {t:Bool} {x:PV} {most:Int} {K:Int->Prop} (hx:Okv t x) (hm:60<=most/\most<=5000) (h:K (wgt x)):M_val_weightT x most K:=by
 obtain ⟨z,rfl⟩:=hx
 refine ⟨fun l=>l=[],⟨fun e=>(by cases e),fun _=>⟨fun l e=>(by cases e),fun _=>rfl⟩⟩,?_⟩
 rintro _ rfl
 exact ⟨fun n i=>n=1/\i=0,fun _ _=>0,⟨rfl,rfl⟩,by rintro n i ⟨rfl,rfl⟩; exact ⟨fun hi=>absurd hi (by simp),fun _=>h⟩⟩
theorem wgt_le {t:Bool} {x:PV} (_h:Okv t x):1<=wgt x/\wgt x<=51:=by simp [wgt]
theorem vlight_M {t:Bool} {l:List PV} {K:Bool->Prop} (hP:Okl t l) (hl:l.length<=40) (h:K true):M_val_Light 4096 l K:=by
 intro _
 refine ⟨fun m i=>0<=i/\i<=l.length/\4096 - 51*i<=m/\m<=4096,fun _ i=>((l.length:Int) - i).toNat,⟨by omega,by omega,by omega,by omega⟩,?_⟩
 rintro m i ⟨h0,h1,h2,h3⟩
 refine ⟨fun hi=>⟨⟨h0,hi⟩,?_⟩,fun _=>h⟩
 have hx:=hP.at (i:=i.toNat) (by omega)
 have hw:=wgt_le hx
 exact weightT_M hx (by omega) ⟨by simp only [In]; omega,fun hq=>by omega,fun _=>⟨by simp only [In]; omega,⟨by omega,by omega,by omega,by omega⟩,by first | omega | (dsimp only; omega)⟩⟩
theorem cloneV_M {l:List PV} {K:List PV->Prop} (hl:l.length<=1000000) (h:K l):qS l K :=
 fun _=>⟨fun e=>e ▸ h,by simp; omega,by simpa using h⟩
theorem sorted_M {t back:Bool} {l:List PV} {K:List PV->Er->Prop} (hP:Okl t l) (hl:l.length<=40) (h:∀ d',SyM (ltP back) PV.nil l d' 0 l.length->K d' .ok):M_list_Sorted l back K:=by
 intro _
 exact vlight_M hP hl ⟨fun e=>(by cases e),fun _=>cloneV_M (by omega) (sstable_M hP hl h)⟩
theorem jB.uniq {lt:PV->PV->Bool} {l m:List PV} (h1:jB lt PV.nil l 0 l.length) (h2:jB lt PV.nil m 0 m.length) (hp:l.Perm m) (hs:∀ x∈l,∀ y∈l,lt x y=false->lt y x=false->x=y):l=m:=by
 have pw:∀ {q:List PV},jB lt PV.nil q 0 q.length->q.Pairwise fun x y=>lt y x=false:=fun {q} hq=>by
  rw [List.pairwise_iff_getElem]
  intro i j hi hj hij
  have:=hq i j (by omega) hij hj
  simpa [List.getD,hi,hj] using this
 exact List.Perm.eq_of_pairwise (le:=fun x y=>lt y x=false) (fun x y hx hy q1 q2=>hs x hx y (hp.mem_iff.2 hy) q2 q1) (pw h1) (pw h2) hp
end
 
section
open Go Go.RowKit
theorem lexB_eq:∀ {x y},lexB x y=false->lexB y x=false->x=y
 | [],[],_,_=>rfl
 | [],_ :: _,h,_=>by cases h
 | _ :: _,[],_,h=>by cases h
 | a :: l,b :: m,h1,h2=>by
  simp only [lexB,Bool.or_eq_false_iff,decide_eq_false_iff_not,Bool.and_eq_false_iff] at h1 h2
  have e:a=b:=by omega
  subst e
  rw [lexB_eq (x:=l) (y:=m) (by rcases h1.2 with h | h; exact absurd rfl h; exact h) (by rcases h2.2 with h | h; exact absurd rfl h; exact h)]
theorem ltP_eq {back t:Bool} {x y:PV} (hx:Okv t x) (hy:Okv t y) (h1:ltP back x y=false) (h2:ltP back y x=false):x=y:=by
 have e:keyQ x=keyQ y:=by
  cases back
  ·exact lexB_eq h1 h2
  ·exact lexB_eq h2 h1
 obtain ⟨a,rfl⟩:=hx
 obtain ⟨b,rfl⟩:=hy
 simp only [keyQ,List.cons.injEq,and_true] at e
 rw [e]
theorem jB.one {back t:Bool} {l m d':List PV} (hP:Okl t l) (h:SyM (ltP back) PV.nil l d' 0 l.length) (h2:jB (ltP back) PV.nil m 0 m.length) (hp:m.Perm l):d'=m:=by
 have hd:=hP.perm h.1.perm
 have hl:=h.1.len
 refine jB.uniq (by rw [hl]; exact h.2) h2 (h.1.perm.trans hp.symm) fun x hx y hy q1 q2=>ltP_eq (hd x hx) (hd y hy) q1 q2
theorem jv {n:Int} {K:PV->Prop} (h : -9223372036854775808<=n/\n<=9223372036854775807) (k:K (.int n)):qL n K:=⟨h,k⟩
theorem loose_M {l:List PV} {f:Bool} {o:Int} {K:Bool->Prop} (h:K (!f && decide (o=0))):kl l f o K:=fun _=>h
theorem ka {l:List PV} {f:Bool} {o:Int} {x:PV} {K:Er->List PV->Bool->Int->Prop} (ho:o≠0) (h:K (.e 3) l f o):jc l f o x K :=
 fun _ _ _=>loose_M ⟨fun _=>h,fun e=>absurd e (by simp [ho])⟩
theorem append_yes {l:List PV} {x:PV} {K:Er->List PV->Bool->Int->Prop} (hl:l.length<1024) (h:K .ok (l++[x]) false 0):jc l false 0 x K :=
 fun _ _ _=>loose_M ⟨fun e=>(by cases e),fun _=>fun _=>⟨by simp only [In]; omega,fun e=>absurd e (by simp; omega),fun _=>fun _ _=>⟨by simp; omega,h⟩⟩⟩
theorem hold_M {l:List PV} {f:Bool} {o b:Int} {K:List PV->Bool->Int->Prop} (ho : -1000000<=o+b/\o+b<=1000000) (h:K l f (o+b)):j9 l f o b K :=
 fun _ _=>⟨by simp only [In]; omega,h⟩
theorem each_M {l:List PV} {f:Bool} {o:Int} {K0:Er->List PV->Bool->Int->Prop} {K:List PV->Int->Bool->Bool->Er->List PV->Bool->Int->Prop} (hl:l.length<=1000000) (ho : -100000<=o/\o<=100000) (h:K l 0 false false .ok l f (o+1)):qX l f o K0 K:=by
 exact fun _=>fun _ _=>cloneV_M hl (hold_M (by omega) h)
theorem jN {l:List PV} {f:Bool} {o a:Int} {q:List PV} {p:Bool} {K:Int->Bool->Bool->List PV->Bool->Int->Prop} (ho : -100000<=o/\o<=100000) (h:K a true p l f (o + -1)):qP l f o q a false p K :=
 fun _ _=>⟨fun _=>hold_M (by omega) h,fun e=>(by cases e)⟩
theorem newlist_M {l:List PV} {K0:Prop} {K:List PV->Bool->Int->Prop} (hl:l.length<=1000000) (h:K l false 0):kw l K0 K :=
 fun _=>cloneV_M hl h
theorem txt1:txt 1=[49]:=txt_dig (d:=1) (by omega) (by omega)
theorem txt3:txt 3=[51]:=txt_dig (d:=3) (by omega) (by omega)
theorem lfirst_M {K:Bool->Prop} (h:K true):j3 K:=by
 refine jv (by omega) (jv (by omega) (jv (by omega) ?_))
 have hP:Okl false [PV.int 3,PV.int 1,PV.int 2]:=fun x hx=>by
  simp only [List.mem_cons,List.not_mem_nil,or_false] at hx
  rcases hx with rfl | rfl | rfl <;> exact ⟨_,rfl⟩
 refine sorted_M hP (by simp) fun d' hd=>?_
 have e:d'=[PV.int 3,PV.int 2,PV.int 1]:=by
  refine jB.one hP hd (fun i j h1 h2 h3=>?_) (by decide)
  have h3:j<3:=h3
  have:(i=0/\j=1)∨(i=0/\j=2)∨(i=1/\j=2):=by omega
  rcases this with ⟨rfl,rfl⟩ | ⟨rfl,rfl⟩ | ⟨rfl,rfl⟩ <;> rfl
 subst e
 refine ⟨fun q=>q=false,⟨fun e=>absurd e (by simp),fun _=>⟨by simp,?_⟩⟩,?_⟩
 ·exact vrepr_int (by rw [txt3]; simp) (by rw [txt3]; rfl)
 rintro _ rfl
 refine ⟨fun q=>q=false,⟨fun e=>(by cases e),fun _=>⟨by simp,?_⟩⟩,?_⟩
 ·exact vrepr_int (by rw [txt1]; simp) (by rw [txt1]; rfl)
 rintro _ rfl
 refine ⟨fun e=>(by cases e),fun _=>jv (by omega) (newlist_M (by simp) (each_M (by simp) (by omega) ⟨fun e=>absurd rfl e,fun _=>jv (by omega) (ka (by omega) (jN (by omega) (is_M ?_)))⟩))⟩
 refine ⟨fun q=>q=true,⟨fun _=>jv (by omega) (append_yes (by simp) (by simp)),fun e=>absurd e (by decide)⟩,?_⟩
 rintro _ rfl
 exact h
end
 
section
open Go Go.RowKit
abbrev RNu:=Bool × List Int × List UInt8
inductive RO where
 | nil
 | mk (id:Nat) (items:List (Int × (Bool × List Int × List UInt8) × RO)) (order:Int) (fr:List (Int × (Bool × List Int × List UInt8) × RO)) (deep:Int)
abbrev RV:=Int × RNu × RO
def RO.isNil:RO->Bool
 | .nil=>true
 | _=>false
def RO.id:RO->Nat
 | .nil=>0
 | .mk i _ _ _ _=>i
def RO.items:RO->List RV
 | .nil=>[]
 | .mk _ l _ _ _=>l
def RO.order:RO->Int
 | .nil=>0
 | .mk _ _ o _ _=>o
def RO.fr:RO->List RV
 | .nil=>[]
 | .mk _ _ _ l _=>l
def RO.deep:RO->Int
 | .nil=>0
 | .mk _ _ _ _ d=>d
abbrev rv0:RV:=(0,(false,[],[]),.nil)
inductive RRch (s:RO):RO->Prop
 | refl:RRch s s
 | step {x:RO} {f:RV}:RRch s x->f∈x.items∨f∈x.fr->RRch s f.2.2
def RC:={ l:List Value // l.length=6/\∀ u∈l,u.oneCell'=true }
abbrev RH:=RC × (Nat->Prop)
def vr (h:RH):List Value:=h.1.1
theorem vr_ok:OneK 6 vr:=⟨by omega,fun h=>h.1.2.1,fun h=>h.1.2.2⟩
abbrev sl0:Value:=.slice none 0 0
def cellsV (k:Int) (b neg:Bool) (L:Value) (s:List UInt8) (o:Value):List Value:=[.int .i64 k,.bool b,.bool neg,L,vs s,o]
theorem cellsV_ok {k:Int} {b neg:Bool} {L:Value} {s:List UInt8} {o:Value} (hL:L.oneCell'=true) (ho:o.oneCell'=true):(cellsV k b neg L s o).length=6/\∀ u∈cellsV k b neg L s o,u.oneCell'=true :=
 ⟨rfl,qJ rfl (qJ rfl (qJ rfl (qJ hL (qJ rfl (qJ ho jl)))))⟩
abbrev zeroV:List Value:=cellsV 0 false false sl0 [] (.pointer none)
def rc0:RC:=⟨zeroV,cellsV_ok rfl rfl⟩
def rh0:RH:=(rc0,noF)
def objC (items:Value) (deep order:Int) (fr:Value):List Value:=[items,sl0,sl0,sl0,.bool false,.int .i64 0,vs [],.int .i64 deep,.int .i64 0]++zeroV++[.int .i64 order,fr,.bool false,sl0,.bool false,sl0,.int .i64 0,.pointer none]
def RVw (P:Value->RO->Prop) (w:World) (F:Nat->Prop) (cs:List Value) (x:RV):Prop :=
 ∃ A c o,cs=cellsV x.1 false x.2.1.1 (.slice A x.2.1.2.1.length c) x.2.1.2.2 o/\Rd vi w A c x.2.1.2.1/\(x.2.1.2.1≠[]->∀ q,blk A=some q->F q)/\P o x.2.2
def RVs (P:Value->RO->Prop) (w:World) (F:Nat->Prop) (A:Option Addr) (c:Nat) (l:List RV):Prop :=
 ∃ hs:List RH,RdK 6 vr w A c hs/\hs.length=l.length/\(∀ q,blk A=some q->F q)/\∀ (i:Nat) (h:RH) (x:RV),hs[i]? = some h->l[i]? = some x->RVw P w F h.1.1 x
def ROn:Nat->World->(Nat->Prop)->Value->RO->Prop
 | _,_,_,v,.nil=>v=.pointer none
 | 0,_,_,_,.mk ..=>False
 | n+1,w,F,v,.mk id items order fr deep=>v=.pointer (some ⟨id,0,none⟩)/\F id/\∃ Ai ci Af cf,
   Bl w id 111 (objC (.slice Ai items.length ci) deep order (.slice Af fr.length cf))/\RVs (ROn n w F) w F Ai ci items/\RVs (ROn n w F) w F Af cf fr
section
variable {w w':World} {F F':Nat->Prop} {cs:List Value} {v:Value} {ps:List (Option Nat)} {P P':Value->RO->Prop}
theorem RdK.goF {α:Type} {k:Nat} {f:α->List Value} {A:Option Addr} {c:Nat} {xs:List α} (h:RdK k f w A c xs) (hb:∀ q,blk A=some q->F q) (hg:GrL ps w w') (hd:AllP (fun p=>∀ g,p=some g->¬ F g) ps):RdK k f w' A c xs :=
 h.goL hg fun p hp _ g hg' e=>hd p hp g e (hb g hg')
theorem Rd.goN {α:Type} {f:α->Value} {A:Option Addr} {c:Nat} {xs:List α} (h:Rd f w A c xs) (hb:xs≠[]->∀ q,blk A=some q->F q) (hg:GrL ps w w') (hd:AllP (fun p=>∀ g,p=some g->¬ F g) ps):Rd f w' A c xs :=
 h.goL hg fun p hp hne g hg' e=>hd p hp g e (hb hne g hg')
theorem RVw.goL {x:RV} (h:RVw P w F cs x) (hg:GrL ps w w') (hd:AllP (fun p=>∀ g,p=some g->¬ F g) ps) (hP:∀ o y,P o y->P' o y):RVw P' w' F cs x:=by
 obtain ⟨A,c,o,h1,h2,h3,h4⟩:=h
 exact ⟨A,c,o,h1,h2.goN h3 hg hd,h3,hP _ _ h4⟩
theorem RVw.mono {x:RV} (h:RVw P w F cs x) (hF:∀ g,F g->F' g) (hP:∀ o y,P o y->P' o y):RVw P' w F' cs x:=by
 obtain ⟨A,c,o,h1,h2,h3,h4⟩:=h
 exact ⟨A,c,o,h1,h2,fun hne q hq=>hF q (h3 hne q hq),hP _ _ h4⟩
theorem RVs.goL {A:Option Addr} {c:Nat} {l:List RV} (h:RVs P w F A c l) (hg:GrL ps w w') (hd:AllP (fun p=>∀ g,p=some g->¬ F g) ps) (hP:∀ o y,P o y->P' o y):RVs P' w' F A c l:=by
 obtain ⟨hs,h1,h2,h3,h4⟩:=h
 exact ⟨hs,h1.goF h3 hg hd,h2,h3,fun i h x a b=>(h4 i h x a b).goL hg hd hP⟩
theorem RVs.mono {A:Option Addr} {c:Nat} {l:List RV} (h:RVs P w F A c l) (hF:∀ g,F g->F' g) (hP:∀ o y,P o y->P' o y):RVs P' w F' A c l:=by
 obtain ⟨hs,h1,h2,h3,h4⟩:=h
 exact ⟨hs,h1,h2,fun q hq=>hF q (h3 q hq),fun i h x a b=>(h4 i h x a b).mono hF hP⟩
theorem ROn.goL (hg:GrL ps w w') (hd:AllP (fun p=>∀ g,p=some g->¬ F g) ps):∀ {n:Nat} {v:Value} {s:RO},ROn n w F v s->ROn n w' F v s
 | n,v,.nil,h=>by cases n <;> exact h
 | 0,v,.mk ..,h=>h.elim
 | n+1,v,.mk ..,h=>by
  obtain ⟨h1,h2,Ai,ci,Af,cf,hB,hi,hf⟩:=h
  exact ⟨h1,h2,Ai,ci,Af,cf,hB.goF h2 hg hd,hi.goL hg hd (fun _ _ k=>ROn.goL hg hd k),hf.goL hg hd (fun _ _ k=>ROn.goL hg hd k)⟩
theorem ROn.mono (hF:∀ g,F g->F' g):∀ {n:Nat} {v:Value} {s:RO},ROn n w F v s->ROn n w F' v s
 | n,v,.nil,h=>by cases n <;> exact h
 | 0,v,.mk ..,h=>h.elim
 | n+1,v,.mk ..,h=>by
  obtain ⟨h1,h2,Ai,ci,Af,cf,hB,hi,hf⟩:=h
  exact ⟨h1,hF _ h2,Ai,ci,Af,cf,hB,hi.mono hF (fun _ _ k=>ROn.mono hF k),hf.mono hF (fun _ _ k=>ROn.mono hF k)⟩
theorem ROn.up:∀ {n:Nat} {v:Value} {s:RO},ROn n w F v s->ROn (n+1) w F v s
 | n,v,.nil,h=>by cases n <;> exact h
 | 0,v,.mk ..,h=>h.elim
 | n+1,v,.mk ..,h=>by
  obtain ⟨h1,h2,Ai,ci,Af,cf,hB,hi,hf⟩:=h
  exact ⟨h1,h2,Ai,ci,Af,cf,hB,hi.mono (fun _ k=>k) (fun _ _ k=>ROn.up k),hf.mono (fun _ k=>k) (fun _ _ k=>ROn.up k)⟩
theorem ROn.le {n m:Nat} {s:RO} (h:ROn n w F v s) (hm:n<=m):ROn m w F v s:=by
 induction hm with
 | refl=>exact h
 | step _ ih=>exact ih.up
theorem ROn.ptr {n:Nat} {p:RO} (h:ROn n w F v p):v=.pointer (if p.isNil then none else some ⟨p.id,0,none⟩):=by
 cases p with
 | nil=>cases n <;> exact h
 | mk=>cases n with
  | zero=>exact h.elim
  | succ n=>exact h.1
theorem RVs.mem {A:Option Addr} {c:Nat} {l:List RV} {x:RV} (h:RVs P w F A c l) (hx:x∈l):∃ cs,RVw P w F cs x:=by
 obtain ⟨hs,_,h2,_,h4⟩:=h
 obtain ⟨i,hi,rfl⟩:=List.getElem_of_mem hx
 exact ⟨_,h4 i _ _ (List.getElem?_eq_getElem (by rw [h2]; exact hi)) (List.getElem?_eq_getElem hi)⟩
theorem ROn.reach {n:Nat} {s y:RO} (h:ROn n w F v s) (k:RRch s y):∃ m u,ROn m w F u y:=by
 induction k with
 | refl=>exact ⟨n,v,h⟩
 | @step x f hx hf ih =>
  obtain ⟨m,u,hm⟩:=ih
  cases x with
  | nil=>rcases hf with hf | hf <;> cases hf
  | mk id items order fr deep =>
   cases m with
   | zero=>exact hm.elim
   | succ m =>
    obtain ⟨_,_,Ai,ci,Af,cf,_,hi,hf'⟩:=hm
    rcases hf with hf | hf
    ·obtain ⟨cs,_,_,o,_,_,_,ho⟩:=hi.mem hf
     exact ⟨m,o,ho⟩
    ·obtain ⟨cs,_,_,o,_,_,_,ho⟩:=hf'.mem hf
     exact ⟨m,o,ho⟩
end
def deO:DE VH RO where
 rel w h x:=(∃ n,ROn n w h.2 h.1.1 x)/\∀ g,h.2 g->g<w.heap.size
 dn h _ p:=∀ g,p=some g->¬ h.2 g
 goL h k a:=⟨h.1.elim fun n h=>⟨n,h.goL k a⟩,fun g hg=>Nat.lt_of_lt_of_le (h.2 g hg) k.size⟩
 new h k:=fun g e hg=>by have:=h.2 g hg; have:=k g e; omega
 app h a k:=fun g e hg=>by
  rcases k g e with h1 | h1
  ·have:=h.2 g hg; omega
  ·exact a _ h1 g rfl hg
def deR:DE RH RV where
 rel w h x:=(∃ n,RVw (ROn n w h.2) w h.2 h.1.1 x)/\∀ g,h.2 g->g<w.heap.size
 dn h _ p:=∀ g,p=some g->¬ h.2 g
 goL h k a:=⟨h.1.elim fun n h=>⟨n,h.goL k a (fun _ _ q=>q.goL k a)⟩,fun g hg=>Nat.lt_of_lt_of_le (h.2 g hg) k.size⟩
 new h k:=fun g e hg=>by have:=h.2 g hg; have:=k g e; omega
 app h a k:=fun g e hg=>by
  rcases k g e with h1 | h1
  ·have:=h.2 g hg; omega
  ·exact a _ h1 g rfl hg
section
variable {w:World} {F:Nat->Prop} {p:Option Nat}
theorem OrD.nil {H X:Type} {Q:Option Nat->Prop} {d:DE H X} {n:Nat}:OrD Q d [] [] n:=fun _ _ _=>DnD.nil
theorem deO_nil:RelD deO w [(pnil,noF)] [.nil]:=RelD.cons ⟨⟨0,rfl⟩,fun _ h=>h.elim⟩ RelD.nil
theorem deO_nilD:DnD deO [(pnil,noF)] [.nil] p:=DnD.cons (fun _ _ h=>h) DnD.nil
theorem deR_open {v:RC} {x:RV} (h:RelD deR w [(v,F)] [x]):∃ A c,∃ o:OV,v.1=cellsV x.1 false x.2.1.1 (.slice A x.2.1.2.1.length c) x.2.1.2.2 o.1/\Rd vi w A c x.2.1.2.1/\(x.2.1.2.1≠[]->∀ q,blk A=some q->F q)/\RelD deO w [(o,F)] [x.2.2]:=by
 obtain ⟨⟨n,A,c,o,h1,h2,h3,h4⟩,hF⟩:=h.one
 have ho:o.oneCell'=true:=by rw [h4.ptr]; rfl
 exact ⟨A,c,⟨o,ho⟩,h1,h2,h3,RelD.cons ⟨⟨n,h4⟩,hF⟩ RelD.nil⟩
theorem deR_pack {k:Int} {neg:Bool} {L:List Int} {s:List UInt8} {A:Option Addr} {c:Nat} {o:OV} {y:RO} {F':Nat->Prop} (hR:Rd vi w A c L) (ho:RelD deO w [(o,F)] [y]) (hF:∀ g,F g->F' g) (hA:L≠[]->∀ q,blk A=some q->F' q) (hs:∀ g,F' g->g<w.heap.size) :
  RelD deR w [(⟨cellsV k false neg (.slice A L.length c) s o.1,cellsV_ok rfl o.2⟩,F')] [(k,(neg,L,s),y)]:=by
 obtain ⟨⟨n,h⟩,_⟩:=ho.one
 exact RelD.cons ⟨⟨n,A,c,o.1,rfl,hR,hA,h.mono hF⟩,hs⟩ RelD.nil
theorem deR_openD {v:RC} {x:RV} (h:RelD deR w [(v,F)] [x]):∃ A c,∃ o:OV,v.1=cellsV x.1 false x.2.1.1 (.slice A x.2.1.2.1.length c) x.2.1.2.2 o.1/\Rd vi w A c x.2.1.2.1/\RelD deO w [(o,F)] [x.2.2] /\
  (∀ p,DnD deR [(v,F)] [x] p->Dn x.2.1.2.1 (blk A) p)/\(∀ p,DnD deR [(v,F)] [x] p->DnD deO [(o,F)] [x.2.2] p):=by
 obtain ⟨A,c,o,h1,h2,h3,h4⟩:=deR_open h
 exact ⟨A,c,o,h1,h2,h4,fun p hd hne g hg e=>hd.one g e (h3 hne g hg),fun p hd=>DnD.cons (fun g e=>hd.one g e) DnD.nil⟩
def FR (A:Option Addr) (L:List Int) (F:Nat->Prop):Nat->Prop:=fun q=>(L≠[]/\blk A=some q)∨F q
abbrev rcP (k:Int) (neg:Bool) (A:Option Addr) (c:Nat) (L:List Int) (s:List UInt8) (o:OV):RC:=⟨cellsV k false neg (.slice A L.length c) s o.1,cellsV_ok rfl o.2⟩
theorem deR_packD {k:Int} {neg:Bool} {L:List Int} {s:List UInt8} {A:Option Addr} {c:Nat} {o:OV} {y:RO} (hR:Rd vi w A c L) (ho:RelD deO w [(o,F)] [y]) :
  RelD deR w [(rcP k neg A c L s o,FR A L F)] [(k,(neg,L,s),y)]/\∀ p,Dn L (blk A) p->DnD deO [(o,F)] [y] p->DnD deR [(rcP k neg A c L s o,FR A L F)] [(k,(neg,L,s),y)] p:=by
 refine ⟨deR_pack hR ho (fun g hg=>.inr hg) (fun hne q hq=>.inl ⟨hne,hq⟩) fun g hg=>?_,fun p h1 h2=>DnD.cons (fun g e hg=>?_) DnD.nil⟩
 ·rcases hg with ⟨hne,hq⟩ | hg
  ·obtain ⟨ad,rfl,_⟩:=hR.cells hne
   exact hR.lt hne hq
  ·exact ho.one.2 g hg
 ·rcases hg with ⟨hne,hq⟩ | hg
  ·exact h1 hne g hq e
  ·exact h2.one g e hg
theorem ow26:ckOwK Tryz.prog 26 38 6 72=true:=by kernel_rfl
theorem RVw.all {hs:List RH}:∀ {xs:List RV},hs.length=xs.length->(∀ (i:Nat) (h:RH) (x:RV),hs[i]? = some h->xs[i]? = some x->∃ n,RVw (ROn n w F) w F h.1.1 x)->∃ n,∀ (i:Nat) (h:RH) (x:RV),hs[i]? = some h->xs[i]? = some x->RVw (ROn n w F) w F h.1.1 x:=by
 induction hs with
 | nil=>intro xs _ _; exact ⟨0,fun i h x hh=>by simp at hh⟩
 | cons a hs ih =>
  intro xs hl h
  cases xs with
  | nil=>simp at hl
  | cons b xs =>
   obtain ⟨n1,k1⟩:=h 0 a b rfl rfl
   obtain ⟨n2,k2⟩:=ih (xs:=xs) (by simpa using hl) (fun i h' x hh hx=>h (i+1) h' x hh hx)
   refine ⟨max n1 n2,fun i h' x hh hx=>?_⟩
   cases i with
   | zero=>cases hh; cases hx; exact k1.mono (fun _ q=>q) (fun _ _ q=>q.le (Nat.le_max_left _ _))
   | succ i=>exact (k2 i h' x hh hx).mono (fun _ q=>q) (fun _ _ q=>q.le (Nat.le_max_right _ _))
def FO (g:Nat) (Ai Af:Option Addr) (hi hf:List RH):Nat->Prop:=fun q=>q=g∨blk Ai=some q∨blk Af=some q∨(∃ h,h∈hi/\h.2 q)∨∃ h,h∈hf/\h.2 q
theorem deO_packD {g ci cf:Nat} {deep order:Int} {its fr:List RV} {Ai Af:Option Addr} {hi hf:List RH} (hB:Bl w g 111 (objC (.slice Ai its.length ci) deep order (.slice Af fr.length cf)))
  (hI:RdK 6 vr w Ai ci hi) (rI:RelD deR w hi its) (hF:RdK 6 vr w Af cf hf) (rF:RelD deR w hf fr) (lI:Lt (blk Ai) w.heap.size) (lF:Lt (blk Af) w.heap.size) :
  RelD deO w [(ovP g,FO g Ai Af hi hf)] [.mk g its order fr deep]/\∀ q,Dj (some g) q->Dj (blk Ai) q->Dj (blk Af) q->DnD deR hi its q->DnD deR hf fr q->DnD deO [(ovP g,FO g Ai Af hi hf)] [.mk g its order fr deep] q:=by
 have at':∀ {hs:List RH} {xs:List RV},RelD deR w hs xs->∀ h∈hs,∃ i x,hs[i]? = some h/\xs[i]? = some x:=fun {hs xs} r h hh=>by
  obtain ⟨i,hi,rfl⟩:=List.getElem_of_mem hh
  exact ⟨i,_,List.getElem?_eq_getElem hi,List.getElem?_eq_getElem (by rw [<-r.1]; exact hi)⟩
 obtain ⟨n1,k1⟩:=RVw.all (F:=FO g Ai Af hi hf) rI.1 (fun i h x hh hx=>by
  obtain ⟨⟨n,k⟩,_⟩:=rI.2 i h x hh hx
  have hsub:∀ q,h.2 q->FO g Ai Af hi hf q:=fun q hq=>.inr (.inr (.inr (.inl ⟨h,List.mem_of_getElem? hh,hq⟩)))
  exact ⟨n,k.mono hsub (fun _ _ q=>q.mono hsub)⟩)
 obtain ⟨n2,k2⟩:=RVw.all (F:=FO g Ai Af hi hf) rF.1 (fun i h x hh hx=>by
  obtain ⟨⟨n,k⟩,_⟩:=rF.2 i h x hh hx
  have hsub:∀ q,h.2 q->FO g Ai Af hi hf q:=fun q hq=>.inr (.inr (.inr (.inr ⟨h,List.mem_of_getElem? hh,hq⟩)))
  exact ⟨n,k.mono hsub (fun _ _ q=>q.mono hsub)⟩)
 refine ⟨RelD.cons ⟨⟨max n1 n2+1,rfl,.inl rfl,Ai,ci,Af,cf,hB,⟨hi,hI,rI.1,fun q hq=>.inr (.inl hq),fun i h x hh hx=>?_⟩,⟨hf,hF,rF.1,fun q hq=>.inr (.inr (.inl hq)),fun i h x hh hx=>?_⟩⟩,fun q hq=>?_⟩ RelD.nil,fun q d1 d2 d3 d4 d5=>DnD.cons (fun r e hq=>?_) DnD.nil⟩
 ·exact (k1 i h x hh hx).mono (fun _ q=>q) (fun _ _ q=>q.le (Nat.le_max_left _ _))
 ·exact (k2 i h x hh hx).mono (fun _ q=>q) (fun _ _ q=>q.le (Nat.le_max_right _ _))
 ·rcases hq with rfl | hq | hq | ⟨h,hh,hq⟩ | ⟨h,hh,hq⟩
  ·exact hB.lt
  ·exact lI q hq
  ·exact lF q hq
  ·obtain ⟨i,x,a,b⟩:=at' rI h hh; exact (rI.2 i h x a b).2 q hq
  ·obtain ⟨i,x,a,b⟩:=at' rF h hh; exact (rF.2 i h x a b).2 q hq
 ·subst e
  rcases hq with rfl | hq | hq | ⟨h,hh,hq⟩ | ⟨h,hh,hq⟩
  ·exact d1 _ rfl rfl
  ·exact d2 _ hq rfl
  ·exact d3 _ hq rfl
  ·obtain ⟨i,x,a,b⟩:=at' rI h hh; exact d4 i h x a b _ rfl hq
  ·obtain ⟨i,x,a,b⟩:=at' rF h hh; exact d5 i h x a b _ rfl hq
end
end
 
section
open Go Go.RowKit
attribute [local irreducible] WL WC WX WQ WK WJ Yld Eff Ef0 Fn
def km (neg:Bool) (l:List Int) (K:Bool->(List Int)->Prop):Prop :=
 (l.length<=maxLen ->
 Lp1 (fun (n:Int) kont1=>((decide ((0:Int)<n))=true->(In .i64 (n - (1:Int)))) /\
 ((decide ((0:Int)<n))=true->(0<=n - (1:Int)/\n - (1:Int)<(l.length:Nat))) /\
 ((((decide ((0:Int)<n)) && (decide ((l.getD ((n - (1:Int)).toNat) 0)=(0:Int))))=true->(In .i64 (n - (1:Int))) /\
 kont1 (n - (1:Int))) /\
 (((decide ((0:Int)<n)) && (decide ((l.getD ((n - (1:Int)).toNat) 0)=(0:Int))))=false->(0<=(0:Int)/\(0:Int)<=n/\n<=(l.length:Nat)) /\
 K (neg && (decide ((0:Int)<n))) ((l.drop 0).take (n.toNat - 0))))) (l.length:Int))
def kx (n:Int) (K:Bool->(List Int)->Prop):Prop :=
 Lp2 (fun (l:List Int) (m:Int) kont1=>((¬ (m=(0:Int))->((10000:Int)≠0) /\
 ∃ J1:Int->Prop,((((m.tmod (10000:Int))<(0:Int)->(In .i64 (0 - (m.tmod (10000:Int)))) /\
 J1 (0 - (m.tmod (10000:Int)))) /\
 (¬ ((m.tmod (10000:Int))<(0:Int))->J1 (m.tmod (10000:Int))))) /\
 (∀ d:Int,J1 d->((l.length+(([d]:List Int)).length)*8<=140737488355328) /\
 ((10000:Int)≠0) /\
 kont1 (l++([d]:List Int)) (IntKind.wrap .i64 (m.tdiv (10000:Int))))) /\
 (m=(0:Int)->km (decide (n<(0:Int))) l (fun (a0:Bool) (a5:List Int) =>
 K a0 a5)))) [] n
set_option maxHeartbeats 8000000 in
theorem W_smithyref9_trim {w:World} {neg:Bool} {l:List Int} {A_l:Option Addr} {c_l:Nat} {n_l:Nat} {K:Bool->(List Int)->Prop} (hl:Rd vi w A_l c_l l) (b4:n_l=l.length) (H:km neg l K):Fn Tryz.prog 115 ⟨[.bool neg,.slice A_l n_l c_l]⟩ w (fun v w'=>w.grownBy w' none/\∃ (r_Neg:Bool),∃ (r_L:List Int),∃ (a1:Option Addr),∃ (a2:Nat),v=.agg ⟨[.bool r_Neg,.slice a1 r_L.length a2]⟩/\Rd vi w' a1 a2 r_L/\Orig (r_L≠[]) (blk a1) w.heap.size [(l≠[],blk A_l)]/\K r_Neg r_L):=by
 subst b4
 unfold km at H
 refine Fn.enter (by kernel_rfl) Tryz.func115 rfl Tryz.ntmps115 rfl ?_
 replace H:=H (Nat.le_trans hl.cap hl.max)
 refine zd (zb (WL.alloc rfl zero35 (fun g1 w1 hB1 hg1 hl1=>?_)))
 have gr1:=hg1
 refine ze (za (zd (zb (yp (h:=(yp (h:=(yp (h:=(ze (za (zd (WC.block ?_)))))))))))))
 obtain ⟨I1,mu1,a8,HR1⟩:=H
 refine z3 (fun n' L' w'=>∃ (n:Int),n'=mu1 n/\L'=[(0,.bool neg),(1,.slice A_l l.length c_l),(4,.pointer (some ⟨g1,0,none⟩)),(5,.int .i64 n)]/\I1 n/\w1=w') _ _ ⟨(l.length:Int),rfl,rfl,a8,rfl⟩ sb ?_
 clear a8
 rintro _ _ _ ⟨n,rfl,rfl,hI1,rfl⟩
 have H:=HR1 n hI1
 refine zd (zd (zb (yp (h:=(yp (h:=(yp (h:=?_))))))))
 obtain ⟨h1,H⟩:=H
 obtain ⟨h2,H⟩:=H
 refine zV 7 (fun L' w'=>∃ q1:Bool,L'=[(17,.bool q1),(0,.bool neg),(1,.slice A_l l.length c_l),(4,.pointer (some ⟨g1,0,none⟩)),(5,.int .i64 n)]/\((decide ((0:Int)<n)) && (decide ((l.getD ((n - (1:Int)).toNat) 0)=(0:Int))))=q1/\w1=w') ?_ (fun hQ=>?_)
 ·rintro _ _ ⟨q1,rfl,rfl,rfl⟩
  refine ze (za (zm rfl (fun b1=>?_) (fun b1=>?_)))
  ·replace H:=H.1 (b1)
   refine zo (za (WC.block (zb (yp (h:=?_)))))
   obtain ⟨h3,H⟩:=H
   exact zg rfl (Yld.sub rfl rfl h3) (yp (h:=(ze (zi (zX _ ⟨n - (1:Int),rfl,rfl,H.1,rfl⟩ sb H.2)))))
  ·replace H:=H.2 (b1)
   refine zy (zk (zk (zl (za (zd (zb (yp (h:=(yp (h:=(zV 3 (fun L' w'=>∃ q2:Bool,L'=[(24,.bool q2),(1,.slice A_l l.length c_l),(4,.pointer (some ⟨g1,0,none⟩)),(5,.int .i64 n)]/\(neg && (decide ((0:Int)<n)))=q2/\w1=w') ?_ (fun hQ=>?_))))))))))))
   ·rintro _ _ ⟨q2,rfl,rfl,rfl⟩
    refine yp (h:=(yp (h:=?_)))
    obtain ⟨h4,H⟩:=H
    exact WL.cut qD (hl.grown gr1) rfl rfl rfl rfl rfl rfl h4.1 h4.2.1 h4.2.2 (fun a6 a7 hR1 hb1=>zg rfl (z6 (us:=[.bool (neg && (decide ((0:Int)<n))),.slice a6 (((l.drop 0).take (n.toNat - 0)).length) a7]) zero35 places35 rfl rfl) (zZ (vs:=[.bool (neg && (decide ((0:Int)<n))),.slice a6 (((l.drop 0).take (n.toNat - 0)).length) a7]) qD rfl rfl rfl (qJ rfl (qJ rfl jl)) hB1 rfl rfl (fun w2 hB2 hg2=>ze (za (zt (qi qD rfl rfl rfl hB2 rfl ⟨(js gr1 hg2 (Ge.le (Ge.box hl1) (Nat.le_refl _))),neg && (decide ((0:Int)<n)),((l.drop 0).take (n.toNat - 0)),a6,a7,rfl,(hR1.go hg2 (Dn.sub (Dn.new (fun hx_=>hl.lt' hx_) (Ge.le (Ge.box hl1) (Nat.le_refl _))) ne_cut hb1)),(Orig.sub (Orig.par (List.Mem.head _)) ne_cut hb1),H⟩))))))
   ·clear H
    rcases Bool.eq_false_or_eq_true (neg) with b2 | b2
    ·exact gp b2 (h:=(gp b2 (h:=(zg rfl (zQ (okb b2) rfl) (wk (hQ _ _ ⟨decide ((0:Int)<n),rfl,by rw [b2] <;> rfl,rfl⟩))))))
    ·exact gn b2 (h:=(gn b2 (h:=(zg rfl (zK (okb b2) rfl) (wk (hQ _ _ ⟨false,rfl,by rw [b2] <;> rfl,rfl⟩))))))
 ·clear H
  rcases Bool.eq_false_or_eq_true (decide ((0:Int)<n)) with b3 | b3
  ·exact gp b3 (h:=(gp b3 (h:=(zc rfl rfl (okb b3) rfl (Yld.sub rfl rfl (h1 b3)) (zc rfl rfl (okb b3) rfl (zB qD (hl.grown gr1) rfl rfl rfl rfl (h2 b3).1 (h2 b3).2) (zc rfl rfl (okb b3) rfl (zM 0 qD (hl.grown gr1) rfl rfl (iltN (h2 b3) rfl)) (gp b3 (h:=(zg rfl (zQ (okb b3) rfl) (wk (hQ _ _ ⟨decide ((l.getD ((n - (1:Int)).toNat) 0)=(0:Int)),rfl,by rw [b3] <;> rfl,rfl⟩)))))))))))
  ·exact gn b3 (h:=(gn b3 (h:=(gn b3 (h:=(gn b3 (h:=(gn b3 (h:=(gn b3 (h:=(zg rfl (zK (okb b3) rfl) (wk (hQ _ _ ⟨false,rfl,by rw [b3] <;> rfl,rfl⟩))))))))))))))
set_option maxHeartbeats 8000000 in
theorem W_smithyref9_Of {w:World} {n:Int} {K:Bool->(List Int)->Prop} (H:kx n K):Fn Tryz.prog 53 ⟨[.int .i64 n]⟩ w (fun v w'=>w.grownBy w' none/\∃ (r_Neg:Bool),∃ (r_L:List Int),∃ (a1:Option Addr),∃ (a2:Nat),v=.agg ⟨[.bool r_Neg,.slice a1 r_L.length a2]⟩/\Rd vi w' a1 a2 r_L/\Orig (r_L≠[]) (blk a1) w.heap.size []/\K r_Neg r_L):=by
 unfold kx at H
 refine Fn.enter (by kernel_rfl) Tryz.func53 rfl Tryz.ntmps53 rfl ?_
 refine zd (zb (WL.alloc rfl zero35 (fun g1 w1 hB1 hg1 hl1=>ze (za (zd (zb (yp (h:=(ze (za (zd (zb (yp (h:=(yp (h:=(ze (za (zd (WC.block ?_))))))))))))))))))))
 obtain ⟨I1,mu1,a8,HR1⟩:=H
 refine z3 (fun n' L' w'=>∃ (l:List Int),∃ (A_l:Option Addr),∃ (c_l:Nat),∃ (n_l:Nat),∃ (m:Int),n'=mu1 l m/\L'=[(0,.int .i64 n),(2,.pointer (some ⟨g1,0,none⟩)),(3,.slice A_l n_l c_l),(4,.int .i64 m)]/\I1 l m/\n_l=l.length/\w.grownBy w' none/\Bl w' g1 35 [.bool false,.slice none 0 0]/\Own vi w' w.heap.size 3 A_l c_l l/\Dj (some g1) (blk A_l)) _ _ ⟨[],none,0,0,n,rfl,rfl,a8,rfl,hg1,hB1,(Own.nil vi w1 w.heap.size 3),Dj.nr⟩ sb ?_
 clear a8
 rintro _ _ w2 ⟨l,A_l,c_l,n_l,m,rfl,rfl,hI1,rfl,gr2,k1,k2,dj1⟩
 have H:=HR1 l m hI1
 refine zd (zd (zb (yp (h:=(yp (h:=(ze (za (zm rfl (fun b1=>?_) (fun b1=>?_))))))))))
 ·replace H:=H.1 (jw b1)
  refine zo (za (WC.block (zd (zb (yp (h:=?_))))))
  obtain ⟨h1,H⟩:=H
  refine zg rfl (qA rfl rfl h1) (yp (h:=(ze (za (zd ?_)))))
  obtain ⟨J1,H,hJ1⟩:=H
  refine qo (fun L' w'=>∃ (d:Int),L'=[(0,.int .i64 n),(2,.pointer (some ⟨g1,0,none⟩)),(3,.slice A_l l.length c_l),(4,.int .i64 m),(5,.int .i64 d)]/\J1 d/\w2=w') ?_ (fun hQ=>?_)
  ·clear H
   rintro _ _ ⟨d,rfl,H,rfl⟩
   replace H:=hJ1 d H
   refine za (zd (zb (yp (h:=(yp (h:=(z5 qD rfl rfl rfl (qJ rfl jl) rfl (by omega) (fun g2 w3 hB2 hg2 hl2=>?_))))))))
   have hO1:Own vi w3 w.heap.size 3 (some ⟨g2,0,none⟩) 1 ([d]:List Int):=Own.ofBl hB2 (Nat.le_trans (qE gr2) hl2) (by simp [maxLen]) rfl
   have gr3:=qG gr2 hg2
   have k3:=k1.g0 hg2
   have k4:=k2.grown hg2
   obtain ⟨h2,H⟩:=H
   refine z4 qD rfl rfl One.i k4 rfl rfl hO1.rd rfl rfl h2 (jT h2) (qE gr3) (fun a9 b0 w4 hO2 hg3 hk1=>yp (h:=(ze (za (zb (yp (h:=?_)))))))
   obtain ⟨h3,H⟩:=H
   exact zg rfl (Yld.quo' rfl rfl h3) (yp (h:=(ze (zi (zX _ ⟨l++([d]:List Int),a9,b0,(l++([d]:List Int)).length,IntKind.wrap .i64 (m.tdiv (10000:Int)),rfl,rfl,H.1,rfl,(js gr3 hg3 k4.ge'),(k3.go hg3 dj1),hO2,(Dj.app dj1.symm k3.lt' hk1).symm⟩ sb H.2)))))
  ·clear hJ1
   refine zd (zb (yp (h:=(yp (h:=(ze (za (zm rfl (fun b2=>?_) (fun b2=>?_)))))))))
   ·replace H:=H.1 (of_decide_eq_true b2)
    refine zb (yp (h:=?_))
    obtain ⟨h4,H⟩:=H
    exact zg rfl (Yld.neg qD rfl h4) (yp (h:=(ze (WX.weaken sb (hQ _ _ ⟨0 - (m.tmod (10000:Int)),rfl,H,rfl⟩)))))
   ·replace H:=H.2 (of_decide_eq_false b2)
    exact zo (WX.weaken sb (hQ _ _ ⟨m.tmod (10000:Int),rfl,H,rfl⟩))
 ·replace H:=H.2 (jq b1)
  refine zy (zk (zk (zl (za (zd (zb (yp (h:=(yp (h:=(yp (h:=(zx rfl rfl (W_smithyref9_trim k2.rd rfl H) ?_)))))))))))))
  rintro _ w5 ⟨hg4,a0,a5,a3,a4,rfl,ht24_L,ho1,H⟩
  exact zZ (vs:=[.bool a0,.slice a3 a5.length a4]) qD rfl rfl rfl (qJ rfl (qJ rfl jl)) (k1.g0 hg4) rfl rfl (fun w6 hB3 hg5=>ze (za (zt (qi qD rfl rfl rfl hB3 rfl ⟨(js (qG gr2 hg4) hg5 (Ge.le (Ge.box hl1) (Nat.le_refl _))),a0,a5,a3,a4,rfl,(ht24_L.go hg5 (Orig.apart ho1 k1.lt' (orC (Dn.of dj1.symm) orN))),(Orig.trans ho1 (qE gr2) (orC (Orig.new k2.ge') orN)),H⟩))))
end
 
section
open Go Go.RowKit
attribute [local irreducible] WL WC WX WQ WK WJ Yld Eff Ef0 Fn
def j5 (n:Int) (K:RV->Prop):Prop:=kx n fun s L=>K (3,(s,L,[]),.nil)
theorem Int_fn {w:World} {neg:Bool} {L:List Int} {A:Option Addr} {c:Nat} (hR:Rd vi w A c L):Fn Tryz.prog 63 ⟨[.agg ⟨[.bool neg,.slice A L.length c]⟩]⟩ w
  (fun v w'=>w.grownBy w' none/\v=.agg ⟨cellsV 3 false neg (.slice A L.length c) [] (.pointer none)⟩):=by
 refine Fn.enter (by kernel_rfl) Tryz.func63 rfl Tryz.ntmps63 rfl ?_
 refine zd ?_
 refine zb ?_
 refine qn (us:=[.bool neg,.slice A L.length c]) rfl rfl rfl (fun g1 w1 hB1 hg1 hl1=>?_)
 refine WL.alloc rfl zero38 (fun g2 w2 hB2 hg2 hl2=>?_)
 refine ze (za ?_)
 refine zd ?_
 refine zb ?_
 have gr2:=qG hg1 hg2
 refine zg rfl (qt (vs:=[.bool neg,.slice A L.length c]) qD (hB1.g0 hg2) rfl rfl rfl rfl) ?_
 refine zg rfl (z6 (us:=[.int .i64 (3:Int),.bool false,.bool neg,.slice A L.length c,vs ([]:List UInt8),.pointer none]) zero38 places38 rfl rfl) ?_
 refine zZ (vs:=[.int .i64 (3:Int),.bool false,.bool neg,.slice A L.length c,vs ([]:List UInt8),.pointer none]) qD rfl rfl rfl (qJ rfl (qJ rfl (qJ rfl (qJ rfl (qJ rfl (qJ rfl jl)))))) hB2 rfl rfl (fun w3 hB3 hg3=>?_)
 have gr3:=js gr2 hg3 (Ge.le (Ge.box hl2) (qE hg1))
 refine ze (za ?_)
 refine zt ?_
 exact qi qD rfl rfl rfl hB3 rfl ⟨gr3,rfl⟩
theorem W_smithyref14_Small {w:World} {n:Int} {K:RV->Prop} (H:j5 n K):Fn Tryz.prog 11 ⟨[.int .i64 n]⟩ w
  (fun v w'=>w.grownBy w' none/\∃ (v_r:RC),∃ (F_r:Nat->Prop),∃ (r:RV),v=(.agg ⟨v_r.1⟩)/\RelD deR w' [(v_r,F_r)] [r]/\(∀ p:Option Nat,Lt p w.heap.size->DnD deR [(v_r,F_r)] [r] p)/\K r):=by
 refine Fn.enter (by kernel_rfl) Tryz.func11 rfl Tryz.ntmps11 rfl ?_
 refine zd ?_
 refine zb ?_
 refine WL.alloc rfl zero38 (fun g1 w1 hB1 hg1 hl1=>?_)
 refine ze (za ?_)
 refine zd ?_
 refine zb ?_
 refine zg rfl (zh qD rfl) ?_
 refine zx rfl rfl (W_smithyref9_Of H) ?_
 rintro _ w2 ⟨hg2,neg,L,A,c,rfl,hR,hO,H⟩
 have gr2:=qG hg1 hg2
 refine zx rfl rfl (Int_fn hR) ?_
 rintro _ w3 ⟨hg3,rfl⟩
 have gr3:=qG gr2 hg3
 refine zZ (vs:=cellsV 3 false neg (.slice A L.length c) [] (.pointer none)) qD rfl rfl rfl (cellsV_ok rfl rfl).2 ((hB1.g0 hg2).g0 hg3) rfl rfl (fun w4 hB4 hg4=>?_)
 have gr4:=js gr3 hg4 (Ge.box hl1)
 have hA:Dn L (blk A) (some g1):=hO.apart hB1.lt' (fun _ h=>nomatch h)
 have hp:=deR_packD (k:=(3:Int)) (neg:=neg) (s:=[]) (c:=c) ((hR.grown hg3).go hg4 hA) (deO_nil (w:=w4))
 refine ze (za ?_)
 refine zt ?_
 exact qi qD rfl rfl rfl hB4 rfl ⟨gr4,_,_,_,rfl,hp.1,fun p hlt=>hp.2 p (hO.apart (fun g e=>Nat.lt_of_lt_of_le (hlt g e) (qE hg1)) (fun _ h=>nomatch h)) deO_nilD,H⟩
end
 
section
open Go Go.RowKit
attribute [local irreducible] WL WC WX WQ WK WJ Yld Eff Ef0 Fn
def jy (n:Int) (below:Int) (K:Int->Prop):Prop :=
 (below≠0) /\
 (In .i64 ((n.tmod below)+below)) /\
 (below≠0) /\
 K (((n.tmod below)+below).tmod below)
def jY (l:List RV) (K:(List RV)->Prop):Prop :=
 (l.length<=maxLen ->
 (0<=(l.length:Int)/\(l.length:Int)*72<=140737488355328/\(l.length:Int)<=140737488355328) /\
 Lp2 (fun (out:List RV) (i:Int) kont1=>((i<(l.length:Int)->(0<=i/\i<(l.length:Nat)) /\
 ((out.length+(([l.getD i.toNat rv0]:List RV)).length)*72<=140737488355328) /\
 (In .i64 (i+(1:Int))) /\
 kont1 (out++([l.getD i.toNat rv0]:List RV)) (i+(1:Int))) /\
 (¬ (i<(l.length:Int))->K out))) ([]:List RV) (0:Int))
def jX (s:List UInt8) (K:RV->Prop):Prop :=
 K (((4:Int),(false,([]:List Int),s),RO.nil):RV)
def j6 (l:List RV) (K:RV->Prop):Prop :=
 (l.length<=maxLen ->
 jY l (fun (t4:List RV) =>
 ∀ g2:Nat,K (((6:Int),(false,([]:List Int),([]:List UInt8)),(RO.mk g2 t4 (0:Int) ([]:List RV) (0:Int))):RV)))
def kd (n:Int) (K:PV->RV->Prop):Prop :=
 jy n (3:Int) (fun (t7:Int) =>
 (0<=t7/\t7<(3:Nat)) /\
 jy n (5:Int) (fun (t11:Int) =>
 ∃ J1:Bool->Prop,(((t11=(0:Int)->J1 (decide (t11=(0:Int)))) /\
 (¬ (t11=(0:Int))->((t11=(1:Int)->J1 (decide (t11=(1:Int)))) /\
 (¬ (t11=(1:Int))->J1 (decide (t11=(2:Int)))))))) /\
 (∀ t12:Bool,J1 t12->((t12=true->((10:Int)≠0) /\
 qL (n.tmod (10:Int)) (fun (t2:PV) =>
 ((10:Int)≠0) /\
 j5 (n.tmod (10:Int)) (fun (t21:RV) =>
 K t2 t21))) /\
 (t12=false->((t11=(3:Int)->kr (([([97]:List UInt8),([98]:List UInt8),([97,98]:List UInt8)]:List (List UInt8)).getD t7.toNat []) (fun (t22:PV) =>
 jX (([([97]:List UInt8),([98]:List UInt8),([97,98]:List UInt8)]:List (List UInt8)).getD t7.toNat []) (fun (t27:RV) =>
 K t22 t27))) /\
 (¬ (t11=(3:Int))->((3:Int)≠0) /\
 qL (n.tmod (3:Int)) (fun (t30:PV) =>
 kr (([([97]:List UInt8),([98]:List UInt8),([97,98]:List UInt8)]:List (List UInt8)).getD t7.toNat []) (fun (t32:PV) =>
 M_val_Tuple ([t30,t32]:List PV) (fun (t23:PV) =>
 ((3:Int)≠0) /\
 j5 (n.tmod (3:Int)) (fun (t37:RV) =>
 jX (([([97]:List UInt8),([98]:List UInt8),([97,98]:List UInt8)]:List (List UInt8)).getD t7.toNat []) (fun (t39:RV) =>
 j6 ([t37,t39]:List RV) (fun (t41:RV) =>
 K t23 t41)))))))))))))
def j4 (l:List Int) (K:(List PV)->(List RV)->Prop):Prop :=
 (l.length<=maxLen ->
 Lp3 (fun (a:List PV) (b:List RV) (i:Int) kont1=>((i<(l.length:Int)->(0<=i/\i<(l.length:Nat)) /\
 kd (l.getD i.toNat 0) (fun (t200:PV) (t201:RV) =>
 ((a.length+(([t200]:List PV)).length)*16<=140737488355328) /\
 ((b.length+(([t201]:List RV)).length)*72<=140737488355328) /\
 (In .i64 (i+(1:Int))) /\
 kont1 (a++([t200]:List PV)) (b++([t201]:List RV)) (i+(1:Int)))) /\
 (¬ (i<(l.length:Int))->K a b))) [] [] (0:Int))
set_option maxHeartbeats 8000000 in
theorem kp {w:World} {n:Int} {below:Int} {K:Int->Prop} (H:jy n below K):Fn Tryz.prog 12 ⟨[.int .i64 n,.int .i64 below]⟩ w (fun v w'=>w=w'/\∃ (r:Int),v=.int .i64 r/\K r):=by
 unfold jy at H
 refine Fn.enter (by kernel_rfl) Tryz.func12 rfl Tryz.ntmps12 rfl ?_
 refine zd (zb (yp (h:=(ze (za (zd (zb (yp (h:=(yp (h:=?_)))))))))))
 obtain ⟨h1,H⟩:=H
 refine zg rfl (qA rfl rfl h1) (yp (h:=?_))
 obtain ⟨h2,H⟩:=H
 refine zg rfl (Yld.add rfl rfl h2) (yp (h:=?_))
 obtain ⟨h3,H⟩:=H
 exact zg rfl (qA rfl rfl h3) (yp (h:=(ze (za (zt (zD rfl rfl ⟨rfl,((n.tmod below)+below).tmod below,rfl,H⟩))))))
set_option maxHeartbeats 8000000 in
theorem W_smithyref14_copied {w:World} {l:List RV} {A_l:Option Addr} {c_l:Nat} {a4:List RH} {n_l:Nat} {K:(List RV)->Prop} (hl:RdK 6 vr w A_l c_l a4) (b6:n_l=l.length) (a1:RelD deR w a4 l) (H:jY l K):Fn Tryz.prog 85 ⟨[.slice A_l n_l c_l]⟩ w (fun v w'=>w.grownBy w' none/\∃ (r:List RV),∃ (A_r:Option Addr),∃ (c_r:Nat),∃ (c0:List RH),v=.slice A_r r.length c_r/\OwnK 6 vr w' w.heap.size 38 A_r c_r c0/\RelD deR w' c0 r/\(∀ p:Option Nat,Lt p w.heap.size->DnD deR a4 l p->DnD deR c0 r p)/\DnD deR c0 r (blk A_r)/\K r):=by
 subst b6
 unfold jY at H
 refine Fn.enter (by kernel_rfl) Tryz.func85 rfl Tryz.ntmps85 rfl ?_
 replace H:=H (by rw [<-a1.1]; exact Nat.le_trans hl.cap hl.max)
 refine zd (zb (yp (h:=(ze (za (zd (zb (yp (h:=(yp (h:=?_)))))))))))
 obtain ⟨h1,H⟩:=H
 refine WL.makeCK (f:=vr) (B:=w.heap.size) vr_ok rfl ow26 rfl rfl h1.1 h1.2.1 h1.2.2 (Nat.le_refl _) (fun g1 w1 hO1 hg1 hl1=>?_)
 have hr1:RelD deR w1 ([]:List RH) ([]:List RV):=RelD.nil
 refine yp (h:=(ze (za (zd (zd (zb (yp (h:=(ze (za (WC.block ?_)))))))))))
 obtain ⟨I1,mu1,b5,HR1⟩:=H
 refine z3 (fun n' L' w'=>∃ (out:List RV),∃ (a5:Option Addr),∃ (a6:Nat),∃ (b8:Nat),∃ (a0:List RH),∃ (i:Int),n'=mu1 out i/\L'=[(0,.slice A_l l.length c_l),(3,.slice a5 b8 a6),(4,.int .i64 i)]/\I1 out i/\b8=out.length/\w.grownBy w' none/\OwnK 6 vr w' w.heap.size 38 a5 a6 a0/\RelD deR w' a0 out/\DnD deR a0 out (blk a5)/\OrD (fun p=>DnD deR a4 l p) deR a0 out w.heap.size) _ _ ⟨([]:List RV),(some ⟨g1,0,none⟩),(l.length:Int).toNat,0,([]:List RH),(0:Int),rfl,rfl,b5,(rfl.trans hr1.1),hg1,hO1,hr1,(DnD.nil (d:=deR)),(OrD.nil (d:=deR))⟩ sb ?_
 clear b5
 rintro _ _ w2 ⟨out,a5,a6,b8,a0,i,rfl,rfl,hI1,rfl,gr2,k1,k2,dj1,or1⟩
 have H:=HR1 out i hI1
 refine zd (zd (zb (yp (h:=(yp (h:=(yp (h:=(yp (h:=(ze (za (zm rfl (fun b1=>?_) (fun b1=>?_))))))))))))))
 ·replace H:=H.1 (of_decide_eq_true b1)
  refine zo (za (zd (WC.block (zb (yp (h:=(yp (h:=(yp (h:=?_))))))))))
  obtain ⟨h2,H⟩:=H
  refine zg rfl (Yld.iaddrK qD (hl.grown gr2) rfl rfl a1.1.symm rfl h2.1 h2.2) ?_
  obtain ⟨⟨v_el,F_el⟩,eh1,hR1⟩:=RelD.at (a1.grown gr2) rh0 rv0 (j:=i.toNat) (Nat.lt_of_lt_of_eq (iltN h2 a1.1.symm) (a1.grown gr2).1)
  have hv1:RelD deR w2 [(v_el,F_el)] [l.getD i.toNat rv0]:=RelD.cons hR1 RelD.nil
  refine zg rfl (zR (v:=(.agg ⟨v_el.1⟩)) (Yld.iloadK rh0 qD (hl.grown gr2) rfl rfl (iltN h2 a1.1.symm)) (congrArg (fun h=>Value.agg ⟨vr h⟩) eh1)) (WL.litK (f:=vr) ([(v_el,F_el)]:List RH) vr_ok rfl ow26 rfl rfl rfl (fun g3 w4 hB2 hg3 hl3=>?_))
  have hO3:OwnK 6 vr w4 w.heap.size 38 (some ⟨g3,0,none⟩) 1 ([(v_el,F_el)]:List RH):=OwnK.ofBl vr_ok hB2 (Nat.le_trans (qE gr2) hl3) (by simp [maxLen]) rfl
  have gr3:=qG gr2 hg3
  have k3:=k1.grown hg3
  have k4:=k2.grown hg3
  have hr2:RelD deR w4 ([(v_el,F_el)]:List RH) ([l.getD i.toNat rv0]:List RV):=(RelD.cons (RelD.one (hv1.grown hg3)) RelD.nil)
  have nd1:OrD (fun p=>DnD deR a4 l p) deR ([(v_el,F_el)]:List RH) ([l.getD i.toNat rv0]:List RV) w.heap.size:=(OrD.cons (d:=deR) (fun p_ hp_ q_=>(DnD.one (DnD.cons (DnD.at (q_) (a1.grown gr2).1 (Nat.lt_of_lt_of_eq (iltN h2 a1.1.symm) (a1.grown gr2).1) eh1) DnD.nil))) (fun _ _ _=>DnD.nil))
  have dj2:DnD deR ([(v_el,F_el)]:List RH) ([l.getD i.toNat rv0]:List RV) (blk a5):=(DnD.cons (d:=deR) (DnD.one (DnD.cons (DnD.at (a1.new k1.ge') (a1.grown gr2).1 (Nat.lt_of_lt_of_eq (iltN h2 a1.1.symm) (a1.grown gr2).1) eh1) DnD.nil)) DnD.nil)
  have dj3:DnD deR ([(v_el,F_el)]:List RH) ([l.getD i.toNat rv0]:List RV) (blk (some ⟨g3,0,none⟩)):=(DnD.cons (d:=deR) (DnD.one (hv1.new (Ge.box hl3))) DnD.nil)
  obtain ⟨h3,H⟩:=H
  have h4:((a0:List RH).length+([(v_el,F_el)]:List RH).length)*72<=140737488355328:=by rw [k4.1,hr2.1]; exact h3
  refine WL.appendK rfl ow26 k3 rfl k2.1.symm hO3.rd rfl rfl h4 (jT h4) (qE gr3) (fun a9 c3 w5 hO4 hg4 hk1=>?_)
  have el1:(a0++([(v_el,F_el)]:List RH)).length=(out++([l.getD i.toNat rv0]:List RV)).length:=by rw [List.length_append,List.length_append,k4.1,hr2.1]
  rw [el1]
  have hr3:RelD deR w5 (a0++([(v_el,F_el)]:List RH)) (out++([l.getD i.toNat rv0]:List RV)):=RelD.append (k4.go hg4 dj1) (hr2.go hg4 dj2)
  have nd2:OrD (fun p=>DnD deR a4 l p) deR (a0++([(v_el,F_el)]:List RH)) (out++([l.getD i.toNat rv0]:List RV)) w.heap.size:=OrD.append k4.1 or1 nd1
  have dj4:DnD deR (a0++([(v_el,F_el)]:List RH)) (out++([l.getD i.toNat rv0]:List RV)) (blk (some ⟨g3,0,none⟩)):=(DnD.append k4.1 (k2.new (Ge.box hl3)) dj3)
  have dj5:DnD deR (a0++([(v_el,F_el)]:List RH)) (out++([l.getD i.toNat rv0]:List RV)) (blk a9):=(DnD.append k4.1 (RelD.app k4 dj1 hk1) (RelD.app hr2 dj2 hk1))
  refine yp (h:=(ze (zi (za (zb (yp (h:=?_)))))))
  obtain ⟨h5,H⟩:=H
  exact zg rfl (Yld.add rfl rfl h5) (yp (h:=(ze (zX _ ⟨out++([l.getD i.toNat rv0]:List RV),a9,c3,(out++([l.getD i.toNat rv0]:List RV)).length,a0++([(v_el,F_el)]:List RH),i+(1:Int),rfl,rfl,H.1,rfl,(js gr3 hg4 k3.ge'),hO4,hr3,dj5,nd2⟩ sb H.2))))
 ·replace H:=H.2 (of_decide_eq_false b1)
  exact zy (zk (zk (zl (za (zd (zb (yp (h:=(yp (h:=(ze (za (zt (zD rfl rfl ⟨gr2,out,a5,a6,a0,rfl,k1,k2,(fun p_ hp_ v0_=>or1 p_ hp_ v0_),dj1,H⟩))))))))))))))
set_option maxHeartbeats 8000000 in
theorem W_smithyref14_Str {w:World} {s:List UInt8} {K:RV->Prop} (H:jX s K):Fn Tryz.prog 114 ⟨[vs s]⟩ w (fun v w'=>w.grownBy w' none/\∃ (v_r:RC),∃ (F_r:Nat->Prop),∃ (r:RV),v=(.agg ⟨v_r.1⟩)/\RelD deR w' [(v_r,F_r)] [r]/\(∀ p:Option Nat,Lt p w.heap.size->DnD deR [(v_r,F_r)] [r] p)/\K r):=by
 unfold jX at H
 refine Fn.enter (by kernel_rfl) Tryz.func114 rfl Tryz.ntmps114 rfl ?_
 refine zd (zb (WL.alloc rfl zero38 (fun g1 w1 hB1 hg1 hl1=>ze (za (zd (zb (yp (h:=(zg rfl (z6 (us:=[.int .i64 (4:Int),.bool false,.bool false,.slice none 0 0,vs s,.pointer none]) zero38 places38 rfl rfl) (zZ (vs:=[.int .i64 (4:Int),.bool false,.bool false,.slice none 0 0,vs s,.pointer none]) qD rfl rfl rfl (qJ rfl (qJ rfl (qJ rfl (qJ rfl (qJ rfl (qJ rfl jl)))))) hB1 rfl rfl (fun w2 hB2 hg2=>ze (za (zt ?_)))))))))))))
 have hp1:=deR_packD (k:=(4:Int)) (neg:=false) (L:=([]:List Int)) (s:=s) (A:=none) (c:=0) (o:=pnil) (F:=noF) (Own.nil vi w2 w.heap.size 3).rd deO_nil
 exact qi qD rfl rfl rfl hB2 rfl ⟨(js hg1 hg2 (Ge.le (Ge.box hl1) (Nat.le_refl _))),(rcP (4:Int) false none 0 ([]:List Int) s pnil),(FR none ([]:List Int) noF),(((4:Int),(false,([]:List Int),s),RO.nil):RV),rfl,hp1.1,(fun p_ hp_=>hp1.2 _ (fun e_=>absurd rfl e_) deO_nilD),H⟩
set_option maxHeartbeats 8000000 in
theorem W_smithyref14_Tuple {w:World} {l:List RV} {A_l:Option Addr} {c_l:Nat} {a4:List RH} {n_l:Nat} {K:RV->Prop} (hl:RdK 6 vr w A_l c_l a4) (b6:n_l=l.length) (a1:RelD deR w a4 l) (H:j6 l K):Fn Tryz.prog 21 ⟨[.slice A_l n_l c_l]⟩ w (fun v w'=>w.grownBy w' none/\∃ (v_r:RC),∃ (F_r:Nat->Prop),∃ (r:RV),v=(.agg ⟨v_r.1⟩)/\RelD deR w' [(v_r,F_r)] [r]/\(∀ p:Option Nat,Lt p w.heap.size->DnD deR a4 l p->DnD deR [(v_r,F_r)] [r] p)/\K r):=by
 subst b6
 unfold j6 at H
 refine Fn.enter (by kernel_rfl) Tryz.func21 rfl Tryz.ntmps21 rfl ?_
 replace H:=H (by rw [<-a1.1]; exact Nat.le_trans hl.cap hl.max)
 refine zd (zb (WL.alloc rfl zero38 (fun g1 w1 hB1 hg1 hl1=>?_)))
 have gr1:=hg1
 refine ze (za (zd (zb (yp (h:=(zx rfl rfl (W_smithyref14_copied (hl.grown gr1) rfl (a1.grown gr1) H) ?_))))))
 rintro _ w2 ⟨hg2,t4,b0,c4,b7,rfl,ht4,c8,ho1,dj1,H⟩
 have hb1:=ht4.ge'
 have gr2:=qG gr1 hg2
 have k2:=hB1.g0 hg2
 refine zg rfl (z6 (us:=[.slice b0 t4.length c4,.slice none 0 0,.slice none 0 0,.slice none 0 0,.bool false,.int .i64 (0:Int),vs ([]:List UInt8),.int .i64 (0:Int),.int .i64 (0:Int),.int .i64 (0:Int),.bool false,.bool false,.slice none 0 0,vs ([]:List UInt8),.pointer none,.int .i64 (0:Int),.slice none 0 0,.bool false,.slice none 0 0,.bool false,.slice none 0 0,.int .i64 (0:Int),.pointer none]) zero111 places111 rfl rfl) (qn (us:=[.slice b0 t4.length c4,.slice none 0 0,.slice none 0 0,.slice none 0 0,.bool false,.int .i64 (0:Int),vs ([]:List UInt8),.int .i64 (0:Int),.int .i64 (0:Int),.int .i64 (0:Int),.bool false,.bool false,.slice none 0 0,vs ([]:List UInt8),.pointer none,.int .i64 (0:Int),.slice none 0 0,.bool false,.slice none 0 0,.bool false,.slice none 0 0,.int .i64 (0:Int),.pointer none]) rfl rfl rfl (fun g2 w3 hB2 hg3 hl2=>zg rfl (z6 (us:=[.int .i64 (6:Int),.bool false,.bool false,.slice none 0 0,vs ([]:List UInt8),.pointer (some ⟨g2,0,none⟩)]) zero38 places38 rfl rfl) (zZ (vs:=[.int .i64 (6:Int),.bool false,.bool false,.slice none 0 0,vs ([]:List UInt8),.pointer (some ⟨g2,0,none⟩)]) qD rfl rfl rfl (qJ rfl (qJ rfl (qJ rfl (qJ rfl (qJ rfl (qJ rfl jl)))))) (k2.g0 hg3) rfl rfl (fun w4 hB3 hg4=>?_))))
 have k6:=((ht4.base (fun g hg=>Nat.le_trans (qE gr1) (hb1 g hg))).grown hg3).go hg4 ((Dj.new hB1.lt' hb1).symm)
 refine ze (za (zt ?_))
 replace H:=H g2
 have hp1:=deO_packD (g:=g2) (ci:=c4) (cf:=0) (deep:=(0:Int)) (order:=(0:Int)) (its:=t4) (fr:=([]:List RV)) (Ai:=b0) (Af:=none) (hi:=b7) (hf:=([]:List RH)) (hB2.go hg4 ((Dj.new k2.lt' (Ge.box hl2)).symm)) k6.rd ((c8.grown hg3).go hg4 (ho1 _ hB1.lt' (a1.new (Ge.le (Ge.box hl1) (Nat.le_refl _))))) (RdK.nil vr_ok w4 (Nat.zero_le _)) (RelD.nil (d:=deR) (w:=w4)) k6.lt' (fun _ e_=>nomatch e_)
 have hp2:=deR_packD (k:=(6:Int)) (neg:=false) (L:=([]:List Int)) (s:=([]:List UInt8)) (A:=none) (c:=0) (o:=(ovP g2)) (F:=(FO g2 b0 none b7 ([]:List RH))) (Own.nil vi w4 w.heap.size 3).rd hp1.1
 exact qi qD rfl rfl rfl hB3 rfl ⟨(js (qG gr2 hg3) hg4 (Ge.le (Ge.box hl1) (Nat.le_refl _))),(rcP (6:Int) false none 0 ([]:List Int) ([]:List UInt8) (ovP g2)),(FR none ([]:List Int) (FO g2 b0 none b7 ([]:List RH))),(((6:Int),(false,([]:List Int),([]:List UInt8)),(RO.mk g2 t4 (0:Int) ([]:List RV) (0:Int))):RV),rfl,hp2.1,(fun p_ hp_ v0_=>have q_:=v0_; hp2.2 _ (fun e_=>absurd rfl e_) (hp1.2 _ (Dj.new hp_ (Ge.le (Ge.box hl2) (qE gr2))).symm (Dj.new hp_ k6.ge').symm Dj.nl (ho1 p_ (fun g_ e_=>Nat.lt_of_lt_of_le (hp_ g_ e_) (qE gr1)) (q_)) DnD.nil)),H⟩
set_option maxHeartbeats 8000000 in
theorem W_smithylaw12_item {w:World} {n:Int} {K:PV->RV->Prop} (H:kd n K):Fn Tryz.prog 52 ⟨[.int .i64 n]⟩ w (fun v w'=>w.grownBy w' none/\∃ (v_r0:OV),∃ (F_r0:Nat->Prop),∃ (r0:PV),∃ (v_r1:RC),∃ (F_r1:Nat->Prop),∃ (r1:RV),v=.tuple #[v_r0.1,(.agg ⟨v_r1.1⟩)]/\RelD deV w' [(v_r0,F_r0)] [r0]/\(∀ p:Option Nat,Lt p w.heap.size->DnD deV [(v_r0,F_r0)] [r0] p)/\RelD deR w' [(v_r1,F_r1)] [r1]/\(∀ p:Option Nat,Lt p w.heap.size->DnD deR [(v_r1,F_r1)] [r1] p)/\K r0 r1):=by
 unfold kd at H
 refine Fn.enter (by kernel_rfl) Tryz.func52 rfl Tryz.ntmps52 rfl ?_
 refine zd (zb ?_)
 have hv1:RelD deV w [(vnil,noF)] [PV.nil]:=deV_nil
 refine yp (h:=(WL.alloc rfl zero38 (fun g1 w1 hB1 hg1 hl1=>?_)))
 have gr1:=hg1
 refine ze (za (zd (zb (z5 qD rfl rfl rfl (qJ rfl (qJ rfl (qJ rfl jl))) rfl (by omega) (fun g2 w2 hB2 hg2 hl2=>?_)))))
 have hO1:Own vs w2 w.heap.size 9 (some ⟨g2,0,none⟩) 3 ([([97]:List UInt8),([98]:List UInt8),([97,98]:List UInt8)]:List (List UInt8)):=Own.ofBl hB2 (Nat.le_trans (qE gr1) hl2) (by simp [maxLen]) rfl
 have gr2:=qG gr1 hg2
 have k1:=hB1.g0 hg2
 refine yp (h:=(zx rfl rfl (kp H) ?_))
 rintro _ _ ⟨rfl,t7,rfl,H⟩
 obtain ⟨h1,H⟩:=H
 refine zg rfl (zB qD hO1.rd rfl rfl rfl rfl h1.1 h1.2) (zg rfl (zM [] qD hO1.rd rfl rfl (iltN h1 rfl)) (yp (h:=(ze (za (zd (zd (zb (yp (h:=(zx rfl rfl (kp H) ?_)))))))))))
 rintro _ _ ⟨rfl,t11,rfl,H⟩
 refine ze (za (WC.block (zd ?_)))
 obtain ⟨J1,H,hJ1⟩:=H
 refine qo (fun L' w'=>∃ (t12:Bool),L'=[(0,.int .i64 n),(3,.pointer (some ⟨g1,0,none⟩)),(4,vs (([([97]:List UInt8),([98]:List UInt8),([97,98]:List UInt8)]:List (List UInt8)).getD t7.toNat [])),(11,.int .i64 t11),(12,.bool t12)]/\J1 t12/\w2=w') ?_ (fun hQ=>?_)
 ·clear H
  rintro _ _ ⟨t12,rfl,H,rfl⟩
  replace H:=hJ1 t12 H
  refine za (zm rfl (fun b1=>?_) (fun b1=>?_))
  ·replace H:=H.1 (b1)
   refine zd (zb (yp (h:=?_)))
   obtain ⟨h2,H⟩:=H
   refine zg rfl (qA rfl rfl h2) (zx rfl rfl (qM H) ?_)
   rintro _ w3 ⟨hg3,v_t2,F_t2,t2,rfl,ht2,ho1,H⟩
   have gr3:=qG gr2 hg3
   have k2:=k1.g0 hg3
   refine yp (h:=?_)
   obtain ⟨h3,H⟩:=H
   refine zg rfl (qA rfl rfl h3) (zx rfl rfl (W_smithyref14_Small H) ?_)
   rintro _ w4 ⟨hg4,v_t21,F_t21,t21,rfl,ht21,ho2,H⟩
   refine yp (h:=?_)
   obtain ⟨A_L,c_L,v_o,hc1,hR1,hO2,hd1,hd2⟩:=deR_openD ht21
   refine zZ (vs:=[.int .i64 t21.1,.bool false,.bool t21.2.1.1,.slice A_L t21.2.1.2.1.length c_L,vs t21.2.1.2.2,v_o.1]) qD rfl rfl (congrArg (fun l=>some (Value.agg ⟨l⟩)) hc1) (qJ rfl (qJ rfl (qJ rfl (qJ rfl (qJ rfl (qJ v_o.2 jl)))))) (k2.g0 hg4) rfl rfl (fun w5 hB3 hg5=>?_)
   have k7:=hR1.go hg5 (hd1 _ (ho2 _ k2.lt'))
   have k8:=hO2.go hg5 (hd2 _ (ho2 _ k2.lt'))
   exact ze (za (zt (zj (zf (WX.rettc qD rfl rfl rfl rfl hB3 rfl ⟨(js (qG gr3 hg4) hg5 (Ge.le (Ge.box hl1) (Nat.le_refl _))),v_t2,F_t2,t2,v_t21,F_t21,t21,(by rw [hc1]; first | done | rfl),((ht2.grown hg4).go hg5 (ho1 _ k1.lt')),(fun p_ hp_=>ho1 p_ (fun g_ e_=>Nat.lt_of_lt_of_le (hp_ g_ e_) (qE gr2))),(ht21.go hg5 (ho2 _ k2.lt')),(fun p_ hp_=>ho2 p_ (fun g_ e_=>Nat.lt_of_lt_of_le (hp_ g_ e_) (qE gr3))),H⟩)))))
  ·replace H:=H.2 (b1)
   refine zd (zb (yp (h:=(yp (h:=(ze (za (zm rfl (fun b2=>?_) (fun b2=>?_)))))))))
   ·replace H:=H.1 (of_decide_eq_true b2)
    refine zd (zb (yp (h:=(zx rfl rfl (W_val_Str H) ?_))))
    rintro _ w6 ⟨hg6,v_t22,F_t22,t22,rfl,ht22,ho3,H⟩
    have gr6:=qG gr2 hg6
    have k9:=k1.g0 hg6
    refine yp (h:=(zx rfl rfl (W_smithyref14_Str H) ?_))
    rintro _ w7 ⟨hg7,v_t27,F_t27,t27,rfl,ht27,ho4,H⟩
    refine yp (h:=?_)
    obtain ⟨c9,d1,v_o2,hc2,hR2,hO3,hd3,hd4⟩:=deR_openD ht27
    refine zZ (vs:=[.int .i64 t27.1,.bool false,.bool t27.2.1.1,.slice c9 t27.2.1.2.1.length d1,vs t27.2.1.2.2,v_o2.1]) qD rfl rfl (congrArg (fun l=>some (Value.agg ⟨l⟩)) hc2) (qJ rfl (qJ rfl (qJ rfl (qJ rfl (qJ rfl (qJ v_o2.2 jl)))))) (k9.g0 hg7) rfl rfl (fun w8 hB4 hg8=>?_)
    have k14:=hR2.go hg8 (hd3 _ (ho4 _ k9.lt'))
    have k15:=hO3.go hg8 (hd4 _ (ho4 _ k9.lt'))
    exact ze (za (zt (zj (zf (WX.rettc qD rfl rfl rfl rfl hB4 rfl ⟨(js (qG gr6 hg7) hg8 (Ge.le (Ge.box hl1) (Nat.le_refl _))),v_t22,F_t22,t22,v_t27,F_t27,t27,(by rw [hc2]; first | done | rfl),((ht22.grown hg7).go hg8 (ho3 _ k1.lt')),(fun p_ hp_=>ho3 p_ (fun g_ e_=>Nat.lt_of_lt_of_le (hp_ g_ e_) (qE gr2))),(ht27.go hg8 (ho4 _ k9.lt')),(fun p_ hp_=>ho4 p_ (fun g_ e_=>Nat.lt_of_lt_of_le (hp_ g_ e_) (qE gr6))),H⟩)))))
   ·replace H:=H.2 (of_decide_eq_false b2)
    refine zo (zi (za (zd (zb (yp (h:=?_))))))
    obtain ⟨h4,H⟩:=H
    refine zg rfl (qA rfl rfl h4) (zx rfl rfl (qM H) ?_)
    rintro _ w9 ⟨hg9,v_t30,F_t30,t30,rfl,ht30,ho5,H⟩
    have gr9:=qG gr2 hg9
    have k16:=k1.g0 hg9
    refine yp (h:=(zx rfl rfl (W_val_Str H) ?_))
    rintro _ w10 ⟨hg10,v_t32,F_t32,t32,rfl,ht32,ho6,H⟩
    have gr10:=qG gr9 hg10
    have k18:=ht30.grown hg10
    refine z5 (us:=[v_t30.1,v_t32.1]) qD rfl rfl rfl (qJ v_t30.2 (qJ v_t32.2 jl)) rfl (by omega) (fun g4 w12 hB6 hg12 hl4=>?_)
    have hO5:Own vv w12 w.heap.size 32 (some ⟨g4,0,none⟩) 2 ([(v_t30,F_t30),(v_t32,F_t32)]:List VH):=Own.ofBl hB6 (Nat.le_trans (qE gr10) hl4) (by simp [maxLen]) rfl
    have gr11:=qG gr10 hg12
    have k19:=(k16.g0 hg10).g0 hg12
    have hr1:RelD deV w12 ([(v_t30,F_t30),(v_t32,F_t32)]:List VH) ([t30,t32]:List PV):=(RelD.cons (RelD.one (k18.grown hg12)) (RelD.cons (RelD.one (ht32.grown hg12)) RelD.nil))
    have nd1:NewD deV ([(v_t30,F_t30),(v_t32,F_t32)]:List VH) ([t30,t32]:List PV) w.heap.size:=(NewD.cons (d:=deV) (fun p_ hp_=>(DnD.one (ho5 p_ (fun g_ e_=>Nat.lt_of_lt_of_le (hp_ g_ e_) (qE gr2))))) (NewD.cons (d:=deV) (fun p_ hp_=>(DnD.one (ho6 p_ (fun g_ e_=>Nat.lt_of_lt_of_le (hp_ g_ e_) (qE gr9))))) NewD.nil))
    have dj1:DnD deV ([(v_t30,F_t30),(v_t32,F_t32)]:List VH) ([t30,t32]:List PV) (some g1):=(DnD.cons (d:=deV) (DnD.one (ho5 _ k1.lt')) (DnD.cons (d:=deV) (DnD.one (ho6 _ k16.lt')) DnD.nil))
    have dj2:DnD deV ([(v_t30,F_t30),(v_t32,F_t32)]:List VH) ([t30,t32]:List PV) (blk (some ⟨g4,0,none⟩)):=(DnD.cons (d:=deV) (DnD.one (k18.new (Ge.box hl4))) (DnD.cons (d:=deV) (DnD.one (ht32.new (Ge.box hl4))) DnD.nil))
    refine zx rfl rfl (W_val_Tuple hO5.rd (rfl.trans hr1.1) hr1 H) ?_
    rintro _ w13 ⟨hg13,v_t23,F_t23,t23,rfl,ht23,ho7,H⟩
    have gr12:=qG gr11 hg13
    have k22:=k19.g0 hg13
    refine yp (h:=?_)
    obtain ⟨h5,H⟩:=H
    refine zg rfl (qA rfl rfl h5) (zx rfl rfl (W_smithyref14_Small H) ?_)
    rintro _ w14 ⟨hg14,v_t37,F_t37,t37,rfl,ht37,ho8,H⟩
    have gr13:=qG gr12 hg14
    have k23:=k22.g0 hg14
    refine yp (h:=(zx rfl rfl (W_smithyref14_Str H) ?_))
    rintro _ w15 ⟨hg15,v_t39,F_t39,t39,rfl,ht39,ho9,H⟩
    have gr14:=qG gr13 hg15
    have k27:=ht37.grown hg15
    refine WL.litK (f:=vr) ([(v_t37,F_t37),(v_t39,F_t39)]:List RH) vr_ok rfl ow26 rfl rfl rfl (fun g6 w17 hB8 hg17 hl6=>?_)
    have hO7:OwnK 6 vr w17 w.heap.size 38 (some ⟨g6,0,none⟩) 2 ([(v_t37,F_t37),(v_t39,F_t39)]:List RH):=OwnK.ofBl vr_ok hB8 (Nat.le_trans (qE gr14) hl6) (by simp [maxLen]) rfl
    have gr15:=qG gr14 hg17
    have k28:=(k23.g0 hg15).g0 hg17
    have hr2:RelD deR w17 ([(v_t37,F_t37),(v_t39,F_t39)]:List RH) ([t37,t39]:List RV):=(RelD.cons (RelD.one (k27.grown hg17)) (RelD.cons (RelD.one (ht39.grown hg17)) RelD.nil))
    have nd2:NewD deR ([(v_t37,F_t37),(v_t39,F_t39)]:List RH) ([t37,t39]:List RV) w.heap.size:=(NewD.cons (d:=deR) (fun p_ hp_=>(DnD.one (ho8 p_ (fun g_ e_=>Nat.lt_of_lt_of_le (hp_ g_ e_) (qE gr12))))) (NewD.cons (d:=deR) (fun p_ hp_=>(DnD.one (ho9 p_ (fun g_ e_=>Nat.lt_of_lt_of_le (hp_ g_ e_) (qE gr13))))) NewD.nil))
    have dj3:DnD deR ([(v_t37,F_t37),(v_t39,F_t39)]:List RH) ([t37,t39]:List RV) (some g1):=(DnD.cons (d:=deR) (DnD.one (ho8 _ k22.lt')) (DnD.cons (d:=deR) (DnD.one (ho9 _ k23.lt')) DnD.nil))
    have dj4:DnD deR ([(v_t37,F_t37),(v_t39,F_t39)]:List RH) ([t37,t39]:List RV) (blk (some ⟨g6,0,none⟩)):=(DnD.cons (d:=deR) (DnD.one (k27.new (Ge.box hl6))) (DnD.cons (d:=deR) (DnD.one (ht39.new (Ge.box hl6))) DnD.nil))
    refine zx rfl rfl (W_smithyref14_Tuple hO7.rd (rfl.trans hr2.1) hr2 H) ?_
    rintro _ w18 ⟨hg18,v_t41,F_t41,t41,rfl,ht41,ho10,H⟩
    refine yp (h:=?_)
    obtain ⟨d0,d2,v_o3,hc3,hR3,hO8,hd5,hd6⟩:=deR_openD ht41
    refine zZ (vs:=[.int .i64 t41.1,.bool false,.bool t41.2.1.1,.slice d0 t41.2.1.2.1.length d2,vs t41.2.1.2.2,v_o3.1]) qD rfl rfl (congrArg (fun l=>some (Value.agg ⟨l⟩)) hc3) (qJ rfl (qJ rfl (qJ rfl (qJ rfl (qJ rfl (qJ v_o3.2 jl)))))) (k28.g0 hg18) rfl rfl (fun w19 hB9 hg19=>?_)
    have k36:=hR3.go hg19 (hd5 _ (ho10 _ k28.lt' dj3))
    have k37:=hO8.go hg19 (hd6 _ (ho10 _ k28.lt' dj3))
    exact ze (za (zt (WX.rettc qD rfl rfl rfl rfl hB9 rfl ⟨(js (qG gr15 hg18) hg19 (Ge.le (Ge.box hl1) (Nat.le_refl _))),v_t23,F_t23,t23,v_t41,F_t41,t41,(by rw [hc3]; first | done | rfl),(((((ht23.grown hg14).grown hg15).grown hg17).grown hg18).go hg19 (ho7 _ k19.lt' dj1)),(fun p_ hp_=>ho7 p_ (fun g_ e_=>Nat.lt_of_lt_of_le (hp_ g_ e_) (qE gr11)) (nd1 p_ hp_)),(ht41.go hg19 (ho10 _ k28.lt' dj3)),(fun p_ hp_=>ho10 p_ (fun g_ e_=>Nat.lt_of_lt_of_le (hp_ g_ e_) (qE gr15)) (nd2 p_ hp_)),H⟩)))
 ·clear hJ1
  refine zd (zb (yp (h:=(yp (h:=(ze (za (zm rfl (fun b3=>?_) (fun b3=>?_)))))))))
  ·replace H:=H.1 (of_decide_eq_true b3)
   exact zo (WX.weaken sb (hQ _ _ ⟨decide (t11=(0:Int)),rfl,H,rfl⟩))
  ·replace H:=H.2 (of_decide_eq_false b3)
   refine zd (zb (yp (h:=(yp (h:=(ze (za (zm rfl (fun b4=>?_) (fun b4=>?_)))))))))
   ·replace H:=H.1 (of_decide_eq_true b4)
    exact zo (WX.weaken sb (hQ _ _ ⟨decide (t11=(1:Int)),rfl,H,rfl⟩))
   ·replace H:=H.2 (of_decide_eq_false b4)
    exact zb (yp (h:=(yp (h:=(ze (WX.weaken sb (hQ _ _ ⟨decide (t11=(2:Int)),rfl,H,rfl⟩)))))))
set_option maxHeartbeats 8000000 in
theorem W_smithylaw12_items {w:World} {l:List Int} {A_l:Option Addr} {c_l:Nat} {n_l:Nat} {K:(List PV)->(List RV)->Prop} (hl:Rd vi w A_l c_l l) (b6:n_l=l.length) (H:j4 l K):Fn Tryz.prog 28 ⟨[.slice A_l n_l c_l]⟩ w (fun v w'=>w.grownBy w' none/\∃ (r0:List PV),∃ (c1:Option Addr),∃ (c6:Nat),∃ (a7:List VH),∃ (r1:List RV),∃ (c2:Option Addr),∃ (c7:Nat),∃ (a8:List RH),v=.tuple #[.slice c1 r0.length c6,.slice c2 r1.length c7]/\Own vv w' w.heap.size 32 c1 c6 a7/\RelD deV w' a7 r0/\(∀ p:Option Nat,Lt p w.heap.size->DnD deV a7 r0 p)/\DnD deV a7 r0 (blk c1)/\OwnK 6 vr w' w.heap.size 38 c2 c7 a8/\RelD deR w' a8 r1/\(∀ p:Option Nat,Lt p w.heap.size->DnD deR a8 r1 p)/\DnD deR a8 r1 (blk c2)/\K r0 r1):=by
 subst b6
 unfold j4 at H
 refine Fn.enter (by kernel_rfl) Tryz.func28 rfl Tryz.ntmps28 rfl ?_
 replace H:=H (Nat.le_trans hl.cap hl.max)
 refine zd (zb (yp (h:=(yp (h:=(ze (za (zd (zb (yp (h:=(ze (za (zd (zb (yp (h:=(ze (za (zd (zd (zb (yp (h:=(ze (za (WC.block ?_)))))))))))))))))))))))))))
 obtain ⟨I1,mu1,b5,HR1⟩:=H
 refine z3 (fun n' L' w'=>∃ (a:List PV),∃ (A_a:Option Addr),∃ (c_a:Nat),∃ (n_a:Nat),∃ (a2:List VH),∃ (b:List RV),∃ (A_b:Option Addr),∃ (c_b:Nat),∃ (n_b:Nat),∃ (a3:List RH),∃ (i:Int),n'=mu1 a b i/\L'=[(0,.slice A_l l.length c_l),(4,.slice A_a n_a c_a),(5,.slice A_b n_b c_b),(6,.int .i64 i)]/\I1 a b i/\n_a=a.length/\n_b=b.length/\w.grownBy w' none/\Own vv w' w.heap.size 32 A_a c_a a2/\RelD deV w' a2 a/\OwnK 6 vr w' w.heap.size 38 A_b c_b a3/\RelD deR w' a3 b/\Dj (blk A_a) (blk A_b)/\DnD deV a2 a (blk A_a)/\DnD deV a2 a (blk A_b)/\DnD deR a3 b (blk A_a)/\DnD deR a3 b (blk A_b)/\NewD deV a2 a w.heap.size/\NewD deR a3 b w.heap.size) _ _ ⟨[],none,0,0,[],[],none,0,0,[],(0:Int),rfl,rfl,b5,rfl,rfl,(jH _ _),(Own.nil vv w w.heap.size 32),(RelD.nil (d:=deV) (w:=w)),(OwnK.nil vr_ok w w.heap.size 38),(RelD.nil (d:=deR) (w:=w)),Dj.nl,DnD.nil,DnD.nil,DnD.nil,DnD.nil,(NewD.nil (d:=deV)),(NewD.nil (d:=deR))⟩ sb ?_
 clear b5
 rintro _ _ w1 ⟨a,A_a,c_a,n_a,a2,b,A_b,c_b,n_b,a3,i,rfl,rfl,hI1,rfl,rfl,gr1,k1,k2,k3,k4,dj1,dj2,dj3,dj4,dj5,or1,or2⟩
 have H:=HR1 a b i hI1
 refine zd (zd (zb (yp (h:=(yp (h:=(yp (h:=(yp (h:=(ze (za (zm rfl (fun b1=>?_) (fun b1=>?_))))))))))))))
 ·replace H:=H.1 (of_decide_eq_true b1)
  refine zo (za (zd (WC.block (zd (zb (yp (h:=(yp (h:=?_)))))))))
  obtain ⟨h1,H⟩:=H
  refine zg rfl (zB qD (hl.grown gr1) rfl rfl rfl rfl h1.1 h1.2) (zg rfl (zM 0 qD (hl.grown gr1) rfl rfl (iltN h1 rfl)) (zx rfl rfl (W_smithylaw12_item H) ?_))
  rintro _ w2 ⟨hg1,v_t200,F_t200,t200,v_t201,F_t201,t201,rfl,ht200,ho1,ht201,ho2,H⟩
  have gr2:=qG gr1 hg1
  have k5:=k1.grown hg1
  have k6:=k2.grown hg1
  have k7:=k3.grown hg1
  have k8:=k4.grown hg1
  refine yp (h:=(yp (h:=(yp (h:=(WL.alloc rfl zero38 (fun g1 w3 hB1 hg2 hl1=>?_)))))))
  have k14:=ht201.grown hg2
  refine yp (h:=?_)
  obtain ⟨A_L,c_L,v_o,hc1,hR1,hO1,hd1,hd2⟩:=deR_openD k14
  refine zZ (vs:=[.int .i64 t201.1,.bool false,.bool t201.2.1.1,.slice A_L t201.2.1.2.1.length c_L,vs t201.2.1.2.2,v_o.1]) qD rfl rfl (congrArg (fun l=>some (Value.agg ⟨l⟩)) hc1) (qJ rfl (qJ rfl (qJ rfl (qJ rfl (qJ rfl (qJ v_o.2 jl)))))) hB1 rfl rfl (fun w4 hB2 hg3=>?_)
  have gr4:=js (qG gr2 hg2) hg3 (Ge.le (Ge.box hl1) (qE gr2))
  have k16:=(k6.grown hg2).go hg3 (k6.new (Ge.box hl1))
  have k19:=(ht200.grown hg2).go hg3 (ht200.new (Ge.box hl1))
  refine ze (za (zd (zb (yp (h:=(yp (h:=(z5 (us:=[v_t200.1]) qD rfl rfl rfl (qJ v_t200.2 jl) rfl (by omega) (fun g3 w6 hB4 hg5 hl3=>?_)))))))))
  have hO3:Own vv w6 w.heap.size 32 (some ⟨g3,0,none⟩) 1 ([(v_t200,F_t200)]:List VH):=Own.ofBl hB4 (Nat.le_trans (qE gr4) hl3) (by simp [maxLen]) rfl
  have gr5:=qG gr4 hg5
  have k23:=((k5.grown hg2).go hg3 (Dj.new k5.lt' (Ge.box hl1))).grown hg5
  have k24:=k16.grown hg5
  have k25:=((k7.grown hg2).go hg3 (Dj.new k7.lt' (Ge.box hl1))).grown hg5
  have k26:=((k8.grown hg2).go hg3 (k8.new (Ge.box hl1))).grown hg5
  have k28:=(k14.go hg3 (ht201.new (Ge.box hl1))).grown hg5
  have hr1:RelD deV w6 ([(v_t200,F_t200)]:List VH) ([t200]:List PV):=(RelD.cons (RelD.one (k19.grown hg5)) RelD.nil)
  have nd1:NewD deV ([(v_t200,F_t200)]:List VH) ([t200]:List PV) w.heap.size:=(NewD.cons (d:=deV) (fun p_ hp_=>(DnD.one (ho1 p_ (fun g_ e_=>Nat.lt_of_lt_of_le (hp_ g_ e_) (qE gr1))))) NewD.nil)
  have dj6:DnD deV ([(v_t200,F_t200)]:List VH) ([t200]:List PV) (blk A_a):=(DnD.cons (d:=deV) (DnD.one (ho1 _ k1.lt')) DnD.nil)
  have dj7:DnD deV ([(v_t200,F_t200)]:List VH) ([t200]:List PV) (blk A_b):=(DnD.cons (d:=deV) (DnD.one (ho1 _ k3.lt')) DnD.nil)
  have dj8:DnD deV ([(v_t200,F_t200)]:List VH) ([t200]:List PV) (some g1):=(DnD.cons (d:=deV) (DnD.one (ht200.new (Ge.box hl1))) DnD.nil)
  have dj9:DnD deV ([(v_t200,F_t200)]:List VH) ([t200]:List PV) (blk (some ⟨g3,0,none⟩)):=(DnD.cons (d:=deV) (DnD.one (k19.new (Ge.box hl3))) DnD.nil)
  obtain ⟨h2,H⟩:=H
  have h3:((a2:List VH).length+([(v_t200,F_t200)]:List VH).length)*16<=140737488355328:=by rw [k24.1,hr1.1]; exact h2
  refine z4 qD rfl rfl One.vv k23 rfl k2.1.symm hO3.rd rfl rfl h3 (jT h3) (qE gr5) (fun b9 d3 w7 hO4 hg6 hk1=>?_)
  have el1:(a2++([(v_t200,F_t200)]:List VH)).length=(a++([t200]:List PV)).length:=by rw [List.length_append,List.length_append,k24.1,hr1.1]
  rw [el1]
  have gr6:=js gr5 hg6 k23.ge'
  have k34:=k26.go hg6 dj4
  have k35:=k28.go hg6 (ho2 _ k1.lt')
  have k37:=((hR1.go hg3 (hd1 _ (ht201.new (Ge.box hl1)))).grown hg5).go hg6 (hd1 _ (ho2 _ k1.lt'))
  have k38:=((hO1.go hg3 (hd2 _ (ht201.new (Ge.box hl1)))).grown hg5).go hg6 (hd2 _ (ho2 _ k1.lt'))
  have hr2:RelD deV w7 (a2++([(v_t200,F_t200)]:List VH)) (a++([t200]:List PV)):=RelD.append (k24.go hg6 dj2) (hr1.go hg6 dj6)
  have nd2:NewD deV (a2++([(v_t200,F_t200)]:List VH)) (a++([t200]:List PV)) w.heap.size:=NewD.append k24.1 or1 nd1
  have dj10:DnD deV (a2++([(v_t200,F_t200)]:List VH)) (a++([t200]:List PV)) (blk A_b):=(DnD.append k24.1 dj3 dj7)
  have dj11:DnD deV (a2++([(v_t200,F_t200)]:List VH)) (a++([t200]:List PV)) (some g1):=(DnD.append k24.1 (k6.new (Ge.box hl1)) dj8)
  have dj12:DnD deV (a2++([(v_t200,F_t200)]:List VH)) (a++([t200]:List PV)) (blk (some ⟨g3,0,none⟩)):=(DnD.append k24.1 (k16.new (Ge.box hl3)) dj9)
  have dj13:DnD deV (a2++([(v_t200,F_t200)]:List VH)) (a++([t200]:List PV)) (blk b9):=(DnD.append k24.1 (RelD.app k24 dj2 hk1) (RelD.app hr1 dj6 hk1))
  refine yp (h:=(ze (za (zb (yp (h:=(zg rfl (zR (v:=(.agg ⟨v_t201.1⟩)) (qt (vs:=[.int .i64 t201.1,.bool false,.bool t201.2.1.1,.slice A_L t201.2.1.2.1.length c_L,vs t201.2.1.2.2,v_o.1]) qD ((hB2.g0 hg5).go hg6 ((Dj.new k5.lt' (Ge.box hl1)).symm)) rfl rfl rfl rfl) (congrArg (fun l=>Value.agg ⟨l⟩) hc1.symm)) (WL.litK (f:=vr) ([(v_t201,F_t201)]:List RH) vr_ok rfl ow26 rfl rfl rfl (fun g5 w9 hB6 hg8 hl5=>?_)))))))))
  have hO6:OwnK 6 vr w9 w.heap.size 38 (some ⟨g5,0,none⟩) 1 ([(v_t201,F_t201)]:List RH):=OwnK.ofBl vr_ok hB6 (Nat.le_trans (qE gr6) hl5) (by simp [maxLen]) rfl
  have gr7:=qG gr6 hg8
  have k40:=(k25.go hg6 dj1.symm).grown hg8
  have k41:=k34.grown hg8
  have k43:=hO4.grown hg8
  have k44:=hr2.grown hg8
  have hr3:RelD deR w9 ([(v_t201,F_t201)]:List RH) ([t201]:List RV):=(RelD.cons (RelD.one (k35.grown hg8)) RelD.nil)
  have nd3:NewD deR ([(v_t201,F_t201)]:List RH) ([t201]:List RV) w.heap.size:=(NewD.cons (d:=deR) (fun p_ hp_=>(DnD.one (ho2 p_ (fun g_ e_=>Nat.lt_of_lt_of_le (hp_ g_ e_) (qE gr1))))) NewD.nil)
  have dj14:DnD deR ([(v_t201,F_t201)]:List RH) ([t201]:List RV) (blk A_b):=(DnD.cons (d:=deR) (DnD.one (ho2 _ k3.lt')) DnD.nil)
  have dj15:DnD deR ([(v_t201,F_t201)]:List RH) ([t201]:List RV) (blk b9):=(DnD.cons (d:=deR) (DnD.one (RelD.app k28 (ho2 _ k1.lt') hk1)) DnD.nil)
  have dj16:DnD deR ([(v_t201,F_t201)]:List RH) ([t201]:List RV) (blk (some ⟨g5,0,none⟩)):=(DnD.cons (d:=deR) (DnD.one (k35.new (Ge.box hl5))) DnD.nil)
  obtain ⟨h4,H⟩:=H
  have h5:((a3:List RH).length+([(v_t201,F_t201)]:List RH).length)*72<=140737488355328:=by rw [k41.1,hr3.1]; exact h4
  refine WL.appendK rfl ow26 k40 rfl k4.1.symm hO6.rd rfl rfl h5 (jT h5) (qE gr7) (fun c5 d4 w10 hO7 hg9 hk2=>?_)
  have el2:(a3++([(v_t201,F_t201)]:List RH)).length=(b++([t201]:List RV)).length:=by rw [List.length_append,List.length_append,k41.1,hr3.1]
  rw [el2]
  have hr4:RelD deR w10 (a3++([(v_t201,F_t201)]:List RH)) (b++([t201]:List RV)):=RelD.append (k41.go hg9 dj5) (hr3.go hg9 dj14)
  have nd4:NewD deR (a3++([(v_t201,F_t201)]:List RH)) (b++([t201]:List RV)) w.heap.size:=NewD.append k41.1 or2 nd3
  have dj17:DnD deR (a3++([(v_t201,F_t201)]:List RH)) (b++([t201]:List RV)) (blk b9):=(DnD.append k41.1 (RelD.app k26 dj4 hk1) dj15)
  have dj18:DnD deR (a3++([(v_t201,F_t201)]:List RH)) (b++([t201]:List RV)) (blk (some ⟨g5,0,none⟩)):=(DnD.append k41.1 (k34.new (Ge.box hl5)) dj16)
  have dj19:DnD deR (a3++([(v_t201,F_t201)]:List RH)) (b++([t201]:List RV)) (blk c5):=(DnD.append k41.1 (RelD.app k41 dj5 hk2) (RelD.app hr3 dj14 hk2))
  refine yp (h:=(ze (zi (za (zb (yp (h:=?_)))))))
  obtain ⟨h6,H⟩:=H
  exact zg rfl (Yld.add rfl rfl h6) (yp (h:=(ze (zX _ ⟨a++([t200]:List PV),b9,d3,(a++([t200]:List PV)).length,a2++([(v_t200,F_t200)]:List VH),b++([t201]:List RV),c5,d4,(b++([t201]:List RV)).length,a3++([(v_t201,F_t201)]:List RH),i+(1:Int),rfl,rfl,H.1,rfl,rfl,(js gr7 hg9 k40.ge'),(k43.go hg9 (Dj.app dj1 k25.lt' hk1)),(k44.go hg9 dj10),hO7,hr4,(Dj.app (Dj.app dj1 k25.lt' hk1).symm k43.lt' hk2).symm,dj13,(RelD.app k44 dj10 hk2),dj17,dj19,nd2,nd4⟩ sb H.2))))
 ·replace H:=H.2 (of_decide_eq_false b1)
  exact zy (zk (zk (zl (za (zd (zb (yp (h:=(yp (h:=(yp (h:=(yp (h:=(ze (za (zt (z8 rfl rfl rfl ⟨gr1,a,A_a,c_a,a2,b,A_b,c_b,a3,rfl,k1,k2,or1,dj2,k3,k4,or2,dj5,H⟩))))))))))))))))))
end
 
section
open Go Go.RowKit
theorem tmodB (x:Int) {k:Int} (hk:0<k) : -k<x.tmod k/\x.tmod k<k:=by
 have h1:=Int.tmod_lt_of_pos x hk
 have h2:=Int.tmod_lt_of_pos (-x) hk
 rw [Int.neg_tmod] at h2
 omega
theorem numR (n:Int) {b:Int} (hb:0<b):0<=(n.tmod b+b).tmod b/\(n.tmod b+b).tmod b<b :=
 ⟨Int.tmod_nonneg _ (by have:=tmodB n hb; omega),Int.tmod_lt_of_pos _ hb⟩
theorem number_M {n b:Int} {K:Int->Prop} (hb:0<b/\b<=1000) (h:K ((n.tmod b+b).tmod b)):jy n b K :=
 ⟨by omega,by have:=tmodB n hb.1; simp only [In]; omega,by omega,h⟩
theorem trim0_M {neg:Bool} {l:List Int} {K:Bool->List Int->Prop} (hl:l.length<=1000) (h:∀ s L,K s L):km neg l K:=by
 intro _
 refine ⟨fun n=>0<=n/\n<=l.length,fun n=>n.toNat,⟨by omega,by omega⟩,?_⟩
 rintro n ⟨h0,h1⟩
 refine ⟨fun e=>?_,fun e=>?_,fun e=>?_,fun _=>⟨⟨by omega,by omega,by omega⟩,h _ _⟩⟩
 ·have:=of_decide_eq_true e; simp only [In]; omega
 ·have:=of_decide_eq_true e; omega
 ·simp only [Bool.and_eq_true,decide_eq_true_eq] at e
  exact ⟨by simp only [In]; omega,⟨by omega,by omega⟩,by first | omega | (dsimp only; omega)⟩
theorem tdiv0 {n:Int} (h : -10000<n/\n<10000):n.tdiv 10000=0:=by
 rcases Int.le_total 0 n with h0 | h0
 ·exact Int.tdiv_eq_zero_of_lt h0 h.2
 ·have:=Int.tdiv_eq_zero_of_lt (a := -n) (b:=10000) (by omega) (by omega)
  rw [Int.neg_tdiv] at this
  omega
theorem of0_M {n:Int} {K:Bool->List Int->Prop} (hn : -10000<n/\n<10000) (h:∀ s L,K s L):kx n K:=by
 refine ⟨fun l m=>(l=[]/\m=n)∨(l.length=1/\m=0),fun _ m=>if m=0 then 0 else 1,.inl ⟨rfl,rfl⟩,?_⟩
 rintro l m hI
 have hl:l.length<=1:=by
  rcases hI with ⟨rfl,_⟩ | ⟨e,_⟩
  ·simp
  ·omega
 refine ⟨fun hm=>?_,fun _=>trim0_M (by omega) h⟩
 rcases hI with ⟨rfl,rfl⟩ | ⟨_,rfl⟩
 ·have hb:=tmodB m (k:=10000) (by omega)
  refine ⟨by omega,fun _=>True,⟨fun _=>⟨by simp only [In]; omega,trivial⟩,fun _=>trivial⟩,fun d _=>⟨by simp,by omega,.inr ⟨by simp,?_⟩,?_⟩⟩
  ·rw [tdiv0 hn]; rfl
  ·dsimp only
   rw [tdiv0 hn,if_neg hm]
   decide
 ·exact absurd rfl hm
theorem rsmall0_M {n:Int} {K:RV->Prop} (hn : -10000<n/\n<10000) (h:∀ r,K r):j5 n K:=of0_M hn fun _ _=>h _
theorem copied0_M {l:List RV} {K:List RV->Prop} (hl:l.length<=1000) (h:∀ L,K L):jY l K:=by
 intro _
 refine ⟨⟨by omega,by omega,by omega⟩,fun o i=>0<=i/\i<=l.length/\o.length=i,fun _ i=>((l.length:Int) - i).toNat,⟨by omega,by omega,rfl⟩,?_⟩
 rintro o i ⟨h0,h1,h2⟩
 exact ⟨fun hi=>⟨⟨h0,hi⟩,by simp; omega,by simp only [In]; omega,⟨by omega,by omega,by simp; omega⟩,by first | omega | (dsimp only; omega)⟩,fun _=>h _⟩
theorem rtuple0_M {l:List RV} {K:RV->Prop} (hl:l.length<=1000) (h:∀ r,K r):j6 l K:=fun _=>copied0_M hl fun _ _=>h _
def strN (n:Int):List UInt8:=([([97]:List UInt8),([98]:List UInt8),([97,98]:List UInt8)]:List (List UInt8)).getD ((n.tmod 3+3).tmod 3).toNat []
def kindN (n:Int):Int:=(n.tmod 5+5).tmod 5
def itemP (n:Int):PV:=if kindN n=0∨kindN n=1∨kindN n=2 then .int (n.tmod 10) else if kindN n=3 then .str (strN n) else .tup [.int (n.tmod 3),.str (strN n)]
theorem item_M {n:Int} {K:PV->RV->Prop} (hn:In .i64 n) (h:∀ r,K (itemP n) r):kd n K:=by
 have h3:=numR n (b:=3) (by omega)
 have b10:=tmodB n (k:=10) (by omega)
 have b3:=tmodB n (k:=3) (by omega)
 refine number_M (by omega) ⟨⟨h3.1,by omega⟩,number_M (by omega) ?_⟩
 change ∃ J1:Bool->Prop,((kindN n=0->_)/\_)/\_
 refine ⟨fun b=>b=decide (kindN n=0∨kindN n=1∨kindN n=2),⟨fun e=>?_,fun e0=>⟨fun e=>?_,fun e1=>?_⟩⟩,?_⟩
 ·change decide (kindN n=0)=_; simp [e]
 ·change decide (kindN n=1)=_; simp [show kindN n=1 from e]
 ·have e0:¬ kindN n=0:=e0
  have e1:¬ kindN n=1:=e1
  change decide (kindN n=2)=_; simp [e0,e1]
 rintro _ rfl
 refine ⟨fun e=>?_,fun e=>⟨fun e3=>?_,fun e3=>?_⟩⟩
 ·have e:=of_decide_eq_true e
  refine ⟨by omega,jv (by omega) ⟨by omega,rsmall0_M (by omega) fun r=>?_⟩⟩
  have:=h r
  unfold itemP at this
  rwa [if_pos e] at this
 ·have e:=of_decide_eq_false e
  have e3:kindN n=3:=e3
  have:=h ((4:Int),(false,([]:List Int),strN n),RO.nil)
  unfold itemP at this
  rw [if_neg e,if_pos e3] at this
  exact this
 ·have e:=of_decide_eq_false e
  have e3:¬ kindN n=3:=e3
  refine ⟨by omega,jv (by omega) ?_⟩
  unfold kr M_val_Tuple
  refine ⟨by simp,[.int (n.tmod 3),.str (strN n)],rfl,by omega,rsmall0_M (by omega) fun r=>?_⟩
  unfold jX
  refine rtuple0_M (by simp) fun r'=>?_
  have:=h r'
  unfold itemP at this
  rwa [if_neg e,if_neg e3] at this
theorem items_M' {l:List Int} {K:List PV->List RV->Prop} (hl:l.length<=1000) (hin:∀ x∈l,In .i64 x) (h:∀ b,K (l.map itemP) b):j4 l K:=by
 intro _
 refine ⟨fun a b i=>0<=i/\i<=l.length/\a=(l.take i.toNat).map itemP/\b.length=i,fun _ _ i=>((l.length:Int) - i).toNat,⟨by omega,by omega,rfl,rfl⟩,?_⟩
 rintro a b i ⟨h0,h1,rfl,hb⟩
 refine ⟨fun hi=>?_,fun hi=>?_⟩
 ·have hlt:i.toNat<l.length:=by omega
  have e1:l.getD i.toNat 0=l[i.toNat]:=getD_get' hlt
  have e2:l.take (i+1).toNat=l.take i.toNat++[l[i.toNat]]:=by
   rw [show (i+1).toNat=i.toNat+1 by omega,List.take_add_one,List.getElem?_eq_getElem hlt]; rfl
  rw [e1]
  exact ⟨⟨h0,by omega⟩,item_M (hin _ (List.getElem_mem hlt)) fun r=>⟨by simp; omega,by simp; omega,by simp only [In]; omega,⟨by omega,by omega,by rw [e2,List.map_append]; rfl,by simp; omega⟩,by first | omega | (dsimp only; omega)⟩⟩
 ·have:l.take i.toNat=l:=List.take_of_length_le (by omega)
  rw [this]; exact h b
theorem strN_ok (n:Int):strN n=[97]∨strN n=[98]∨strN n=[97,98]:=by
 have h3:=numR n (b:=3) (by omega)
 unfold strN
 generalize (n.tmod 3+3).tmod 3=q at *
 have:q=0∨q=1∨q=2:=by omega
 rcases this with rfl | rfl | rfl <;> simp
theorem strN_okA (n:Int):OkA (.str (strN n)):=by
 rcases strN_ok n with e | e | e <;> rw [e] <;> refine ⟨fun c hc=>?_,by simp⟩ <;> simp only [List.mem_cons,List.not_mem_nil,or_false] at hc
 ·subst hc; exact ⟨by decide,by decide,by decide⟩
 ·subst hc; exact ⟨by decide,by decide,by decide⟩
 ·rcases hc with rfl | rfl <;> exact ⟨by decide,by decide,by decide⟩
theorem itemP_ok (n:Int):OkI (itemP n):=by
 have b10:=tmodB n (k:=10) (by omega)
 have b3:=tmodB n (k:=3) (by omega)
 unfold itemP
 split
 ·exact (by constructor <;> omega:OkA (.int (n.tmod 10)))
 ·split
  ·exact strN_okA n
  ·refine ⟨rfl,fun x hx=>?_⟩
   simp only [List.mem_cons,List.not_mem_nil,or_false] at hx
   rcases hx with rfl | rfl
   ·exact (by constructor <;> omega:OkA (.int (n.tmod 3)))
   ·exact strN_okA n
end
 
section
open Go Go.RowKit
def LoopW (P:Program) (Q:Post) (c:Code) (a:Act) (w:World):Prop:=∀ (b:Frame) (k:List Item) (cs:List Frame),
 ∃ e a' w',Q e a' w'/\Arrives P (lone (b.at a (.code c :: .inLoop c :: k)) cs w) b k cs e a' w'
def WCL (P:Program) (N:Nat) (Q:Post) (c:Code) (L:qO) (w:World):Prop:=∀ a w1,Eqv w w1->Has N L a->LoopW P Q c a w1
section
variable {P:Program} {N:Nat} {Q:Post} {L:qO} {w:World} {c:Code}
theorem qv (h:WCL P N Q c L w):WC P N Q (.loop c) L w:=fun a w1 e ha=>by
 intro b k cs
 obtain ⟨e',a',w',hq,harr⟩:=h a w1 e ha b k cs
 exact ⟨e',a',w',hq,.of_steps (.one step_loop) harr⟩
theorem WCL.one (h:WC P N (Exit.then (LoopW P Q c) Q) c L w):WCL P N Q c L w:=fun a w1 e ha b k cs=>by
 obtain ⟨e,a1,w2,hq,harr⟩:=h a w1 e ha b (.inLoop c :: k) cs
 cases e with
 | normal =>
  obtain ⟨e2,a2,w4,hq2,harr2⟩:=hq b k cs
  exact ⟨e2,a2,w4,hq2,.of_steps (Steps.trans harr (.one step_inLoop)) harr2⟩
 | exit id=>exact ⟨_,a1,w2,hq,.pass (x:=.inLoop c) rfl (fun _ _=>.inl (by simp)) harr⟩
 | goto l=>exact ⟨_,a1,w2,hq,.pass (x:=.inLoop c) rfl (fun _ _=>.inl (by simp)) harr⟩
 | ret=>exact ⟨_,a1,w2,hq,.pass (x:=.inLoop c) rfl (fun _ _=>.inl (by simp)) harr⟩
 | panic ch=>exact ⟨_,a1,w2,hq,.pass (x:=.inLoop c) rfl (fun _ _=>.inl (by simp)) harr⟩
 | outgrown=>exact ⟨_,a1,w2,hq,.pass (x:=.inLoop c) rfl (fun _ _=>.inl (by simp)) harr⟩
theorem qf (h:WCL P N Q c L w):WX N (Exit.then (LoopW P Q c) Q) .normal L w:=h
end
def vQ (g:Nat):Value:=.pointer (some ⟨g,0,none⟩)
theorem One.vQ:One vQ:=fun _=>rfl
end
 
section
open Go Go.RowKit
attribute [local irreducible] WL WC WX WQ WK WJ Yld Eff Ef0 Fn
def j8 (o_v_l:List PV) (o_v_frozen:Bool) (o_v_over:Int) (o_l:List PV) (o_at:Int) (o_ended:Bool) (o_Paid:Bool) (K:PV->Bool->Int->Prop):Prop :=
 (o_v_l.length<=maxLen ->
 (o_l.length<=maxLen ->
 (((o_ended || (decide ((o_l.length:Int)<=o_at)))=true->K PV.nil false o_at) /\
 ((o_ended || (decide ((o_l.length:Int)<=o_at)))=false->(In .i64 (o_at+(1:Int))) /\
 (In .i64 ((o_at+(1:Int)) - (1:Int))) /\
 (0<=(o_at+(1:Int)) - (1:Int)/\(o_at+(1:Int)) - (1:Int)<(o_l.length:Nat)) /\
 K (o_l.getD (((o_at+(1:Int)) - (1:Int)).toNat) PV.nil) true (o_at+(1:Int))))))
def qH (o_v_l:List PV) (o_v_frozen:Bool) (o_v_over:Int) (o_l:List PV) (o_at:Int) (o_ended:Bool) (o_Paid:Bool) (K:PV->Bool->Int->Prop):Prop :=
 (o_v_l.length<=maxLen ->
 (o_l.length<=maxLen ->
 j8 o_v_l o_v_frozen o_v_over o_l o_at o_ended o_Paid (fun (t50:PV) (t51:Bool) (o_:Int) =>
 K t50 t51 o_)))
def jC (v_l:List PV) (v_frozen:Bool) (v_over:Int) (K:(List PV)->Er->(List PV)->Bool->Int->Prop):Prop :=
 (v_l.length<=maxLen ->
 qX v_l v_frozen v_over (fun (t111:Er) (v_:List PV) (v_2:Bool) (v_3:Int) =>
 ((¬ (t111=Er.ok)->False) /\
 (t111=Er.ok->False))) (fun (b7:List PV) (e1:Int) (b5:Bool) (c1:Bool) (t1112:Er) (v_4:List PV) (v_5:Bool) (v_6:Int) =>
 ((¬ (t1112=Er.ok)->False) /\
 (t1112=Er.ok->qH v_4 v_5 v_6 b7 e1 b5 c1 (fun (t200:PV) (t201:Bool) (t110_:Int) =>
 Lp9 (fun (l:List PV) (x:PV) (is:Bool) (t1102:Int) (t1103:Bool) (t1104:Bool) (v_0:List PV) (v_1:Bool) (v_22:Int) kont1=>((is=true->(((1024:Int)<=(l.length:Int)->False) /\
 (¬ ((1024:Int)<=(l.length:Int))->((l.length+(([x]:List PV)).length)*16<=140737488355328) /\
 qH v_0 v_1 v_22 b7 t1102 t1103 t1104 (fun (t260:PV) (t261:Bool) (d8:Int) =>
 kont1 (l++([x]:List PV)) t260 t261 d8 t1103 t1104 v_0 v_1 v_22)))) /\
 (is=false->qP v_0 v_1 v_22 b7 t1102 t1103 t1104 (fun (f6:Int) (f7:Bool) (f8:Bool) (v_7:List PV) (v_8:Bool) (v_9:Int) =>
 K l Er.ok v_7 v_8 v_9)))) [] t200 t201 t110_ b5 c1 v_4 v_5 v_6)))))
def ko (v_:PV) (K0:Er->Prop) (K:PV->(List PV)->Int->Bool->Bool->Er->Prop):Prop :=
 (v_≠PV.nil) /\
 ∃ J1:Bool->Prop,((((jV v_)=(5:Int)->J1 (decide ((jV v_)=(5:Int)))) /\
 (¬ ((jV v_)=(5:Int))->(((jV v_)=(6:Int)->J1 (decide ((jV v_)=(6:Int)))) /\
 (¬ ((jV v_)=(6:Int))->J1 (decide ((jV v_)=(7:Int)))))))) /\
 (∀ t11:Bool,J1 t11->((t11=true->False) /\
 (t11=false->(((jV v_)=(11:Int)->False) /\
 (¬ ((jV v_)=(11:Int))->K0 (Er.e 3))))))
set_option maxHeartbeats 8000000 in
theorem W_plist_Over_next_List0 {w:World} {g_o:Nat} {c3:Nat} {o_v_l:List PV} {a9:Option Addr} {c5:Nat} {a1:List VH} {o_v_frozen:Bool} {o_v_over:Int} {o_l:List PV} {c2:Option Addr} {c7:Nat} {a5:List VH} {o_at:Int} {o_ended:Bool} {o_Paid:Bool} {c6:Nat} {d4:Nat} {K:PV->Bool->Int->Prop} (ho_v_l:Rd vv w a9 c5 a1) (c9:c6=o_v_l.length) (b6:RelD deV w a1 o_v_l) (ho_v:Bl w c3 166 [.slice a9 c6 c5,.bool o_v_frozen,.int .i64 o_v_over]) (ho_l:Rd vv w c2 c7 a5) (d6:d4=o_l.length) (a0:RelD deV w a5 o_l) (ho:Bl w g_o 168 [.iface 61 (.pointer (some ⟨c3,0,none⟩)),.slice c2 d4 c7,.int .i64 o_at,.bool o_ended,.bool o_Paid]) (hap0:AllP (Dn a1 (blk a9)) [(some g_o)]) (hap1:AllP (DnD deV a1 o_v_l) [(some g_o)]) (hap2:AllP (Dj (some c3)) [(some g_o)]) (hap3:AllP (Dn a5 (blk c2)) [(some g_o)]) (hap4:AllP (DnD deV a5 o_l) [(some g_o)]) (H:j8 o_v_l o_v_frozen o_v_over o_l o_at o_ended o_Paid K):Fn Tryz.prog 88 ⟨[.pointer (some ⟨g_o,0,none⟩)]⟩ w (fun v w'=>GrL [(some g_o)] w w'/\∃ (v_r0:OV),∃ (F_r0:Nat->Prop),∃ (r0:PV),∃ (r1:Bool),∃ (o_at2:Int),v=.tuple #[v_r0.1,.bool r1]/\RelD deV w' [(v_r0,F_r0)] [r0]/\(∀ p:Option Nat,Lt p w.heap.size->DnD deV a1 o_v_l p->DnD deV a5 o_l p->DnD deV [(v_r0,F_r0)] [r0] p)/\Bl w' g_o 168 [.iface 61 (.pointer (some ⟨c3,0,none⟩)),.slice c2 o_l.length c7,.int .i64 o_at2,.bool o_ended,.bool o_Paid]/\DnD deV [(v_r0,F_r0)] [r0] (some g_o)/\K r0 r1 o_at2):=by
 subst c9
 subst d6
 unfold j8 at H
 refine Fn.enter (by kernel_rfl) Tryz.func88 rfl Tryz.ntmps88 rfl ?_
 replace H:=H (by rw [<-b6.1]; exact Nat.le_trans ho_v_l.cap ho_v_l.max)
 replace H:=H (by rw [<-a0.1]; exact Nat.le_trans ho_l.cap ho_l.max)
 have hNoAt:AllP (NoAt w) [(some g_o)]:=(apC (NoAt.bl ho rfl) apN)
 refine zd (zb ?_)
 have hv1:RelD deV w [(vnil,noF)] [PV.nil]:=deV_nil
 refine yp (h:=(yp (h:=(ze (za (zd (zb (yp (h:=(yp (h:=(yp (h:=(zg rfl (zz qD ho rfl rfl rfl) (yp (h:=(yp (h:=(ze (za (zd (zb (yp (h:=(yp (h:=(yp (h:=(zg rfl (zz qD ho rfl rfl rfl) (zg rfl (assertNoX (z:=.pointer none) Tryz.underlying187 rfl (fun _=>by kernel_rfl) rfl rfl) (yp (h:=(yp (h:=(yp (h:=(yp (h:=(yp (h:=(ze (za (zd (zd (zb (yp (h:=(ze (za (zm rfl (fun h=>by cases h) (fun _=>zo (za (zd (zd (zb (yp (h:=(yp (h:=(yp (h:=(zg rfl (zz qD ho rfl rfl rfl) (yp (h:=(zV 7 (fun L' w'=>∃ q1:Bool,L'=[(36,.bool q1),(0,.pointer (some ⟨g_o,0,none⟩)),(5,.pointer none),(6,.bool false)]/\(o_ended || (decide ((o_l.length:Int)<=o_at)))=q1/\w=w') ?_ (fun hQ=>?_))))))))))))))))))))))))))))))))))))))))))))))))))))))))))))))))))
 ·rintro _ _ ⟨q1,rfl,rfl,rfl⟩
  refine ze (za (zm rfl (fun b1=>?_) (fun b1=>?_)))
  ·replace H:=H.1 (b1)
   refine zd (zb ?_)
   have hv2:RelD deV w [(vnil,noF)] [PV.nil]:=deV_nil
   exact yp (h:=(yp (h:=(ze (za (zt (zf (z8 rfl rfl rfl ⟨(GrL.refl _),vnil,noF,PV.nil,false,o_at,rfl,hv2,(fun p_ hp_ v0_ v1_=>deV_nilD),ho,deV_nilD,H⟩))))))))
  ·replace H:=H.2 (b1)
   refine zo (za (zd (zb (yp (h:=(yp (h:=(yp (h:=(zg rfl (zz qD ho rfl rfl rfl) ?_))))))))))
   obtain ⟨h1,H⟩:=H
   refine zg rfl (Yld.add rfl rfl h1) (yp (h:=(yp (h:=(qp one2 rfl rfl rfl ho (by simp) (fun w1 hB2 hg1=>?_))))))
   have hB1:Bl w1 g_o 168 [.iface 61 (.pointer (some ⟨c3,0,none⟩)),.slice c2 o_l.length c7,.int .i64 (o_at+(1:Int)),.bool o_ended,.bool o_Paid]:=hB2
   have gr1:GrL [(some g_o)] w w1:=GrL.mod (GrL.refl _) hg1 (InP.mem (List.Mem.head _))
   refine ze (za (zd (zd (zb (yp (h:=(ze (za (zm rfl (fun h=>by cases h) (fun _=>zo (za (zd (qq jx (by kernel_rfl) (qc rfl (zh qD rfl) (qc rfl (zh qD rfl) (qc rfl (zh qD rfl) (qc rfl (zz qD hB1 rfl rfl rfl) (qc rfl (zh qD rfl) (qc rfl (zh qD rfl) (qc rfl (zh qD rfl) (qc rfl (zz qD hB1 rfl rfl rfl) ?_)))))))))))))))))))))
   obtain ⟨h2,H⟩:=H
   refine qc rfl (Yld.sub rfl rfl h2) ?_
   obtain ⟨h3,H⟩:=H
   refine qc rfl (zB qD (ho_l.goL gr1 hap3) rfl rfl a0.1.symm rfl h3.1 h3.2) ?_
   obtain ⟨⟨v_el,F_el⟩,eh1,hR1⟩:=RelD.at (a0.goL gr1 hap4) vh0 PV.nil (j:=((o_at+(1:Int)) - (1:Int)).toNat) (Nat.lt_of_lt_of_eq (iltN h3 a0.1.symm) (a0.goL gr1 hap4).1)
   have hv3:RelD deV w1 [(v_el,F_el)] [o_l.getD (((o_at+(1:Int)) - (1:Int)).toNat) PV.nil]:=RelD.cons hR1 RelD.nil
   exact qc rfl (zR (v:=v_el.1) (zM vh0 qD (ho_l.goL gr1 hap3) rfl rfl (iltN h3 a0.1.symm)) (congrArg vv eh1)) (qc rfl (zh qD rfl) (qc rfl (zh qD rfl) (qC (za (zt (z8 rfl rfl rfl ⟨gr1,v_el,F_el,(o_l.getD (((o_at+(1:Int)) - (1:Int)).toNat) PV.nil),true,o_at+(1:Int),rfl,hv3,(fun p_ hp_ v0_ v1_=>have q_:=And.intro v0_ v1_; DnD.cons (DnD.at (q_.2) (a0.goL gr1 hap4).1 (Nat.lt_of_lt_of_eq (iltN h3 a0.1.symm) (a0.goL gr1 hap4).1) eh1) DnD.nil),hB1,(DnD.cons (DnD.at (a0.inp hap4 (InP.mem (List.Mem.head _))) (a0.goL gr1 hap4).1 (Nat.lt_of_lt_of_eq (iltN h3 a0.1.symm) (a0.goL gr1 hap4).1) eh1) DnD.nil),H⟩))))))
 ·clear H
  rcases Bool.eq_false_or_eq_true (o_ended) with b2 | b2
  ·exact gn b2 (h:=(gn b2 (h:=(gn b2 (h:=(gn b2 (h:=(gn b2 (h:=(gn b2 (h:=(zg rfl (zQ (okb b2) rfl) (wk (hQ _ _ ⟨true,rfl,by rw [b2] <;> rfl,rfl⟩))))))))))))))
  ·exact gp b2 (h:=(gp b2 (h:=(gp b2 (h:=(zc rfl rfl (okb b2) rfl (zz qD ho rfl rfl rfl) (gp b2 (h:=(gp b2 (h:=(zg rfl (zK (okb b2) rfl) (wk (hQ _ _ ⟨decide ((o_l.length:Int)<=o_at),rfl,by rw [b2] <;> rfl,rfl⟩)))))))))))))
set_option maxHeartbeats 8000000 in
theorem qK {w:World} {g_o:Nat} {c3:Nat} {o_v_l:List PV} {a9:Option Addr} {c5:Nat} {a1:List VH} {o_v_frozen:Bool} {o_v_over:Int} {o_l:List PV} {c2:Option Addr} {c7:Nat} {a5:List VH} {o_at:Int} {o_ended:Bool} {o_Paid:Bool} {c6:Nat} {d4:Nat} {K:PV->Bool->Int->Prop} (ho_v_l:Rd vv w a9 c5 a1) (c9:c6=o_v_l.length) (b6:RelD deV w a1 o_v_l) (ho_v:Bl w c3 166 [.slice a9 c6 c5,.bool o_v_frozen,.int .i64 o_v_over]) (ho_l:Rd vv w c2 c7 a5) (d6:d4=o_l.length) (a0:RelD deV w a5 o_l) (ho:Bl w g_o 168 [.iface 61 (.pointer (some ⟨c3,0,none⟩)),.slice c2 d4 c7,.int .i64 o_at,.bool o_ended,.bool o_Paid]) (hap0:AllP (Dn a1 (blk a9)) [(some g_o)]) (hap1:AllP (DnD deV a1 o_v_l) [(some g_o)]) (hap2:AllP (Dj (some c3)) [(some g_o)]) (hap3:AllP (Dn a5 (blk c2)) [(some g_o)]) (hap4:AllP (DnD deV a5 o_l) [(some g_o)]) (H:qH o_v_l o_v_frozen o_v_over o_l o_at o_ended o_Paid K):Fn Tryz.prog 31 ⟨[.pointer (some ⟨g_o,0,none⟩)]⟩ w (fun v w'=>GrL [(some g_o)] w w'/\∃ (v_r0:OV),∃ (F_r0:Nat->Prop),∃ (r0:PV),∃ (r1:Bool),∃ (o_at2:Int),v=.tuple #[v_r0.1,.bool r1]/\RelD deV w' [(v_r0,F_r0)] [r0]/\(∀ p:Option Nat,Lt p w.heap.size->DnD deV a1 o_v_l p->DnD deV a5 o_l p->DnD deV [(v_r0,F_r0)] [r0] p)/\Bl w' g_o 168 [.iface 61 (.pointer (some ⟨c3,0,none⟩)),.slice c2 o_l.length c7,.int .i64 o_at2,.bool o_ended,.bool o_Paid]/\DnD deV [(v_r0,F_r0)] [r0] (some g_o)/\K r0 r1 o_at2):=by
 subst c9
 subst d6
 unfold qH at H
 refine Fn.enter (by kernel_rfl) Tryz.func31 rfl Tryz.ntmps31 rfl ?_
 replace H:=H (by rw [<-b6.1]; exact Nat.le_trans ho_v_l.cap ho_v_l.max)
 replace H:=H (by rw [<-a0.1]; exact Nat.le_trans ho_l.cap ho_l.max)
 have hNoAt:AllP (NoAt w) [(some g_o)]:=(apC (NoAt.bl ho rfl) apN)
 refine zd (zb ?_)
 have hv1:RelD deV w [(vnil,noF)] [PV.nil]:=deV_nil
 refine yp (h:=(yp (h:=(ze (za (zd (zb (yp (h:=(zx rfl rfl (W_plist_Over_next_List0 ho_v_l rfl b6 ho_v ho_l rfl a0 ho (apC (InP.dn (InP.mem (List.Mem.head _)) (fun hx_=>ho_v_l.lt' hx_) hap0) apN) (apC (b6.inp hap1 (InP.mem (List.Mem.head _))) apN) (apC (InP.dj (InP.mem (List.Mem.head _)) ho_v.lt' hap2).symm apN) (apC (InP.dn (InP.mem (List.Mem.head _)) (fun hx_=>ho_l.lt' hx_) hap3) apN) (apC (a0.inp hap4 (InP.mem (List.Mem.head _))) apN) H) ?_))))))))))
 rintro _ w1 ⟨hgl1,v_t50,F_t50,t50,t51,o_,rfl,ht50,ho1,hB1,dj1,H⟩
 have gr1:GrL [(some g_o)] w w1:=GrL.modL (GrL.refl _) hgl1 (apC (InP.mem (List.Mem.head _)) apN)
 exact yp (h:=(yp (h:=(yp (h:=(yp (h:=(ze (za (zt (z8 rfl rfl rfl ⟨gr1,v_t50,F_t50,t50,t51,o_,rfl,ht50,(fun p_ hp_ v0_ v1_=>have q_:=And.intro v0_ v1_; ho1 p_ (fun g_ e_=>Nat.lt_of_lt_of_le (hp_ g_ e_) (Nat.le_refl _)) (q_.1) (q_.2)),hB1,dj1,H⟩)))))))))))
set_option maxHeartbeats 8000000 in
theorem ks {S:List Nat} {w:World} {g_v:Nat} {v_l:List PV} {a3:Option Addr} {e9:Nat} {a8:List VH} {v_frozen:Bool} {v_over:Int} {f0:Nat} {K:(List PV)->Er->(List PV)->Bool->Int->Prop} (hv_l:Own vv w 0 32 a3 e9 a8) (f2:f0=v_l.length) (d2:RelD deV w a8 v_l) (hv:Bl w g_v 166 [.slice a3 f0 e9,.bool v_frozen,.int .i64 v_over]) (hdj0_1:Dj (some g_v) (blk a3)) (hap0:AllP (DnD deV a8 v_l) [(some g_v),(blk a3)]) (H:jC v_l v_frozen v_over K):Fn Tryz.prog 35 ⟨[.iface 61 (.pointer (some ⟨g_v,0,none⟩))]⟩ w (fun v w'=>GrL [(some g_v),(blk a3)] w w'/\∃ (r0:List PV),∃ (e2:Option Addr),∃ (g3:Nat),∃ (d1:List VH),∃ (v_r1:Value),∃ (r1:Er),∃ (v_l2:List PV),∃ (c4:Option Addr),∃ (e4:Nat),∃ (c0:List VH),∃ (v_frozen2:Bool),∃ (v_over2:Int),v=.tuple #[.slice e2 r0.length g3,v_r1]/\Own vv w' w.heap.size 32 e2 g3 d1/\RelD deV w' d1 r0/\(∀ p:Option Nat,Lt p w.heap.size->DnD deV a8 v_l p->DnD deV d1 r0 p)/\DnD deV d1 r0 (blk e2)/\ErrR S w' v_r1 r1/\Bl w' g_v 166 [.slice c4 v_l2.length e4,.bool v_frozen2,.int .i64 v_over2]/\Own vv w' 0 32 c4 e4 c0/\InP [(some g_v),(blk a3)] w.heap.size (blk c4)/\RelD deV w' c0 v_l2/\(∀ p:Option Nat,Lt p w.heap.size->DnD deV a8 v_l p->DnD deV c0 v_l2 p)/\Dj (some g_v) (blk c4)/\DnD deV c0 v_l2 (some g_v)/\DnD deV c0 v_l2 (blk c4)/\Dj (blk e2) (some g_v)/\Dj (blk e2) (blk c4)/\DnD deV d1 r0 (some g_v)/\DnD deV d1 r0 (blk c4)/\DnD deV c0 v_l2 (blk e2)/\K r0 r1 v_l2 v_frozen2 v_over2):=by
 subst f2
 unfold jC at H
 refine Fn.enterD (by kernel_rfl) Tryz.func35 rfl Tryz.ntmps35 rfl ?_
 replace H:=H (by rw [<-d2.1]; exact Nat.le_trans hv_l.rd.cap hv_l.rd.max)
 have hNoAt:AllP (NoAt w) [(some g_v),(blk a3)]:=(apC (NoAt.bl hv rfl) (apC (NoAt.own hv_l rfl) apN))
 refine zd (zb (yp (h:=(yp (h:=(ze (za (zd (zb (yp (h:=(zx rfl rfl (jg (S:=S) hv_l rfl d2 hv hdj0_1 (apC (hap0 _ (List.Mem.head _)) (apC (hap0 _ (List.Mem.tail _ (List.Mem.head _))) apN)) H) ?_))))))))))))
 rintro v_ w1 ⟨hg_,hc_ | hc_⟩
 ·obtain ⟨v_t111,t111,v_,g7,h0,g9,v_2,v_3,rfl,ht111,hB1,hO1,hi1,hr1,ho1,dj1,dj2,dj3,H⟩:=hc_
  have hgl1:=hg_
  have hi2:InP [(some g_v),(blk a3)] w.heap.size (blk g7):=InP.trans hi1 (apC (InP.mem (List.Mem.head _)) (apC (InP.mem (List.Mem.tail _ (List.Mem.head _))) apN)) (Nat.le_refl _)
  have gr1:GrL [(some g_v),(blk a3)] w w1:=GrL.modL (GrL.refl _) hgl1 (apC (InP.mem (List.Mem.head _)) (apC (InP.mem (List.Mem.tail _ (List.Mem.head _))) apN))
  have k1:=d2.goL hgl1 (apC (hap0 _ (List.Mem.head _)) (apC (hap0 _ (List.Mem.tail _ (List.Mem.head _))) apN))
  refine yp (h:=(yp (h:=(yp (h:=(yp (h:=(yp (h:=(ze (za (zd (zd (zb (yp (h:=(zg rfl (z1 Tryz.underlying43 ht111 rfl) (ze (za (zm rfl (fun b1=>?_) (fun b1=>?_)))))))))))))))))))))
  ·replace H:=H.1 (jw b1)
   exact zd (False.elim H)
  ·replace H:=H.2 (jq b1)
   exact zo (za (zd (zb (yp (h:=(False.elim H))))))
 ·obtain ⟨b0,b7,a2,d3,b9,e1,b5,c1,v_t1112,t1112,v_4,e7,g4,f3,v_5,v_6,rfl,ht110_l,d0,ho3,dj4,ht1112,ht110,hge1,dj5,dj6,dj7,hB2,hO2,hi3,hr2,ho2,dj8,dj9,dj10,dj11,dj12,dj13,dj14,dj15,dj16,dj17,dj18,H⟩:=hc_
  have hgl2:=hg_
  have hi4:InP [(some g_v),(blk a3)] w.heap.size (blk e7):=InP.trans hi3 (apC (InP.mem (List.Mem.head _)) (apC (InP.mem (List.Mem.tail _ (List.Mem.head _))) apN)) (Nat.le_refl _)
  have hb1:=ht110_l.ge'
  have k2:=ht110_l.base (fun g hg=>Nat.le_trans (Nat.le_refl _) (hb1 g hg))
  have gr2:GrL [(some g_v),(blk a3)] w w1:=GrL.modL (GrL.refl _) hgl2 (apC (InP.mem (List.Mem.head _)) (apC (InP.mem (List.Mem.tail _ (List.Mem.head _))) apN))
  have k3:=d2.goL hgl2 (apC (hap0 _ (List.Mem.head _)) (apC (hap0 _ (List.Mem.tail _ (List.Mem.head _))) apN))
  refine yp (h:=(yp (h:=(yp (h:=(yp (h:=(yp (h:=(ze (za (zd (zd (zb (yp (h:=(zg rfl (z1 Tryz.underlying43 ht1112 rfl) (ze (za (zm rfl (fun b2=>?_) (fun b2=>?_)))))))))))))))))))))
  ·replace H:=H.1 (jw b2)
   exact zd (False.elim H)
  ·replace H:=H.2 (jq b2)
   refine zo (za (zd (zb (yp (h:=(WL.dfr rfl (DL.nil (DX.then_normal (DC.seq (DC.region (DL.y rfl (zh qD rfl) (DL.nil (DX.then_normal (DC.seq (DC.seq (DC.region (DL.y rfl (zh qD rfl) (DL.call rfl rfl (qK hO2.rd rfl hr2 hB2 k2.rd rfl d0 ht110 (apC (Dn.of dj14.symm) apN) (apC dj18 apN) (apC dj13.symm apN) (apC (Dn.of dj7) apN) (apC dj6 apN) H) ?_))))))))))))))))))
   rintro _ w4 ⟨hgl3,v_t200,F_t200,t200,t201,t110_,rfl,ht200,ho4,hB3,dj19,H⟩
   have gr3:GrL [(some g_v),(blk a3)] w w4:=GrL.modL gr2 hgl3 (apC (InP.ge (Ge.le hge1 (Nat.le_refl _))) apN)
   have k6:=hr2.goL hgl3 (apC dj18 apN)
   have k8:=d0.goL hgl3 (apC dj6 apN)
   refine DL.y rfl (zh qD rfl) (DL.y rfl (zh qD rfl) (DL.y rfl (zh qD rfl) (DL.y rfl (zh qD rfl) (DL.y rfl (zh qD rfl) (DL.nil (DX.then_normal (DC.block ?_)))))))
   obtain ⟨I1,mu1,g6,HR1⟩:=H
   refine DC.loopF (fun n' L' w'=>∃ (l:List PV),∃ (A_l:Option Addr),∃ (c_l:Nat),∃ (n_l:Nat),∃ (a6:List VH),∃ (v_x:OV),∃ (F_x:Nat->Prop),∃ (x:PV),∃ (is:Bool),∃ (t1102:Int),∃ (t1103:Bool),∃ (t1104:Bool),∃ (v_0:List PV),∃ (a4:Option Addr),∃ (d9:Nat),∃ (e6:Nat),∃ (a7:List VH),∃ (v_1:Bool),∃ (v_22:Int),n'=mu1 l x is t1102 t1103 t1104 v_0 v_1 v_22/\L'=[(4,.pointer (some ⟨b0,0,none⟩)),(6,.slice A_l n_l c_l),(7,v_x.1),(8,.bool is)]/\I1 l x is t1102 t1103 t1104 v_0 v_1 v_22/\n_l=l.length/\e6=v_0.length/\GrL [(some g_v),(blk a3)] w w'/\Bl w' g_v 166 [.slice a4 e6 d9,.bool v_1,.int .i64 v_22]/\Own vv w' w.heap.size 32 a2 d3 b9/\Bl w' b0 168 [.iface 61 (.pointer (some ⟨g_v,0,none⟩)),.slice a2 b7.length d3,.int .i64 t1102,.bool t1103,.bool t1104]/\RelD deV w' b9 b7/\Own vv w' w.heap.size 32 A_l c_l a6/\RelD deV w' a6 l/\RelD deV w' [(v_x,F_x)] [x]/\Own vv w' 0 32 a4 d9 a7/\RelD deV w' a7 v_0/\Dj (some g_v) (blk A_l)/\Dj (some g_v) (blk a4)/\Dj (blk a2) (blk A_l)/\Dj (blk a2) (blk a4)/\Dj (some b0) (blk A_l)/\Dj (some b0) (blk a4)/\DnD deV b9 b7 (blk A_l)/\DnD deV b9 b7 (blk a4)/\Dj (blk A_l) (blk a4)/\DnD deV a6 l (some g_v)/\DnD deV a6 l (blk a2)/\DnD deV a6 l (some b0)/\DnD deV a6 l (blk A_l)/\DnD deV a6 l (blk a4)/\DnD deV [(v_x,F_x)] [x] (some g_v)/\DnD deV [(v_x,F_x)] [x] (blk a2)/\DnD deV [(v_x,F_x)] [x] (some b0)/\DnD deV [(v_x,F_x)] [x] (blk A_l)/\DnD deV [(v_x,F_x)] [x] (blk a4)/\DnD deV a7 v_0 (some g_v)/\DnD deV a7 v_0 (blk a2)/\DnD deV a7 v_0 (some b0)/\DnD deV a7 v_0 (blk A_l)/\DnD deV a7 v_0 (blk a4)/\OrD (fun p=>DnD deV a8 v_l p) deV a6 l w.heap.size/\OrD (fun p=>DnD deV a8 v_l p) deV [(v_x,F_x)] [x] w.heap.size/\OrD (fun p=>DnD deV a8 v_l p) deV a7 v_0 w.heap.size/\InP [(some g_v),(blk a3)] w.heap.size (blk a4)) _ _ ⟨[],none,0,0,[],v_t200,F_t200,t200,t201,t110_,b5,c1,v_4,e7,g4,v_4.length,f3,v_5,v_6,rfl,rfl,g6,rfl,rfl,gr3,(hB2.goL hgl3 (apC dj13.symm apN)),(k2.goL hgl3 (apC dj7 apN)),hB3,k8,(Own.nil vv w4 w.heap.size 32),(RelD.nil (d:=deV) (w:=w4)),ht200,(hO2.goL hgl3 (apC dj14.symm apN)),k6,Dj.nr,dj8,Dj.nr,dj12,Dj.nr,dj14,(DnD.none k8),dj16,Dj.nl,DnD.nil,DnD.nil,DnD.nil,DnD.nil,DnD.nil,(ho4 _ hB2.lt' dj9 dj15),(ho4 _ k2.lt' dj17 dj5),dj19,(DnD.none ht200),(ho4 _ hO2.lt' dj10 dj16),dj9,dj17,dj18,(DnD.none k6),dj10,(fun p_ hp_ q_=>(DnD.nil (d:=deV))),(fun p_ hp_ q_=>ho4 p_ (fun g_ e_=>Nat.lt_of_lt_of_le (hp_ g_ e_) (GrL.sizeL gr2)) (ho2 p_ (fun g_ e_=>Nat.lt_of_lt_of_le (hp_ g_ e_) (Nat.le_refl _)) (q_)) (ho3 p_ (fun g_ e_=>Nat.lt_of_lt_of_le (hp_ g_ e_) (Nat.le_refl _)) (q_))),(fun p_ hp_ q_=>ho2 p_ (fun g_ e_=>Nat.lt_of_lt_of_le (hp_ g_ e_) (Nat.le_refl _)) (q_)),hi4⟩ sb ?_
   clear g6
   rintro _ _ w5 ⟨l,A_l,c_l,n_l,a6,v_x,F_x,x,is,t1102,t1103,t1104,v_0,a4,d9,e6,a7,v_1,v_22,rfl,rfl,hI1,rfl,rfl,gr4,k9,k10,k11,k12,k13,k14,k15,k16,k17,dj20,dj21,dj22,dj23,dj24,dj25,dj26,dj27,dj28,dj29,dj30,dj31,dj32,dj33,dj34,dj35,dj36,dj37,dj38,dj39,dj40,dj41,dj42,dj43,or1,or2,or3,hi5⟩
   have H:=HR1 l x is t1102 t1103 t1104 v_0 v_1 v_22 hI1
   refine DC.seq (DC.seq (DC.region (DL.y rfl (zh qD rfl) (DL.nil (DX.then_normal (DC.cond rfl (fun b3=>?_) (fun b3=>?_)))))))
   ·replace H:=H.1 (b3)
    refine DC.skip (DX.then_normal (DC.seq (DC.block (DC.seq (DC.seq (DC.region (DL.y rfl (zh qD rfl) (DL.y rfl (zh qD rfl) (DL.y rfl (zh qD rfl) (DL.nil (DX.then_normal (DC.cond rfl (fun b4=>?_) (fun b4=>?_)))))))))))))
    ·replace H:=H.1 (of_decide_eq_true b4)
     exact DC.seq (False.elim H)
    ·replace H:=H.2 (of_decide_eq_false b4)
     refine DC.skip (DX.then_normal (DC.region (DL.y rfl (zh qD rfl) (DL.y rfl (zh qD rfl) (DL.lit (us:=[v_x.1]) qD rfl rfl rfl (qJ v_x.2 jl) rfl (by omega) (fun g2 w7 hB5 hg2 hl2=>?_))))))
     have hO4:Own vv w7 w.heap.size 32 (some ⟨g2,0,none⟩) 1 ([(v_x,F_x)]:List VH):=Own.ofBl hB5 (Nat.le_trans (GrL.sizeL gr4) hl2) (by simp [maxLen]) rfl
     have gr5:=GrL.add0 gr4 hg2
     have k18:=k9.g0 hg2
     have k19:=k10.grown hg2
     have k20:=k11.g0 hg2
     have k21:=k12.grown hg2
     have k22:=k13.grown hg2
     have k23:=k14.grown hg2
     have k25:=k16.grown hg2
     have k26:=k17.grown hg2
     have hr3:RelD deV w7 ([(v_x,F_x)]:List VH) ([x]:List PV):=(RelD.cons (RelD.one (k15.grown hg2)) RelD.nil)
     have nd1:OrD (fun p=>DnD deV a8 v_l p) deV ([(v_x,F_x)]:List VH) ([x]:List PV) w.heap.size:=(OrD.cons (d:=deV) (fun p_ hp_ q_=>(DnD.one (or2 p_ hp_ q_))) (fun _ _ _=>DnD.nil))
     have dj44:DnD deV ([(v_x,F_x)]:List VH) ([x]:List PV) (some g_v):=(DnD.cons (d:=deV) (DnD.one dj34) DnD.nil)
     have dj45:DnD deV ([(v_x,F_x)]:List VH) ([x]:List PV) (blk a2):=(DnD.cons (d:=deV) (DnD.one dj35) DnD.nil)
     have dj46:DnD deV ([(v_x,F_x)]:List VH) ([x]:List PV) (some b0):=(DnD.cons (d:=deV) (DnD.one dj36) DnD.nil)
     have dj47:DnD deV ([(v_x,F_x)]:List VH) ([x]:List PV) (blk A_l):=(DnD.cons (d:=deV) (DnD.one dj37) DnD.nil)
     have dj48:DnD deV ([(v_x,F_x)]:List VH) ([x]:List PV) (blk a4):=(DnD.cons (d:=deV) (DnD.one dj38) DnD.nil)
     have dj49:DnD deV ([(v_x,F_x)]:List VH) ([x]:List PV) (blk (some ⟨g2,0,none⟩)):=(DnD.cons (d:=deV) (DnD.one (k15.new (Ge.box hl2))) DnD.nil)
     obtain ⟨h1,H⟩:=H
     have h2:((a6:List VH).length+([(v_x,F_x)]:List VH).length)*16<=140737488355328:=by rw [k23.1,hr3.1]; exact h1
     refine DL.append qD rfl rfl One.vv k22 rfl k14.1.symm hO4.rd rfl rfl h2 (jT h2) (GrL.sizeL gr5) (fun f9 g8 w8 hO5 hg3 hk1=>?_)
     have el1:(a6++([(v_x,F_x)]:List VH)).length=(l++([x]:List PV)).length:=by rw [List.length_append,List.length_append,k23.1,hr3.1]
     rw [el1]
     have gr6:GrL [(some g_v),(blk a3)] w w8:=GrL.mod gr5 hg3 (InP.ge k22.ge')
     have k27:=k18.go hg3 dj20
     have k28:=k19.go hg3 dj22
     have k30:=k21.go hg3 dj26
     have k32:=k25.go hg3 dj28.symm
     have k33:=k26.go hg3 dj42
     have hr4:RelD deV w8 (a6++([(v_x,F_x)]:List VH)) (l++([x]:List PV)):=RelD.append (k23.go hg3 dj32) (hr3.go hg3 dj47)
     have nd2:OrD (fun p=>DnD deV a8 v_l p) deV (a6++([(v_x,F_x)]:List VH)) (l++([x]:List PV)) w.heap.size:=OrD.append k23.1 or1 nd1
     have dj50:DnD deV (a6++([(v_x,F_x)]:List VH)) (l++([x]:List PV)) (some g_v):=(DnD.append k23.1 dj29 dj44)
     have dj51:DnD deV (a6++([(v_x,F_x)]:List VH)) (l++([x]:List PV)) (blk a2):=(DnD.append k23.1 dj30 dj45)
     have dj52:DnD deV (a6++([(v_x,F_x)]:List VH)) (l++([x]:List PV)) (some b0):=(DnD.append k23.1 dj31 dj46)
     have dj53:DnD deV (a6++([(v_x,F_x)]:List VH)) (l++([x]:List PV)) (blk a4):=(DnD.append k23.1 dj33 dj48)
     have dj54:DnD deV (a6++([(v_x,F_x)]:List VH)) (l++([x]:List PV)) (blk (some ⟨g2,0,none⟩)):=(DnD.append k23.1 (k14.new (Ge.box hl2)) dj49)
     have dj55:DnD deV (a6++([(v_x,F_x)]:List VH)) (l++([x]:List PV)) (blk f9):=(DnD.append k23.1 (RelD.app k23 dj32 hk1) (RelD.app hr3 dj47 hk1))
     refine DL.y rfl (zh qD rfl) (DL.nil (DX.block_normal (DX.then_normal (DC.region (DL.y rfl (zh qD rfl) (DL.call rfl rfl (qK k32.rd rfl k33 k27 k28.rd rfl k30 (k20.go hg3 dj24) (apC (Dn.of dj25.symm) apN) (apC dj41 apN) (apC dj13.symm apN) (apC (Dn.of dj7) apN) (apC dj6 apN) H) ?_))))))
     rintro _ w9 ⟨hgl4,v_t260,F_t260,t260,t261,d8,rfl,ht260,ho5,hB6,dj56,H⟩
     have gr7:GrL [(some g_v),(blk a3)] w w9:=GrL.modL gr6 hgl4 (apC (InP.ge (Ge.le hge1 (Nat.le_refl _))) apN)
     exact DL.y rfl (zh qD rfl) (DL.y rfl (zh qD rfl) (DL.y rfl (zh qD rfl) (DL.y rfl (zh qD rfl) (DL.y rfl (zh qD rfl) (DL.nil (DX.roundF _ ⟨l++([x]:List PV),f9,g8,(l++([x]:List PV)).length,a6++([(v_x,F_x)]:List VH),v_t260,F_t260,t260,t261,d8,t1103,t1104,v_0,a4,d9,v_0.length,a7,v_1,v_22,rfl,rfl,H.1,rfl,rfl,gr7,(k27.goL hgl4 (apC dj13.symm apN)),(k28.goL hgl4 (apC dj7 apN)),hB6,(k30.goL hgl4 (apC dj6 apN)),(hO5.goL hgl4 (apC (Dj.app dj24.symm k20.lt' hk1) apN)),(hr4.goL hgl4 (apC dj52 apN)),ht260,(k32.goL hgl4 (apC dj25.symm apN)),(k33.goL hgl4 (apC dj41 apN)),(Dj.app dj20.symm k18.lt' hk1).symm,dj21,(Dj.app dj22.symm k19.lt' hk1).symm,dj23,(Dj.app dj24.symm k20.lt' hk1).symm,dj25,(RelD.app k21 dj26 hk1),dj27,(Dj.app dj28 k25.lt' hk1),dj50,dj51,dj52,dj55,dj53,(ho5 _ k27.lt' dj39 dj15),(ho5 _ k28.lt' dj40 dj5),dj56,(ho5 _ hO5.lt' (RelD.app k26 dj42 hk1) (RelD.app k21 dj26 hk1)),(ho5 _ k32.lt' dj43 dj27),dj39,dj40,dj41,(RelD.app k26 dj42 hk1),dj43,nd2,(fun p_ hp_ q_=>ho5 p_ (fun g_ e_=>Nat.lt_of_lt_of_le (hp_ g_ e_) (GrL.sizeL gr6)) (or3 p_ hp_ q_) (ho3 p_ (fun g_ e_=>Nat.lt_of_lt_of_le (hp_ g_ e_) (Nat.le_refl _)) (q_))),or3,hi5⟩ sb H.2))))))
   ·replace H:=H.2 (b3)
    refine DC.exit (DX.then_exit (DX.then_exit (DX.block_same (DX.then_normal (DC.seq (DC.region (DL.y rfl (zh qD rfl) (DL.y rfl (zh qD rfl) (DL.y rfl (zh qD rfl) (DL.nil (DX.then_normal (DC.ret (DX.ret2 rfl rfl rfl  (WQ_plist_Over_End_List0 k16 rfl k17 k9 k10.rd rfl k12 k11 dj13.symm.symm dj25 dj21 (apC dj41 (apC dj39 (apC dj43 apN))) (apC (Dn.of dj7) (apC (Dn.of dj11.symm.symm) (apC (Dn.of dj23) apN))) (apC dj6 (apC dj15 (apC dj27 apN))) H) ?_)))))))))))))
    rintro _ w10 ⟨hgl5,f6,f7,f8,v_7,e8,g5,f4,v_8,v_9,rfl,hB7,hB8,hO6,hi6,hr5,ho6,dj57,dj58,dj59,dj60,dj61,dj62,H⟩
    have hi7:InP [(some g_v),(blk a3)] w.heap.size (blk e8):=InP.trans hi6 (apC (InP.ge (Ge.le hge1 (Nat.le_refl _))) (apC (InP.mem (List.Mem.head _)) (apC hi5 apN))) (GrL.sizeL gr4)
    have gr8:GrL [(some g_v),(blk a3)] w w10:=GrL.modL gr4 hgl5 (apC (InP.ge (Ge.le hge1 (Nat.le_refl _))) (apC (InP.mem (List.Mem.head _)) (apC hi5 apN)))
    have k42:=k10.goL hgl5 (apC dj7 (apC dj11.symm.symm (apC dj23 apN)))
    have k43:=k12.goL hgl5 (apC dj6 (apC dj15 (apC dj27 apN)))
    have k46:=k17.goL hgl5 (apC dj41 (apC dj39 (apC dj43 apN)))
    exact ⟨gr8,l,A_l,c_l,a6,.nilIface,Er.ok,v_7,e8,g5,f4,v_8,v_9,rfl,(k13.goL hgl5 (apC dj24.symm (apC dj20.symm (apC dj28 apN)))),(k14.goL hgl5 (apC dj31 (apC dj29 (apC dj33 apN)))),(fun p_ hp_ v0_=>or1 p_ hp_ v0_),dj32,(ErrR.okR (S:=S) (w:=w10)),hB8,hO6,hi7,hr5,(fun p_ hp_ v0_=>have q_:=v0_; ho6 p_ (fun g_ e_=>Nat.lt_of_lt_of_le (hp_ g_ e_) (GrL.sizeL gr4)) (or3 p_ hp_ q_) (ho3 p_ (fun g_ e_=>Nat.lt_of_lt_of_le (hp_ g_ e_) (Nat.le_refl _)) (q_))),dj59,dj61,dj62,dj20.symm,(InP.dj hi6 k13.lt' (apC dj24.symm (apC dj20.symm (apC dj28 apN)))).symm,dj29,(RelD.inp k14 (apC dj31 (apC dj29 (apC dj33 apN))) hi6),(ho6 _ k13.lt' dj42 dj26),H⟩
set_option maxHeartbeats 8000000 in
theorem W_list_Each {S:List Nat} {w:World} {v_v:OV} {F_v:Nat->Prop} {v_:PV} {K0:Er->Prop} {K:PV->(List PV)->Int->Bool->Bool->Er->Prop} (hG:GOK S w) (hS3:3∈S) (hv_:RelD deV w [(v_v,F_v)] [v_]) (H:ko v_ K0 K):Fn Tryz.prog 30 ⟨[v_v.1]⟩ w (fun v w'=>w.grownBy w' none/\((∃ (v_r12:Value),∃ (r12:Er),v=.tuple #[.pointer none,v_r12]/\ErrR S w' v_r12 r12/\K0 r12)∨(∃ (e5:Nat),∃ (v_r0_v:OV),∃ (F_r0_v:Nat->Prop),∃ (f5:PV),∃ (d7:List PV),∃ (c8:Option Addr),∃ (e3:Nat),∃ (b8:List VH),∃ (f1:Int),∃ (d5:Bool),∃ (e0:Bool),∃ (v_r1:Value),∃ (r1:Er),v=.tuple #[.pointer (some ⟨e5,0,none⟩),v_r1]/\RelD deV w' [(v_r0_v,F_r0_v)] [f5]/\(∀ p:Option Nat,Lt p w.heap.size->DnD deV [(v_v,F_v)] [v_] p->DnD deV [(v_r0_v,F_r0_v)] [f5] p)/\Own vv w' w.heap.size 32 c8 e3 b8/\RelD deV w' b8 d7/\(∀ p:Option Nat,Lt p w.heap.size->DnD deV [(v_v,F_v)] [v_] p->DnD deV b8 d7 p)/\DnD deV b8 d7 (blk c8)/\ErrR S w' v_r1 r1/\Bl w' e5 168 [v_r0_v.1,.slice c8 d7.length e3,.int .i64 f1,.bool d5,.bool e0]/\Ge (some e5) w.heap.size/\DnD deV b8 d7 (blk c8)/\DnD deV b8 d7 (some e5)/\Dj (blk c8) (some e5)/\K f5 d7 f1 d5 e0 r1))):=by
 unfold ko at H
 refine Fn.enter (by kernel_rfl) Tryz.func30 rfl Tryz.ntmps30 rfl ?_
 refine zd (zb (yp (h:=(yp (h:=(ze (za (zd (zb (yp (h:=?_)))))))))))
 have hv1:RelD deV w [(vnil,noF)] [PV.nil]:=deV_nil
 refine zg rfl (z6 (us:=[v_v.1,.slice none 0 0,.int .i64 (0:Int),.bool false,.bool false]) (vs:=[(0,v_v.1)]) zero168 places168 rfl (by simp only [fillL,cells1 v_v.2]; rfl)) (qn (us:=[v_v.1,.slice none 0 0,.int .i64 (0:Int),.bool false,.bool false]) rfl rfl rfl (fun g1 w1 hB1 hg1 hl1=>?_))
 have gr1:=hg1
 refine yp (h:=(ze (za (zd (zd (zb (yp (h:=?_))))))))
 obtain ⟨h1,H⟩:=H
 refine qz rfl (hv_.grown gr1) h1 rfl (fun w2 hg2=>?_)
 have gr2:=qG gr1 hg2
 have k1:=hB1.g0 hg2
 refine ze (za (WC.block (zd ?_)))
 obtain ⟨J1,H,hJ1⟩:=H
 refine qo (fun L' w'=>∃ (t11:Bool),L'=[(0,v_v.1),(4,.pointer (some ⟨g1,0,none⟩)),(9,.int .i64 (jV v_)),(11,.bool t11)]/\J1 t11/\w2=w') ?_ (fun hQ=>?_)
 ·clear H
  rintro _ _ ⟨t11,rfl,H,rfl⟩
  replace H:=hJ1 t11 H
  refine za (zm rfl (fun b1=>?_) (fun b1=>?_))
  ·replace H:=H.1 (b1)
   exact False.elim H
  ·replace H:=H.2 (b1)
   refine zd (zb (yp (h:=(yp (h:=(ze (za (zm rfl (fun b2=>?_) (fun b2=>?_)))))))))
   ·replace H:=H.1 (of_decide_eq_true b2)
    exact zo (zi (za (zd (False.elim H))))
   ·replace H:=H.2 (of_decide_eq_false b2)
    refine zd (qq jx (by kernel_rfl) ?_)
    obtain ⟨vE1,_,hE1⟩:=GOK.get (hG.grown gr2) 3 0 hS3 rfl rfl
    exact qc rfl (Yld.cell qD (ErrR.cell hE1 rfl) rfl rfl) (qc rfl (zh qD rfl) (qc rfl (zh qD rfl) (qC (za (zt (zj (zf (z8 rfl rfl rfl ⟨gr2,Or.inl ⟨vE1,(Er.e 3),rfl,hE1,H⟩⟩))))))))
 ·clear hJ1
  refine zd (zb (yp (h:=(yp (h:=(ze (za (zm rfl (fun b3=>?_) (fun b3=>?_)))))))))
  ·replace H:=H.1 (of_decide_eq_true b3)
   exact zo (WX.weaken sb (hQ _ _ ⟨decide ((jV v_)=(5:Int)),rfl,H,rfl⟩))
  ·replace H:=H.2 (of_decide_eq_false b3)
   refine zd (zb (yp (h:=(yp (h:=(ze (za (zm rfl (fun b4=>?_) (fun b4=>?_)))))))))
   ·replace H:=H.1 (of_decide_eq_true b4)
    exact zo (WX.weaken sb (hQ _ _ ⟨decide ((jV v_)=(6:Int)),rfl,H,rfl⟩))
   ·replace H:=H.2 (of_decide_eq_false b4)
    exact zb (yp (h:=(yp (h:=(ze (WX.weaken sb (hQ _ _ ⟨decide ((jV v_)=(7:Int)),rfl,H,rfl⟩)))))))
end
 end Go.Proofs.YtjoepdjeekadcaaGreatDoor
