/- Texts of this claim, joined by a program: GLu, Sym, LsA, LsB, Lq, GSa, Sent, GSb, Lw, Enc, EncD, GLv, See, LsC, LsD. -/
import Derived.Test.YtjoepdjeekadcaaGreatDoorJ3
namespace Go.Proofs.YtjoepdjeekadcaaGreatDoor

section
open Go Go.RowKit
attribute [local irreducible] WL WC WX WQ WK WJ Yld Eff Ef0 Fn
def qS (data:List PV) (a:Int) (b:Int) (cap0:Bool) (cap1:Bool) (K:(List PV)->Prop):Prop :=
 (data.length<=maxLen ->
 (In .i64 (a+(1:Int))) /\
 Lp2 (fun (i:Int) (data2:List PV) kont1=>data.length=data2.length->((i<b->Lp2 (fun (j:Int) (data3:List PV) kont2=>data.length=data3.length->∃ J1:Bool->Prop,((((decide (a<j))=true->(0<=j/\j<(data.length:Nat)) /\
 (In .i64 (j - (1:Int))) /\
 (0<=j - (1:Int)/\j - (1:Int)<(data.length:Nat)) /\
 jE (data3.getD j.toNat PV.nil) (data3.getD ((j - (1:Int)).toNat) PV.nil) cap0 cap1 (fun (t32:Int) =>
 J1 (decide (t32<(0:Int))))) /\
 ((decide (a<j))=false->J1 false))) /\
 (∀ q1:Bool,J1 q1->((q1=true->(In .i64 (j - (1:Int))) /\
 (In .i64 (j - (1:Int))) /\
 (0<=j - (1:Int)/\j - (1:Int)<(data.length:Nat)) /\
 (0<=j/\j<(data.length:Nat)) /\
 (0<=j/\j<(data.length:Nat)) /\
 (0<=j - (1:Int)/\j - (1:Int)<(data.length:Nat)) /\
 (In .i64 (j - (1:Int))) /\
 kont2 (j - (1:Int)) ((data3.set j.toNat (data3.getD ((j - (1:Int)).toNat) PV.nil)).set ((j - (1:Int)).toNat) (data3.getD j.toNat PV.nil))) /\
 (q1=false->(In .i64 (i+(1:Int))) /\
 kont1 (i+(1:Int)) data3)))) i data2) /\
 (¬ (i<b)->K data2))) (a+(1:Int)) data)
def qQ (data:List PV) (a:Int) (b:Int) (n:Int) (cap0:Bool) (cap1:Bool) (K:(List PV)->Prop):Prop :=
 (data.length<=maxLen ->
 Lp2 (fun (i:Int) (data2:List PV) kont1=>data.length=data2.length->((i<n->(In .i64 (a+i)) /\
 (In .i64 (b+i)) /\
 (In .i64 (b+i)) /\
 (0<=b+i/\b+i<(data.length:Nat)) /\
 (In .i64 (a+i)) /\
 (0<=a+i/\a+i<(data.length:Nat)) /\
 (0<=a+i/\a+i<(data.length:Nat)) /\
 (0<=b+i/\b+i<(data.length:Nat)) /\
 (In .i64 (i+(1:Int))) /\
 kont1 (i+(1:Int)) ((data2.set ((a+i).toNat) (data2.getD ((b+i).toNat) PV.nil)).set ((b+i).toNat) (data2.getD ((a+i).toNat) PV.nil))) /\
 (¬ (i<n)->K data2))) (0:Int) data)
def q7 (data:List PV) (a:Int) (m:Int) (b:Int) (cap0:Bool) (cap1:Bool) (K:(List PV)->Prop):Prop :=
 (data.length<=maxLen ->
 (In .i64 (m - a)) /\
 (In .i64 (b - m)) /\
 Lp3 (fun (i:Int) (j:Int) (data2:List PV) kont1=>data.length=data2.length->((¬ (i=j)->((j<i->(In .i64 (m - i)) /\
 qQ data2 (m - i) m j cap0 cap1 (fun (ys:List PV) =>
 (In .i64 (i - j)) /\
 kont1 (i - j) j ys)) /\
 (¬ (j<i)->(In .i64 (m - i)) /\
 (In .i64 (m+j)) /\
 (In .i64 ((m+j) - i)) /\
 qQ data2 (m - i) ((m+j) - i) i cap0 cap1 (fun (ys2:List PV) =>
 (In .i64 (j - i)) /\
 kont1 i (j - i) ys2)))) /\
 (i=j->(In .i64 (m - i)) /\
 qQ data2 (m - i) m i cap0 cap1 (fun (ys3:List PV) =>
 K ys3)))) (m - a) (b - m) data)
def qY (MR:(List PV)->Int->Int->Int->Bool->Bool->((List PV)->Prop)->Prop) (data:List PV) (a:Int) (m:Int) (b:Int) (cap0:Bool) (cap1:Bool) (K:(List PV)->Prop):Prop :=
 (data.length<=maxLen ->
 (In .i64 (m - a)) /\
 (((m - a)=(1:Int)->Lp2 (fun (i:Int) (j:Int) kont1=>((i<j->(In .i64 (i+j)) /\
 (In .u64 (i+j)) /\
 (In .i64 (shrV .u64 (i+j) 1)) /\
 (0<=shrV .u64 (i+j) 1/\shrV .u64 (i+j) 1<(data.length:Nat)) /\
 (0<=a/\a<(data.length:Nat)) /\
 jE (data.getD ((shrV .u64 (i+j) 1).toNat) PV.nil) (data.getD a.toNat PV.nil) cap0 cap1 (fun (t49:Int) =>
 ((t49<(0:Int)->(In .i64 ((shrV .u64 (i+j) 1)+(1:Int))) /\
 kont1 ((shrV .u64 (i+j) 1)+(1:Int)) j) /\
 (¬ (t49<(0:Int))->kont1 i (shrV .u64 (i+j) 1))))) /\
 (¬ (i<j)->Lp2 (fun (k:Int) (data2:List PV) kont2=>data.length=data2.length->(In .i64 (i - (1:Int))) /\
 ((k<(i - (1:Int))->(In .i64 (k+(1:Int))) /\
 (In .i64 (k+(1:Int))) /\
 (0<=k+(1:Int)/\k+(1:Int)<(data.length:Nat)) /\
 (0<=k/\k<(data.length:Nat)) /\
 (0<=k/\k<(data.length:Nat)) /\
 (0<=k+(1:Int)/\k+(1:Int)<(data.length:Nat)) /\
 (In .i64 (k+(1:Int))) /\
 kont2 (k+(1:Int)) ((data2.set k.toNat (data2.getD ((k+(1:Int)).toNat) PV.nil)).set ((k+(1:Int)).toNat) (data2.getD k.toNat PV.nil))) /\
 (¬ (k<(i - (1:Int)))->K data2))) a data))) m b) /\
 (¬ ((m - a)=(1:Int))->(In .i64 (b - m)) /\
 (((b - m)=(1:Int)->Lp2 (fun (i2:Int) (j2:Int) kont3=>((i2<j2->(In .i64 (i2+j2)) /\
 (In .u64 (i2+j2)) /\
 (In .i64 (shrV .u64 (i2+j2) 1)) /\
 (0<=m/\m<(data.length:Nat)) /\
 (0<=shrV .u64 (i2+j2) 1/\shrV .u64 (i2+j2) 1<(data.length:Nat)) /\
 jE (data.getD m.toNat PV.nil) (data.getD ((shrV .u64 (i2+j2) 1).toNat) PV.nil) cap0 cap1 (fun (t101:Int) =>
 ((¬ (t101<(0:Int))->(In .i64 ((shrV .u64 (i2+j2) 1)+(1:Int))) /\
 kont3 ((shrV .u64 (i2+j2) 1)+(1:Int)) j2) /\
 (t101<(0:Int)->kont3 i2 (shrV .u64 (i2+j2) 1))))) /\
 (¬ (i2<j2)->Lp2 (fun (k_2:Int) (data3:List PV) kont4=>data.length=data3.length->((i2<k_2->(In .i64 (k_2 - (1:Int))) /\
 (In .i64 (k_2 - (1:Int))) /\
 (0<=k_2 - (1:Int)/\k_2 - (1:Int)<(data.length:Nat)) /\
 (0<=k_2/\k_2<(data.length:Nat)) /\
 (0<=k_2/\k_2<(data.length:Nat)) /\
 (0<=k_2 - (1:Int)/\k_2 - (1:Int)<(data.length:Nat)) /\
 (In .i64 (k_2 - (1:Int))) /\
 kont4 (k_2 - (1:Int)) ((data3.set k_2.toNat (data3.getD ((k_2 - (1:Int)).toNat) PV.nil)).set ((k_2 - (1:Int)).toNat) (data3.getD k_2.toNat PV.nil))) /\
 (¬ (i2<k_2)->K data3))) m data))) a m) /\
 (¬ ((b - m)=(1:Int))->(In .i64 (a+b)) /\
 (In .u64 (a+b)) /\
 (In .i64 (shrV .u64 (a+b) 1)) /\
 (In .i64 ((shrV .u64 (a+b) 1)+m)) /\
 ∃ J1:Int->Int->Prop,((((shrV .u64 (a+b) 1)<m->(In .i64 (((shrV .u64 (a+b) 1)+m) - b)) /\
 J1 (((shrV .u64 (a+b) 1)+m) - b) (shrV .u64 (a+b) 1)) /\
 (¬ ((shrV .u64 (a+b) 1)<m)->J1 a m))) /\
 (∀ start:Int,∀ r:Int,J1 start r->(In .i64 (((shrV .u64 (a+b) 1)+m) - (1:Int))) /\
 Lp2 (fun (start2:Int) (r2:Int) kont5=>((start2<r2->(In .i64 (start2+r2)) /\
 (In .u64 (start2+r2)) /\
 (In .i64 (shrV .u64 (start2+r2) 1)) /\
 (In .i64 ((((shrV .u64 (a+b) 1)+m) - (1:Int)) - (shrV .u64 (start2+r2) 1))) /\
 (0<=(((shrV .u64 (a+b) 1)+m) - (1:Int)) - (shrV .u64 (start2+r2) 1)/\(((shrV .u64 (a+b) 1)+m) - (1:Int)) - (shrV .u64 (start2+r2) 1)<(data.length:Nat)) /\
 (0<=shrV .u64 (start2+r2) 1/\shrV .u64 (start2+r2) 1<(data.length:Nat)) /\
 jE (data.getD (((((shrV .u64 (a+b) 1)+m) - (1:Int)) - (shrV .u64 (start2+r2) 1)).toNat) PV.nil) (data.getD ((shrV .u64 (start2+r2) 1).toNat) PV.nil) cap0 cap1 (fun (t169:Int) =>
 ((¬ (t169<(0:Int))->(In .i64 ((shrV .u64 (start2+r2) 1)+(1:Int))) /\
 kont5 ((shrV .u64 (start2+r2) 1)+(1:Int)) r2) /\
 (t169<(0:Int)->kont5 start2 (shrV .u64 (start2+r2) 1))))) /\
 (¬ (start2<r2)->(In .i64 (((shrV .u64 (a+b) 1)+m) - start2)) /\
 ∃ J2:(List PV)->Prop,(((((decide (start2<m)) && (decide (m<(((shrV .u64 (a+b) 1)+m) - start2))))=true->q7 data start2 m (((shrV .u64 (a+b) 1)+m) - start2) cap0 cap1 (fun (ys3:List PV) =>
 J2 ys3)) /\
 (((decide (start2<m)) && (decide (m<(((shrV .u64 (a+b) 1)+m) - start2))))=false->J2 data))) /\
 (∀ xs:List PV,J2 xs->data.length=xs.length->∃ J3:(List PV)->Prop,(((((decide (a<start2)) && (decide (start2<(shrV .u64 (a+b) 1))))=true->MR xs a start2 (shrV .u64 (a+b) 1) cap0 cap1 (fun (ys2:List PV) =>
 J3 ys2)) /\
 (((decide (a<start2)) && (decide (start2<(shrV .u64 (a+b) 1))))=false->J3 xs))) /\
 (∀ xs2:List PV,J3 xs2->data.length=xs2.length->((((decide ((shrV .u64 (a+b) 1)<(((shrV .u64 (a+b) 1)+m) - start2))) && (decide ((((shrV .u64 (a+b) 1)+m) - start2)<b)))=true->MR xs2 (shrV .u64 (a+b) 1) (((shrV .u64 (a+b) 1)+m) - start2) b cap0 cap1 (fun (ys:List PV) =>
 K ys)) /\
 (((decide ((shrV .u64 (a+b) 1)<(((shrV .u64 (a+b) 1)+m) - start2))) && (decide ((((shrV .u64 (a+b) 1)+m) - start2)<b)))=false->K xs2))))))) start r))))))
def qU:Nat->(List PV)->Int->Int->Int->Bool->Bool->((List PV)->Prop)->Prop
 | 0=>fun _ _ _ _ _ _ _=>False
 | n+1=>qY (qU n)
def je (data:List PV) (a:Int) (m:Int) (b:Int) (cap0:Bool) (cap1:Bool) (K:(List PV)->Prop):Prop:=∃ n,qU n data a m b cap0 cap1 K
def ja (data:List PV) (n:Int) (cap0:Bool) (cap1:Bool) (K:(List PV)->Prop):Prop :=
 (data.length<=maxLen ->
 Lp3 (fun (a:Int) (b:Int) (data2:List PV) kont1=>data.length=data2.length->((b<=n->qS data2 a b cap0 cap1 (fun (ys:List PV) =>
 (In .i64 (b+(20:Int))) /\
 kont1 b (b+(20:Int)) ys)) /\
 (¬ (b<=n)->qS data2 a n cap0 cap1 (fun (ys2:List PV) =>
 Lp2 (fun (blockSize:Int) (data3:List PV) kont2=>data.length=data3.length->((blockSize<n->(In .i64 ((2:Int)*blockSize)) /\
 Lp3 (fun (a2:Int) (b_2:Int) (data4:List PV) kont3=>data.length=data4.length->((b_2<=n->(In .i64 (a2+blockSize)) /\
 je data4 a2 (a2+blockSize) b_2 cap0 cap1 (fun (ys3:List PV) =>
 (In .i64 ((2:Int)*blockSize)) /\
 (In .i64 (b_2+((2:Int)*blockSize))) /\
 kont3 b_2 (b_2+((2:Int)*blockSize)) ys3)) /\
 (¬ (b_2<=n)->∃ J1:(List PV)->Prop,((In .i64 (a2+blockSize)) /\
 (((a2+blockSize)<n->je data4 a2 (a2+blockSize) n cap0 cap1 (fun (ys4:List PV) =>
 J1 ys4)) /\
 (¬ ((a2+blockSize)<n)->J1 data4))) /\
 (∀ xs:List PV,J1 xs->data.length=xs.length->(In .i64 (blockSize*(2:Int))) /\
 kont2 (blockSize*(2:Int)) xs)))) (0:Int) ((2:Int)*blockSize) data3) /\
 (¬ (blockSize<n)->K data3))) (20:Int) ys2)))) (0:Int) (20:Int) data)
def qW (x:List PV) (cap0:Bool) (cap1:Bool) (K:(List PV)->Prop):Prop :=
 (x.length<=maxLen ->
 ja x (x.length:Int) cap0 cap1 (fun (ys:List PV) =>
 K ys))
def M_list_Sorted (l:List PV) (back:Bool) (K:(List PV)->Er->Prop):Prop :=
 (l.length<=maxLen ->
 M_val_Light (4096:Int) l (fun (t9:Bool) =>
 (((!t9)=true->K [] (Er.e 7)) /\
 ((!t9)=false->qZ l (fun (out:List PV) =>
 qW out back false (fun (ys:List PV) =>
 K ys Er.ok))))))
set_option maxHeartbeats 8000000 in
theorem jj {S:List Nat} {B:Nat} {w:World} {data:List PV} {a0:Option Addr} {a5:Nat} {a1:List VH} {a:Int} {b:Int} {a6:Nat} {cap0:Bool} {a7:Nat} {cap1:Bool} {b0:Nat} {K:(List PV)->Prop} (hG:GB S B w) (hB:B<=w.heap.size) (hP:AllP (fun p=>Ge p B) [(blk a0)]) (hS3:3∈S) (hS7:7∈S) (hdata:Own vv w 0 32 a0 a5 a1) (c0:b0=data.length) (a8:RelD deV w a1 data) (hcap0:Bl w a6 4 [.bool cap0]) (hcap1:Bl w a7 4 [.bool cap1]) (hap0:AllP (DnD deV a1 data) [(blk a0)]) (hap1:AllP (Dj (some a6)) [(blk a0)]) (hap2:AllP (Dj (some a7)) [(blk a0)]) (H:qS data a b cap0 cap1 K):Fn Tryz.prog 204 ⟨[.slice a0 b0 a5,.int .i64 a,.int .i64 b,.func (.func 150) #[] #[.pointer (some ⟨a6,0,none⟩),.pointer (some ⟨a7,0,none⟩)]]⟩ w (fun v w'=>GrL [(blk a0)] w w'/\∃ (ys:List PV),∃ (c1:List VH),v=.tuple #[]/\Own vv w' 0 32 a0 a5 c1/\c1.length=data.length/\RelD deV w' c1 ys/\(∀ p:Option Nat,Lt p w.heap.size->DnD deV a1 data p->DnD deV c1 ys p)/\DnD deV c1 ys (blk a0)/\K ys):=by
 subst c0
 unfold qS at H
 refine Fn.enter (by kernel_rfl) Tryz.func204 rfl Tryz.ntmps204 rfl ?_
 replace H:=H (by rw [<-a8.1]; exact Nat.le_trans hdata.rd.cap hdata.rd.max)
 have hNoAt:AllP (NoAt w) [(blk a0)]:=(apC (NoAt.own hdata rfl) apN)
 refine zg (zc (yp (h:=?_)))
 obtain ⟨h1,H⟩:=H
 refine zd rfl (Yld.add rfl rfl h1) (yp (h:=(zh (za (WC.block ?_)))))
 obtain ⟨I1,mu1,c4,HR1⟩:=H
 refine z7 (fun n' L' w'=>∃ (i:Int),∃ (data2:List PV),∃ (hs:List VH),n'=mu1 i data2/\L'=[(0,.slice a0 data.length a5),(1,.int .i64 a),(2,.int .i64 b),(3,.func (.func 150) #[] #[.pointer (some ⟨a6,0,none⟩),.pointer (some ⟨a7,0,none⟩)]),(8,.int .i64 i)]/\I1 i data2/\data.length=data2.length/\GrL [(blk a0)] w w'/\Own vv w' 0 32 a0 a5 hs/\RelD deV w' hs data2/\DnD deV hs data2 (blk a0)/\OrD (fun p=>DnD deV a1 data p) deV hs data2 w.heap.size) _ _ ⟨a+(1:Int),data,a1,rfl,rfl,c4,rfl,(GrL.refl _),hdata,a8,(hap0 _ (List.Mem.head _)),(fun p_ hp_ q_=>q_)⟩ sb ?_
 clear c4
 rintro _ _ w1 ⟨i,data2,hs,rfl,rfl,hI1,a3,gr1,k1,k2,dj1,or1⟩
 have H:=HR1 i data2 hI1
 replace H:=H a3
 refine zg (zg (zc (yp (h:=(yp (h:=(yp (h:=(zh (za (zE rfl (fun b1=>?_) (fun b1=>?_))))))))))))
 ·replace H:=H.1 (of_decide_eq_true b1)
  refine zt (za (zg (WC.block (zg (zc (yp (h:=(yp (h:=(zh (za (WC.block ?_))))))))))))
  obtain ⟨I2,mu2,c9,HR2⟩:=H
  refine z7 (fun n' L' w'=>∃ (j:Int),∃ (data3:List PV),∃ (hs2:List VH),n'=mu2 j data3/\L'=[(0,.slice a0 data.length a5),(1,.int .i64 a),(2,.int .i64 b),(3,.func (.func 150) #[] #[.pointer (some ⟨a6,0,none⟩),.pointer (some ⟨a7,0,none⟩)]),(8,.int .i64 i),(9,.int .i64 j)]/\I2 j data3/\data.length=data3.length/\GrL [(blk a0)] w w'/\Own vv w' 0 32 a0 a5 hs2/\RelD deV w' hs2 data3/\DnD deV hs2 data3 (blk a0)/\OrD (fun p=>DnD deV a1 data p) deV hs2 data3 w.heap.size) _ _ ⟨i,data2,hs,rfl,rfl,c9,((a3.trans k2.1.symm).trans k2.1),gr1,k1,k2,dj1,or1⟩ sb ?_
  clear c9
  rintro _ _ w2 ⟨j,data3,hs2,rfl,rfl,hI2,a4,gr2,k3,k4,dj2,or2⟩
  have H:=HR2 j data3 hI2
  replace H:=H a4
  refine zg (zg (zY (fun k => !(Nat.beq k 14)) (LD [8,13] (fun w'=>Rd vv w' a0 a5 hs2)) jg (by kernel_rfl) (fun k w' h _=>(rd_eqv h k3.rd)) (zL rfl rfl (fun w' hw'=>ze qH rfl) (zL rfl rfl (fun w' hw'=>ze qH rfl) (zL rfl rfl (fun w' hw'=>ze qH rfl) (zL rfl rfl (fun w' hw'=>ze qH rfl) ?_))))))
  obtain ⟨J1,H,hJ1⟩:=H
  refine WJ.midF 13 (fun L' w'=>∃ q1:Bool,L'=[(34,.bool q1),(0,.slice a0 data.length a5),(1,.int .i64 a),(2,.int .i64 b),(3,.func (.func 150) #[] #[.pointer (some ⟨a6,0,none⟩),.pointer (some ⟨a7,0,none⟩)]),(8,.int .i64 i),(9,.int .i64 j)]/\J1 q1/\GrL [(blk a0)] w w'/\Own vv w' 0 32 a0 a5 hs2/\RelD deV w' hs2 data3) ?_ (fun hQ=>?_)
  ·clear H
   rintro _ w3 ⟨q1,rfl,H,gr3,k5,k6⟩
   replace H:=hJ1 q1 H
   refine qh (za (zE rfl (fun b2=>?_) (fun b2=>?_)))
   ·replace H:=H.1 (b2)
    refine zt (za (zg (WC.block (zY (fun k => !(Nat.beq k 15 || Nat.beq k 17)) (LD [9,13] (fun w'=>Rd vv w' a0 a5 hs2)) jg (by kernel_rfl) (fun k w' h _=>(rd_eqv h k5.rd)) (zL rfl rfl (fun w' hw'=>ze qH rfl) (zL rfl rfl (fun w' hw'=>ze qH rfl) (zL rfl rfl (fun w' hw'=>ze qH rfl) (zL rfl rfl (fun w' hw'=>ze qH rfl) ?_))))))))
    obtain ⟨h2,H⟩:=H
    refine zL rfl rfl (fun w' hw'=>Yld.sub rfl rfl h2) (zL rfl rfl (fun w' hw'=>ze qH rfl) (zL rfl rfl (fun w' hw'=>ze qH rfl) ?_))
    obtain ⟨h3,H⟩:=H
    refine zL rfl rfl (fun w' hw'=>Yld.sub rfl rfl h3) ?_
    obtain ⟨h4,H⟩:=H
    refine zL rfl rfl (fun w' hw'=>zP qH k5.rd rfl rfl (a4.trans k4.1.symm) rfl h4.1 h4.2) ?_
    obtain ⟨⟨v_el,F_el⟩,eh1,hR1⟩:=RelD.at k6 vh0 PV.nil (j:=(j - (1:Int)).toNat) (Nat.lt_of_lt_of_eq (iltN h4 (a4.trans k4.1.symm)) k6.1)
    have hv1:RelD deV w3 [(v_el,F_el)] [data3.getD ((j - (1:Int)).toNat) PV.nil]:=RelD.cons hR1 RelD.nil
    refine zL rfl rfl (fun w' hw'=>qd (v:=v_el.1) (zQ vh0 qH (hw' rfl) rfl rfl (iltN h4 (a4.trans k4.1.symm))) (congrArg vv eh1)) (zL rfl rfl (fun w' hw'=>ze qH rfl) (zL rfl rfl (fun w' hw'=>ze qH rfl) ?_))
    obtain ⟨h5,H⟩:=H
    refine zL rfl rfl (fun w' hw'=>zP qH k5.rd rfl rfl (a4.trans k4.1.symm) rfl h5.1 h5.2) ?_
    obtain ⟨⟨v_el2,F_el2⟩,eh2,hR2⟩:=RelD.at k6 vh0 PV.nil (j:=j.toNat) (Nat.lt_of_lt_of_eq (iltN h5 (a4.trans k4.1.symm)) k6.1)
    have hv2:RelD deV w3 [(v_el2,F_el2)] [data3.getD j.toNat PV.nil]:=RelD.cons hR2 RelD.nil
    refine zL rfl rfl (fun w' hw'=>qd (v:=v_el2.1) (zQ vh0 qH (hw' rfl) rfl rfl (iltN h5 (a4.trans k4.1.symm))) (congrArg vv eh2)) ?_
    obtain ⟨h6,H⟩:=H
    refine zL rfl rfl (fun w' hw'=>zP qH k5.rd rfl rfl (a4.trans k4.1.symm) rfl h6.1 h6.2) (qt rfl (qj (v:=((v_el,F_el):VH)) one32 One.vv k5 rfl rfl (iltN h6 (a4.trans k4.1.symm))) (fun w' h=>qi (by kernel_rfl)) ?_)
    rintro w5 ⟨hO1,hg2⟩
    have gr4:GrL [(blk a0)] w w5:=GrL.mod gr3 hg2 (InP.mem (List.Mem.head _))
    have hr1:RelD deV w5 (hs2.set j.toNat (v_el,F_el)) (data3.set j.toNat (data3.getD ((j - (1:Int)).toNat) PV.nil)):=RelD.set (k6.go hg2 dj2) (RelD.one (hv1.go hg2 (DnD.cons (DnD.at dj2 k6.1 (Nat.lt_of_lt_of_eq (iltN h4 (a4.trans k4.1.symm)) k6.1) eh1) DnD.nil))) j.toNat
    have nd1:OrD (fun p=>DnD deV a1 data p) deV (hs2.set j.toNat (v_el,F_el)) (data3.set j.toNat (data3.getD ((j - (1:Int)).toNat) PV.nil)) w.heap.size:=fun p_ hp_ q_=>DnD.set (or2 p_ hp_ q_) (DnD.one (DnD.cons (DnD.at (or2 p_ hp_ q_) k6.1 (Nat.lt_of_lt_of_eq (iltN h4 (a4.trans k4.1.symm)) k6.1) eh1) DnD.nil)) j.toNat
    have dj3:DnD deV (hs2.set j.toNat (v_el,F_el)) (data3.set j.toNat (data3.getD ((j - (1:Int)).toNat) PV.nil)) (blk a0):=(DnD.set dj2 (DnD.one (DnD.cons (DnD.at dj2 k6.1 (Nat.lt_of_lt_of_eq (iltN h4 (a4.trans k4.1.symm)) k6.1) eh1) DnD.nil)) j.toNat)
    obtain ⟨h7,H⟩:=H
    refine zL rfl rfl (fun w' hw'=>zP qH hO1.rd rfl rfl ((a4.trans k4.1.symm).trans List.length_set.symm) rfl h7.1 h7.2) (qt rfl (qj (v:=((v_el2,F_el2):VH)) one32 One.vv hO1 rfl rfl (iltN h7 ((a4.trans k4.1.symm).trans List.length_set.symm))) (fun w' h=>qi (by kernel_rfl)) ?_)
    rintro w7 ⟨hO2,hg4⟩
    have gr5:GrL [(blk a0)] w w7:=GrL.mod gr4 hg4 (InP.mem (List.Mem.head _))
    have hr2:RelD deV w7 ((hs2.set j.toNat (v_el,F_el)).set ((j - (1:Int)).toNat) (v_el2,F_el2)) ((data3.set j.toNat (data3.getD ((j - (1:Int)).toNat) PV.nil)).set ((j - (1:Int)).toNat) (data3.getD j.toNat PV.nil)):=RelD.set (hr1.go hg4 dj3) (RelD.one ((hv2.go hg2 (DnD.cons (DnD.at dj2 k6.1 (Nat.lt_of_lt_of_eq (iltN h5 (a4.trans k4.1.symm)) k6.1) eh2) DnD.nil)).go hg4 (DnD.cons (DnD.at dj2 k6.1 (Nat.lt_of_lt_of_eq (iltN h5 (a4.trans k4.1.symm)) k6.1) eh2) DnD.nil))) ((j - (1:Int)).toNat)
    have nd2:OrD (fun p=>DnD deV a1 data p) deV ((hs2.set j.toNat (v_el,F_el)).set ((j - (1:Int)).toNat) (v_el2,F_el2)) ((data3.set j.toNat (data3.getD ((j - (1:Int)).toNat) PV.nil)).set ((j - (1:Int)).toNat) (data3.getD j.toNat PV.nil)) w.heap.size:=fun p_ hp_ q_=>DnD.set (nd1 p_ hp_ q_) (DnD.one (DnD.cons (DnD.at (or2 p_ hp_ q_) k6.1 (Nat.lt_of_lt_of_eq (iltN h5 (a4.trans k4.1.symm)) k6.1) eh2) DnD.nil)) ((j - (1:Int)).toNat)
    have dj4:DnD deV ((hs2.set j.toNat (v_el,F_el)).set ((j - (1:Int)).toNat) (v_el2,F_el2)) ((data3.set j.toNat (data3.getD ((j - (1:Int)).toNat) PV.nil)).set ((j - (1:Int)).toNat) (data3.getD j.toNat PV.nil)) (blk a0):=(DnD.set dj3 (DnD.one (DnD.cons (DnD.at dj2 k6.1 (Nat.lt_of_lt_of_eq (iltN h5 (a4.trans k4.1.symm)) k6.1) eh2) DnD.nil)) ((j - (1:Int)).toNat))
    refine qh (zf (za (zc (yp (h:=?_)))))
    obtain ⟨h8,H⟩:=H
    exact zd rfl (Yld.sub rfl rfl h8) (yp (h:=(zh (zZ _ ⟨j - (1:Int),(data3.set j.toNat (data3.getD ((j - (1:Int)).toNat) PV.nil)).set ((j - (1:Int)).toNat) (data3.getD j.toNat PV.nil),(hs2.set j.toNat (v_el,F_el)).set ((j - (1:Int)).toNat) (v_el2,F_el2),rfl,rfl,H.1,((((a4.trans k4.1.symm).trans List.length_set.symm).trans List.length_set.symm).trans hr2.1),gr5,hO2,hr2,dj4,nd2⟩ sb H.2))))
   ·replace H:=H.2 (b2)
    refine zy (zm (zm (zk (zf (za (zc (yp (h:=?_))))))))
    obtain ⟨h9,H⟩:=H
    exact zd rfl (Yld.add rfl rfl h9) (yp (h:=(zh (zZ _ ⟨i+(1:Int),data3,hs2,rfl,rfl,H.1,((a4.trans k4.1.symm).trans k6.1),gr3,k5,k6,dj2,or2⟩ sb H.2))))
  ·clear hJ1
   rcases Bool.eq_false_or_eq_true (decide (a<j)) with b3 | b3
   ·replace H:=H.1 b3
    refine z5 rfl (qM rfl rfl (okb b3)) rfl (fun w' hw'=>ze qH rfl) (z5 rfl (qM rfl rfl (okb b3)) rfl (fun w' hw'=>ze qH rfl) (z5 rfl (qM rfl rfl (okb b3)) rfl (fun w' hw'=>ze qH rfl) ?_))
    obtain ⟨h10,H⟩:=H
    refine z5 rfl (qM rfl rfl (okb b3)) rfl (fun w' hw'=>zP qH k3.rd rfl rfl (a4.trans k4.1.symm) rfl h10.1 h10.2) ?_
    obtain ⟨⟨v_el3,F_el3⟩,eh3,hR3⟩:=RelD.at k4 vh0 PV.nil (j:=j.toNat) (Nat.lt_of_lt_of_eq (iltN h10 (a4.trans k4.1.symm)) k4.1)
    have hv3:RelD deV w2 [(v_el3,F_el3)] [data3.getD j.toNat PV.nil]:=RelD.cons hR3 RelD.nil
    refine z5 rfl (qM rfl rfl (okb b3)) rfl (fun w' hw'=>qd (v:=v_el3.1) (zQ vh0 qH (hw' rfl) rfl rfl (iltN h10 (a4.trans k4.1.symm))) (congrArg vv eh3)) (z5 rfl (qM rfl rfl (okb b3)) rfl (fun w' hw'=>ze qH rfl) (z5 rfl (qM rfl rfl (okb b3)) rfl (fun w' hw'=>ze qH rfl) ?_))
    obtain ⟨h11,H⟩:=H
    refine z5 rfl (qM rfl rfl (okb b3)) rfl (fun w' hw'=>Yld.sub rfl rfl h11) ?_
    obtain ⟨h12,H⟩:=H
    refine z5 rfl (qM rfl rfl (okb b3)) rfl (fun w' hw'=>zP qH k3.rd rfl rfl (a4.trans k4.1.symm) rfl h12.1 h12.2) ?_
    obtain ⟨⟨v_el4,F_el4⟩,eh4,hR4⟩:=RelD.at k4 vh0 PV.nil (j:=(j - (1:Int)).toNat) (Nat.lt_of_lt_of_eq (iltN h12 (a4.trans k4.1.symm)) k4.1)
    have hv4:RelD deV w2 [(v_el4,F_el4)] [data3.getD ((j - (1:Int)).toNat) PV.nil]:=RelD.cons hR4 RelD.nil
    refine z5 rfl (qM rfl rfl (okb b3)) rfl (fun w' hw'=>qd (v:=v_el4.1) (zQ vh0 qH (hw' rfl) rfl rfl (iltN h12 (a4.trans k4.1.symm))) (congrArg vv eh4)) (WJ.callvw rfl (qM rfl rfl (okb b3)) rfl rfl rfl (ku (hG.goL gr2 hP).ok hS3 hS7 hv3 hv4 (hcap0.goL gr2 hap1) (hcap1.goL gr2 hap2) H) (fun v w' h w2 e=>DD.keep (Rd.grown k3.rd (qN h.1 e))) ?_)
    rintro _ w8 ⟨hg5,t32,rfl,H⟩
    have k14:=hv3.grown hg5
    have k15:=hv4.grown hg5
    exact z5 rfl (qM rfl rfl (okb b3)) rfl (fun w' hw'=>ze qH rfl) (zL rfl rfl (fun w' hw'=>zR (okb b3) rfl) (WJ.weaken sb (hQ _ _ ⟨decide (t32<(0:Int)),rfl,H,(GrL.add0 gr2 hg5),(k3.grown hg5),(k4.grown hg5)⟩)))
   ·replace H:=H.2 b3
    exact WJ.no rfl rfl (okb b3) rfl (WJ.no rfl rfl (okb b3) rfl (WJ.no rfl rfl (okb b3) rfl (WJ.no rfl rfl (okb b3) rfl (WJ.no rfl rfl (okb b3) rfl (WJ.no rfl rfl (okb b3) rfl (WJ.no rfl rfl (okb b3) rfl (WJ.no rfl rfl (okb b3) rfl (WJ.no rfl rfl (okb b3) rfl (WJ.no rfl rfl (okb b3) rfl (WJ.no rfl rfl (okb b3) rfl (WJ.no rfl rfl (okb b3) rfl (zL rfl rfl (fun w' hw'=>zN (okb b3) rfl) (WJ.weaken sb (hQ _ _ ⟨false,rfl,H,gr2,k3,k4⟩))))))))))))))
 ·replace H:=H.2 (of_decide_eq_false b1)
  exact zy (zm (zm (zk (qa rfl ⟨gr1,data2,hs,rfl,k1,(a3.trans k2.1.symm).symm,k2,(fun p_ hp_ v0_=>or1 p_ hp_ v0_),dj1,H⟩))))
set_option maxHeartbeats 8000000 in
theorem jd {w:World} {data:List PV} {a0:Option Addr} {a5:Nat} {a1:List VH} {a:Int} {b:Int} {n:Int} {a6:Nat} {cap0:Bool} {a7:Nat} {cap1:Bool} {b0:Nat} {K:(List PV)->Prop} (hdata:Own vv w 0 32 a0 a5 a1) (c0:b0=data.length) (a8:RelD deV w a1 data) (hcap0:Bl w a6 4 [.bool cap0]) (hcap1:Bl w a7 4 [.bool cap1]) (hap0:AllP (DnD deV a1 data) [(blk a0)]) (hap1:AllP (Dj (some a6)) [(blk a0)]) (hap2:AllP (Dj (some a7)) [(blk a0)]) (H:qQ data a b n cap0 cap1 K):Fn Tryz.prog 228 ⟨[.slice a0 b0 a5,.int .i64 a,.int .i64 b,.int .i64 n,.func (.func 150) #[] #[.pointer (some ⟨a6,0,none⟩),.pointer (some ⟨a7,0,none⟩)]]⟩ w (fun v w'=>GrL [(blk a0)] w w'/\∃ (ys:List PV),∃ (c1:List VH),v=.tuple #[]/\Own vv w' 0 32 a0 a5 c1/\c1.length=data.length/\RelD deV w' c1 ys/\(∀ p:Option Nat,Lt p w.heap.size->DnD deV a1 data p->DnD deV c1 ys p)/\DnD deV c1 ys (blk a0)/\K ys):=by
 subst c0
 unfold qQ at H
 refine Fn.enter (by kernel_rfl) Tryz.func228 rfl Tryz.ntmps228 rfl ?_
 replace H:=H (by rw [<-a8.1]; exact Nat.le_trans hdata.rd.cap hdata.rd.max)
 have hNoAt:AllP (NoAt w) [(blk a0)]:=(apC (NoAt.own hdata rfl) apN)
 refine zg (zc (yp (h:=(zh (za (WC.block ?_))))))
 obtain ⟨I1,mu1,c4,HR1⟩:=H
 refine z7 (fun n' L' w'=>∃ (i:Int),∃ (data2:List PV),∃ (hs:List VH),n'=mu1 i data2/\L'=[(0,.slice a0 data.length a5),(1,.int .i64 a),(2,.int .i64 b),(3,.int .i64 n),(10,.int .i64 i)]/\I1 i data2/\data.length=data2.length/\GrL [(blk a0)] w w'/\Own vv w' 0 32 a0 a5 hs/\RelD deV w' hs data2/\DnD deV hs data2 (blk a0)/\OrD (fun p=>DnD deV a1 data p) deV hs data2 w.heap.size) _ _ ⟨(0:Int),data,a1,rfl,rfl,c4,rfl,(GrL.refl _),hdata,a8,(hap0 _ (List.Mem.head _)),(fun p_ hp_ q_=>q_)⟩ sb ?_
 clear c4
 rintro _ _ w1 ⟨i,data2,hs,rfl,rfl,hI1,a3,gr1,k1,k2,dj1,or1⟩
 have H:=HR1 i data2 hI1
 replace H:=H a3
 refine zg (zg (zc (yp (h:=(yp (h:=(yp (h:=(zh (za (zE rfl (fun b1=>?_) (fun b1=>?_))))))))))))
 ·replace H:=H.1 (of_decide_eq_true b1)
  refine zt (za (zg (WC.block (zY (fun k => !(Nat.beq k 21 || Nat.beq k 23)) (LD [13,19] (fun w'=>Rd vv w' a0 a5 hs)) jg (by kernel_rfl) (fun k w' h _=>(rd_eqv h k1.rd)) (zL rfl rfl (fun w' hw'=>ze qH rfl) (zL rfl rfl (fun w' hw'=>ze qH rfl) (zL rfl rfl (fun w' hw'=>ze qH rfl) ?_)))))))
  obtain ⟨h1,H⟩:=H
  refine zL rfl rfl (fun w' hw'=>Yld.add rfl rfl h1) (zL rfl rfl (fun w' hw'=>ze qH rfl) (zL rfl rfl (fun w' hw'=>ze qH rfl) (zL rfl rfl (fun w' hw'=>ze qH rfl) ?_)))
  obtain ⟨h2,H⟩:=H
  refine zL rfl rfl (fun w' hw'=>Yld.add rfl rfl h2) (zL rfl rfl (fun w' hw'=>ze qH rfl) (zL rfl rfl (fun w' hw'=>ze qH rfl) (zL rfl rfl (fun w' hw'=>ze qH rfl) ?_)))
  obtain ⟨h3,H⟩:=H
  refine zL rfl rfl (fun w' hw'=>Yld.add rfl rfl h3) ?_
  obtain ⟨h4,H⟩:=H
  refine zL rfl rfl (fun w' hw'=>zP qH k1.rd rfl rfl (a3.trans k2.1.symm) rfl h4.1 h4.2) ?_
  obtain ⟨⟨v_el,F_el⟩,eh1,hR1⟩:=RelD.at k2 vh0 PV.nil (j:=(b+i).toNat) (Nat.lt_of_lt_of_eq (iltN h4 (a3.trans k2.1.symm)) k2.1)
  have hv1:RelD deV w1 [(v_el,F_el)] [data2.getD ((b+i).toNat) PV.nil]:=RelD.cons hR1 RelD.nil
  refine zL rfl rfl (fun w' hw'=>qd (v:=v_el.1) (zQ vh0 qH (hw' rfl) rfl rfl (iltN h4 (a3.trans k2.1.symm))) (congrArg vv eh1)) (zL rfl rfl (fun w' hw'=>ze qH rfl) (zL rfl rfl (fun w' hw'=>ze qH rfl) (zL rfl rfl (fun w' hw'=>ze qH rfl) ?_)))
  obtain ⟨h5,H⟩:=H
  refine zL rfl rfl (fun w' hw'=>Yld.add rfl rfl h5) ?_
  obtain ⟨h6,H⟩:=H
  refine zL rfl rfl (fun w' hw'=>zP qH k1.rd rfl rfl (a3.trans k2.1.symm) rfl h6.1 h6.2) ?_
  obtain ⟨⟨v_el2,F_el2⟩,eh2,hR2⟩:=RelD.at k2 vh0 PV.nil (j:=(a+i).toNat) (Nat.lt_of_lt_of_eq (iltN h6 (a3.trans k2.1.symm)) k2.1)
  have hv2:RelD deV w1 [(v_el2,F_el2)] [data2.getD ((a+i).toNat) PV.nil]:=RelD.cons hR2 RelD.nil
  refine zL rfl rfl (fun w' hw'=>qd (v:=v_el2.1) (zQ vh0 qH (hw' rfl) rfl rfl (iltN h6 (a3.trans k2.1.symm))) (congrArg vv eh2)) ?_
  obtain ⟨h7,H⟩:=H
  refine zL rfl rfl (fun w' hw'=>zP qH k1.rd rfl rfl (a3.trans k2.1.symm) rfl h7.1 h7.2) (qt rfl (qj (v:=((v_el,F_el):VH)) one32 One.vv k1 rfl rfl (iltN h7 (a3.trans k2.1.symm))) (fun w' h=>qi (by kernel_rfl)) ?_)
  rintro w3 ⟨hO1,hg2⟩
  have gr2:GrL [(blk a0)] w w3:=GrL.mod gr1 hg2 (InP.mem (List.Mem.head _))
  have hr1:RelD deV w3 (hs.set ((a+i).toNat) (v_el,F_el)) (data2.set ((a+i).toNat) (data2.getD ((b+i).toNat) PV.nil)):=RelD.set (k2.go hg2 dj1) (RelD.one (hv1.go hg2 (DnD.cons (DnD.at dj1 k2.1 (Nat.lt_of_lt_of_eq (iltN h4 (a3.trans k2.1.symm)) k2.1) eh1) DnD.nil))) ((a+i).toNat)
  have nd1:OrD (fun p=>DnD deV a1 data p) deV (hs.set ((a+i).toNat) (v_el,F_el)) (data2.set ((a+i).toNat) (data2.getD ((b+i).toNat) PV.nil)) w.heap.size:=fun p_ hp_ q_=>DnD.set (or1 p_ hp_ q_) (DnD.one (DnD.cons (DnD.at (or1 p_ hp_ q_) k2.1 (Nat.lt_of_lt_of_eq (iltN h4 (a3.trans k2.1.symm)) k2.1) eh1) DnD.nil)) ((a+i).toNat)
  have dj2:DnD deV (hs.set ((a+i).toNat) (v_el,F_el)) (data2.set ((a+i).toNat) (data2.getD ((b+i).toNat) PV.nil)) (blk a0):=(DnD.set dj1 (DnD.one (DnD.cons (DnD.at dj1 k2.1 (Nat.lt_of_lt_of_eq (iltN h4 (a3.trans k2.1.symm)) k2.1) eh1) DnD.nil)) ((a+i).toNat))
  obtain ⟨h8,H⟩:=H
  refine zL rfl rfl (fun w' hw'=>zP qH hO1.rd rfl rfl ((a3.trans k2.1.symm).trans List.length_set.symm) rfl h8.1 h8.2) (qt rfl (qj (v:=((v_el2,F_el2):VH)) one32 One.vv hO1 rfl rfl (iltN h8 ((a3.trans k2.1.symm).trans List.length_set.symm))) (fun w' h=>qi (by kernel_rfl)) ?_)
  rintro w5 ⟨hO2,hg4⟩
  have gr3:GrL [(blk a0)] w w5:=GrL.mod gr2 hg4 (InP.mem (List.Mem.head _))
  have hr2:RelD deV w5 ((hs.set ((a+i).toNat) (v_el,F_el)).set ((b+i).toNat) (v_el2,F_el2)) ((data2.set ((a+i).toNat) (data2.getD ((b+i).toNat) PV.nil)).set ((b+i).toNat) (data2.getD ((a+i).toNat) PV.nil)):=RelD.set (hr1.go hg4 dj2) (RelD.one ((hv2.go hg2 (DnD.cons (DnD.at dj1 k2.1 (Nat.lt_of_lt_of_eq (iltN h6 (a3.trans k2.1.symm)) k2.1) eh2) DnD.nil)).go hg4 (DnD.cons (DnD.at dj1 k2.1 (Nat.lt_of_lt_of_eq (iltN h6 (a3.trans k2.1.symm)) k2.1) eh2) DnD.nil))) ((b+i).toNat)
  have nd2:OrD (fun p=>DnD deV a1 data p) deV ((hs.set ((a+i).toNat) (v_el,F_el)).set ((b+i).toNat) (v_el2,F_el2)) ((data2.set ((a+i).toNat) (data2.getD ((b+i).toNat) PV.nil)).set ((b+i).toNat) (data2.getD ((a+i).toNat) PV.nil)) w.heap.size:=fun p_ hp_ q_=>DnD.set (nd1 p_ hp_ q_) (DnD.one (DnD.cons (DnD.at (or1 p_ hp_ q_) k2.1 (Nat.lt_of_lt_of_eq (iltN h6 (a3.trans k2.1.symm)) k2.1) eh2) DnD.nil)) ((b+i).toNat)
  have dj3:DnD deV ((hs.set ((a+i).toNat) (v_el,F_el)).set ((b+i).toNat) (v_el2,F_el2)) ((data2.set ((a+i).toNat) (data2.getD ((b+i).toNat) PV.nil)).set ((b+i).toNat) (data2.getD ((a+i).toNat) PV.nil)) (blk a0):=(DnD.set dj2 (DnD.one (DnD.cons (DnD.at dj1 k2.1 (Nat.lt_of_lt_of_eq (iltN h6 (a3.trans k2.1.symm)) k2.1) eh2) DnD.nil)) ((b+i).toNat))
  refine qh (zf (za (zc (yp (h:=?_)))))
  obtain ⟨h9,H⟩:=H
  exact zd rfl (Yld.add rfl rfl h9) (yp (h:=(zh (zZ _ ⟨i+(1:Int),(data2.set ((a+i).toNat) (data2.getD ((b+i).toNat) PV.nil)).set ((b+i).toNat) (data2.getD ((a+i).toNat) PV.nil),(hs.set ((a+i).toNat) (v_el,F_el)).set ((b+i).toNat) (v_el2,F_el2),rfl,rfl,H.1,((((a3.trans k2.1.symm).trans List.length_set.symm).trans List.length_set.symm).trans hr2.1),gr3,hO2,hr2,dj3,nd2⟩ sb H.2))))
 ·replace H:=H.2 (of_decide_eq_false b1)
  exact zy (zm (zm (zk (qa rfl ⟨gr1,data2,hs,rfl,k1,(a3.trans k2.1.symm).symm,k2,(fun p_ hp_ v0_=>or1 p_ hp_ v0_),dj1,H⟩))))
set_option maxHeartbeats 8000000 in
theorem jU {w:World} {data:List PV} {a0:Option Addr} {a5:Nat} {a1:List VH} {a:Int} {m:Int} {b:Int} {a6:Nat} {cap0:Bool} {a7:Nat} {cap1:Bool} {b0:Nat} {K:(List PV)->Prop} (hdata:Own vv w 0 32 a0 a5 a1) (c0:b0=data.length) (a8:RelD deV w a1 data) (hcap0:Bl w a6 4 [.bool cap0]) (hcap1:Bl w a7 4 [.bool cap1]) (hap0:AllP (DnD deV a1 data) [(blk a0)]) (hap1:AllP (Dj (some a6)) [(blk a0)]) (hap2:AllP (Dj (some a7)) [(blk a0)]) (H:q7 data a m b cap0 cap1 K):Fn Tryz.prog 218 ⟨[.slice a0 b0 a5,.int .i64 a,.int .i64 m,.int .i64 b,.func (.func 150) #[] #[.pointer (some ⟨a6,0,none⟩),.pointer (some ⟨a7,0,none⟩)]]⟩ w (fun v w'=>GrL [(blk a0)] w w'/\∃ (ys4:List PV),∃ (a9:List VH),v=.tuple #[]/\Own vv w' 0 32 a0 a5 a9/\a9.length=data.length/\RelD deV w' a9 ys4/\(∀ p:Option Nat,Lt p w.heap.size->DnD deV a1 data p->DnD deV a9 ys4 p)/\DnD deV a9 ys4 (blk a0)/\K ys4):=by
 subst c0
 unfold q7 at H
 refine Fn.enter (by kernel_rfl) Tryz.func218 rfl Tryz.ntmps218 rfl ?_
 replace H:=H (by rw [<-a8.1]; exact Nat.le_trans hdata.rd.cap hdata.rd.max)
 have hNoAt:AllP (NoAt w) [(blk a0)]:=(apC (NoAt.own hdata rfl) apN)
 refine zg (zc (yp (h:=(yp (h:=?_)))))
 obtain ⟨h1,H⟩:=H
 refine zd rfl (Yld.sub rfl rfl h1) (yp (h:=(zh (za (zg (zc (yp (h:=(yp (h:=?_))))))))))
 obtain ⟨h2,H⟩:=H
 refine zd rfl (Yld.sub rfl rfl h2) (yp (h:=(zh (za (zg (WC.block ?_))))))
 obtain ⟨I1,mu1,c4,HR1⟩:=H
 refine z7 (fun n' L' w'=>∃ (i:Int),∃ (j:Int),∃ (data2:List PV),∃ (hs:List VH),n'=mu1 i j data2/\L'=[(0,.slice a0 data.length a5),(2,.int .i64 m),(4,.func (.func 150) #[] #[.pointer (some ⟨a6,0,none⟩),.pointer (some ⟨a7,0,none⟩)]),(10,.int .i64 i),(11,.int .i64 j)]/\I1 i j data2/\data.length=data2.length/\GrL [(blk a0)] w w'/\Own vv w' 0 32 a0 a5 hs/\RelD deV w' hs data2/\DnD deV hs data2 (blk a0)/\OrD (fun p=>DnD deV a1 data p) deV hs data2 w.heap.size) _ _ ⟨m - a,b - m,data,a1,rfl,rfl,c4,rfl,(GrL.refl _),hdata,a8,(hap0 _ (List.Mem.head _)),(fun p_ hp_ q_=>q_)⟩ sb ?_
 clear c4
 rintro _ _ w1 ⟨i,j,data2,hs,rfl,rfl,hI1,a3,gr1,k1,k2,dj1,or1⟩
 have H:=HR1 i j data2 hI1
 replace H:=H a3
 refine zg (zg (zc (yp (h:=(yp (h:=(yp (h:=(zh (za (zE rfl (fun b1=>?_) (fun b1=>?_))))))))))))
 ·replace H:=H.1 (j9 b1)
  refine zt (za (WC.block (zg (zc (yp (h:=(yp (h:=(yp (h:=(zh (za (zE rfl (fun b2=>?_) (fun b2=>?_))))))))))))))
  ·replace H:=H.1 (of_decide_eq_true b2)
   refine zg (zc (yp (h:=(yp (h:=(yp (h:=?_)))))))
   obtain ⟨h3,H⟩:=H
   refine zd rfl (Yld.sub rfl rfl h3) (yp (h:=(yp (h:=(yp (h:=(zK rfl rfl (jd k1 ((a3.trans k2.1.symm).trans k2.1) k2 (hcap0.goL gr1 hap1) (hcap1.goL gr1 hap2) (apC dj1 apN) (apC (InP.dj (InP.mem (List.Mem.head _)) hcap0.lt' hap1).symm apN) (apC (InP.dj (InP.mem (List.Mem.head _)) hcap1.lt' hap2).symm apN) H) ?_)))))))
   rintro _ w2 ⟨hgl1,ys,c1,rfl,hO1,hl1,hr1,ho1,dj2,H⟩
   have gr2:GrL [(blk a0)] w w2:=GrL.modL gr1 hgl1 (apC (InP.mem (List.Mem.head _)) apN)
   have k3:=k2.goL hgl1 (apC dj1 apN)
   refine zh (za (zc (yp (h:=(yp (h:=?_))))))
   obtain ⟨h4,H⟩:=H
   exact zd rfl (Yld.sub rfl rfl h4) (yp (h:=(zh (zf (zZ _ ⟨i - j,j,ys,c1,rfl,rfl,H.1,(((a3.trans k2.1.symm).trans (k2.1.trans hl1.symm)).trans hr1.1),gr2,hO1,hr1,dj2,(fun p_ hp_ q_=>ho1 p_ (fun g_ e_=>Nat.lt_of_lt_of_le (hp_ g_ e_) (GrL.sizeL gr1)) (or1 p_ hp_ q_))⟩ sb H.2)))))
  ·replace H:=H.2 (of_decide_eq_false b2)
   refine zg (zc (yp (h:=(yp (h:=(yp (h:=?_)))))))
   obtain ⟨h5,H⟩:=H
   refine zd rfl (Yld.sub rfl rfl h5) (yp (h:=(yp (h:=?_))))
   obtain ⟨h6,H⟩:=H
   refine zd rfl (Yld.add rfl rfl h6) (yp (h:=?_))
   obtain ⟨h7,H⟩:=H
   refine zd rfl (Yld.sub rfl rfl h7) (yp (h:=(yp (h:=(zK rfl rfl (jd k1 ((a3.trans k2.1.symm).trans k2.1) k2 (hcap0.goL gr1 hap1) (hcap1.goL gr1 hap2) (apC dj1 apN) (apC (InP.dj (InP.mem (List.Mem.head _)) hcap0.lt' hap1).symm apN) (apC (InP.dj (InP.mem (List.Mem.head _)) hcap1.lt' hap2).symm apN) H) ?_)))))
   rintro _ w3 ⟨hgl2,ys2,c2,rfl,hO2,hl2,hr2,ho2,dj3,H⟩
   have gr3:GrL [(blk a0)] w w3:=GrL.modL gr1 hgl2 (apC (InP.mem (List.Mem.head _)) apN)
   have k4:=k2.goL hgl2 (apC dj1 apN)
   refine zh (za (zc (yp (h:=(yp (h:=?_))))))
   obtain ⟨h8,H⟩:=H
   exact zd rfl (Yld.sub rfl rfl h8) (yp (h:=(zh (zf (zZ _ ⟨i,j - i,ys2,c2,rfl,rfl,H.1,(((a3.trans k2.1.symm).trans (k2.1.trans hl2.symm)).trans hr2.1),gr3,hO2,hr2,dj3,(fun p_ hp_ q_=>ho2 p_ (fun g_ e_=>Nat.lt_of_lt_of_le (hp_ g_ e_) (GrL.sizeL gr1)) (or1 p_ hp_ q_))⟩ sb H.2)))))
 ·replace H:=H.2 (jO b1)
  refine zy (zm (zm (zk (za (zc (yp (h:=(yp (h:=(yp (h:=?_)))))))))))
  obtain ⟨h9,H⟩:=H
  refine zd rfl (Yld.sub rfl rfl h9) (yp (h:=(yp (h:=(yp (h:=(zK rfl rfl (jd k1 ((a3.trans k2.1.symm).trans k2.1) k2 (hcap0.goL gr1 hap1) (hcap1.goL gr1 hap2) (apC dj1 apN) (apC (InP.dj (InP.mem (List.Mem.head _)) hcap0.lt' hap1).symm apN) (apC (InP.dj (InP.mem (List.Mem.head _)) hcap1.lt' hap2).symm apN) H) ?_)))))))
  rintro _ w4 ⟨hgl3,ys3,c6,rfl,hO3,hl3,hr3,ho3,dj4,H⟩
  have gr4:GrL [(blk a0)] w w4:=GrL.modL gr1 hgl3 (apC (InP.mem (List.Mem.head _)) apN)
  have k5:=k2.goL hgl3 (apC dj1 apN)
  exact zh (qa rfl ⟨gr4,ys3,c6,rfl,hO3,((a3.trans k2.1.symm).trans (k2.1.trans hl3.symm)).symm,hr3,(fun p_ hp_ v0_=>have q_:=v0_; ho3 p_ (fun g_ e_=>Nat.lt_of_lt_of_le (hp_ g_ e_) (GrL.sizeL gr1)) (or1 p_ hp_ q_)),dj4,H⟩)
set_option maxHeartbeats 8000000 in
theorem jF {S:List Nat} {B:Nat} {MR:(List PV)->Int->Int->Int->Bool->Bool->((List PV)->Prop)->Prop} (WR:∀ {B:Nat} {w:World} {data:List PV} {a0:Option Addr} {a5:Nat} {a1:List VH} {a:Int} {m:Int} {b:Int} {a6:Nat} {cap0:Bool} {a7:Nat} {cap1:Bool} {b0:Nat} {K:(List PV)->Prop} (hG:GB S B w) (hB:B<=w.heap.size) (hP:AllP (fun p=>Ge p B) [(blk a0)]) (hS3:3∈S) (hS7:7∈S) (hdata:Own vv w 0 32 a0 a5 a1) (c0:b0=data.length) (a8:RelD deV w a1 data) (hcap0:Bl w a6 4 [.bool cap0]) (hcap1:Bl w a7 4 [.bool cap1]) (hap0:AllP (DnD deV a1 data) [(blk a0)]) (hap1:AllP (Dj (some a6)) [(blk a0)]) (hap2:AllP (Dj (some a7)) [(blk a0)]) (H:MR data a m b cap0 cap1 K),Fn Tryz.prog 205 ⟨[.slice a0 b0 a5,.int .i64 a,.int .i64 m,.int .i64 b,.func (.func 150) #[] #[.pointer (some ⟨a6,0,none⟩),.pointer (some ⟨a7,0,none⟩)]]⟩ w (fun v w'=>GrL [(blk a0)] w w'/\∃ (ys4:List PV),∃ (a9:List VH),v=.tuple #[]/\Own vv w' 0 32 a0 a5 a9/\a9.length=data.length/\RelD deV w' a9 ys4/\(∀ p:Option Nat,Lt p w.heap.size->DnD deV a1 data p->DnD deV a9 ys4 p)/\DnD deV a9 ys4 (blk a0)/\K ys4)) {w:World} {data:List PV} {a0:Option Addr} {a5:Nat} {a1:List VH} {a:Int} {m:Int} {b:Int} {a6:Nat} {cap0:Bool} {a7:Nat} {cap1:Bool} {b0:Nat} {K:(List PV)->Prop} (hG:GB S B w) (hB:B<=w.heap.size) (hP:AllP (fun p=>Ge p B) [(blk a0)]) (hS3:3∈S) (hS7:7∈S) (hdata:Own vv w 0 32 a0 a5 a1) (c0:b0=data.length) (a8:RelD deV w a1 data) (hcap0:Bl w a6 4 [.bool cap0]) (hcap1:Bl w a7 4 [.bool cap1]) (hap0:AllP (DnD deV a1 data) [(blk a0)]) (hap1:AllP (Dj (some a6)) [(blk a0)]) (hap2:AllP (Dj (some a7)) [(blk a0)]) (H:qY MR data a m b cap0 cap1 K):Fn Tryz.prog 205 ⟨[.slice a0 b0 a5,.int .i64 a,.int .i64 m,.int .i64 b,.func (.func 150) #[] #[.pointer (some ⟨a6,0,none⟩),.pointer (some ⟨a7,0,none⟩)]]⟩ w (fun v w'=>GrL [(blk a0)] w w'/\∃ (ys4:List PV),∃ (a9:List VH),v=.tuple #[]/\Own vv w' 0 32 a0 a5 a9/\a9.length=data.length/\RelD deV w' a9 ys4/\(∀ p:Option Nat,Lt p w.heap.size->DnD deV a1 data p->DnD deV a9 ys4 p)/\DnD deV a9 ys4 (blk a0)/\K ys4):=by
 subst c0
 unfold qY at H
 refine Fn.enter (by kernel_rfl) Tryz.func205 rfl Tryz.ntmps205 rfl ?_
 replace H:=H (by rw [<-a8.1]; exact Nat.le_trans hdata.rd.cap hdata.rd.max)
 have hNoAt:AllP (NoAt w) [(blk a0)]:=(apC (NoAt.own hdata rfl) apN)
 refine zg (zg (zc (yp (h:=(yp (h:=?_))))))
 obtain ⟨h1,H⟩:=H
 refine zd rfl (Yld.sub rfl rfl h1) (yp (h:=(zh (za (zE rfl (fun b1=>?_) (fun b1=>?_))))))
 ·replace H:=H.1 (of_decide_eq_true b1)
  refine zg (zc (yp (h:=(yp (h:=(zh (za (zg (zc (yp (h:=(yp (h:=(zh (za (zg (WC.block ?_)))))))))))))))))
  obtain ⟨I1,mu1,c4,HR1⟩:=H
  refine z7 (fun n' L' w'=>∃ (i:Int),∃ (j:Int),n'=mu1 i j/\L'=[(0,.slice a0 data.length a5),(1,.int .i64 a),(4,.func (.func 150) #[] #[.pointer (some ⟨a6,0,none⟩),.pointer (some ⟨a7,0,none⟩)]),(10,.int .i64 i),(11,.int .i64 j)]/\I1 i j/\GrL [(blk a0)] w w'/\Own vv w' 0 32 a0 a5 a1/\RelD deV w' a1 data) _ _ ⟨m,b,rfl,rfl,c4,(GrL.refl _),hdata,a8⟩ sb ?_
  clear c4
  rintro _ _ w1 ⟨i,j,rfl,rfl,hI1,gr1,k1,k2⟩
  have H:=HR1 i j hI1
  refine zg (zg (zc (yp (h:=(yp (h:=(yp (h:=(zh (za (zE rfl (fun b2=>?_) (fun b2=>?_))))))))))))
  ·replace H:=H.1 (of_decide_eq_true b2)
   refine zt (za (WC.block (zg (zc (yp (h:=(yp (h:=?_))))))))
   obtain ⟨h2,H⟩:=H
   refine zd rfl (Yld.add rfl rfl h2) ?_
   obtain ⟨h3,H⟩:=H
   refine zd rfl (zu qH rfl rfl rfl h3) (zd rfl (zG rfl rfl (by omega)) ?_)
   obtain ⟨h4,H⟩:=H
   refine zd rfl (zu qH rfl rfl rfl h4) (yp (h:=(zh (za (zg (zY (fun k => !(Nat.beq k 9)) (LD [4,8] (fun w'=>Rd vv w' a0 a5 a1)) jg (by kernel_rfl) (fun k w' h _=>(rd_eqv h k1.rd)) (zL rfl rfl (fun w' hw'=>ze qH rfl) (zL rfl rfl (fun w' hw'=>ze qH rfl) (zL rfl rfl (fun w' hw'=>ze qH rfl) ?_)))))))))
   obtain ⟨h5,H⟩:=H
   refine zL rfl rfl (fun w' hw'=>zP qH k1.rd rfl rfl a8.1.symm rfl h5.1 h5.2) ?_
   obtain ⟨⟨v_el,F_el⟩,eh1,hR1⟩:=RelD.at k2 vh0 PV.nil (j:=(shrV .u64 (i+j) 1).toNat) (Nat.lt_of_lt_of_eq (iltN h5 a8.1.symm) k2.1)
   have hv1:RelD deV w1 [(v_el,F_el)] [data.getD ((shrV .u64 (i+j) 1).toNat) PV.nil]:=RelD.cons hR1 RelD.nil
   refine zL rfl rfl (fun w' hw'=>qd (v:=v_el.1) (zQ vh0 qH (hw' rfl) rfl rfl (iltN h5 a8.1.symm)) (congrArg vv eh1)) (zL rfl rfl (fun w' hw'=>ze qH rfl) (zL rfl rfl (fun w' hw'=>ze qH rfl) ?_))
   obtain ⟨h6,H⟩:=H
   refine zL rfl rfl (fun w' hw'=>zP qH k1.rd rfl rfl a8.1.symm rfl h6.1 h6.2) ?_
   obtain ⟨⟨v_el2,F_el2⟩,eh2,hR2⟩:=RelD.at k2 vh0 PV.nil (j:=a.toNat) (Nat.lt_of_lt_of_eq (iltN h6 a8.1.symm) k2.1)
   have hv2:RelD deV w1 [(v_el2,F_el2)] [data.getD a.toNat PV.nil]:=RelD.cons hR2 RelD.nil
   refine zL rfl rfl (fun w' hw'=>qd (v:=v_el2.1) (zQ vh0 qH (hw' rfl) rfl rfl (iltN h6 a8.1.symm)) (congrArg vv eh2)) (WJ.callv rfl rfl rfl rfl (ku (hG.goL gr1 hP).ok hS3 hS7 hv1 hv2 (hcap0.goL gr1 hap1) (hcap1.goL gr1 hap2) H) (fun v w' h w2 e=>DD.keep (Rd.grown k1.rd (qN h.1 e))) ?_)
   rintro _ w2 ⟨hg1,t49,rfl,H⟩
   have gr2:=GrL.add0 gr1 hg1
   have k3:=k1.grown hg1
   have k4:=k2.grown hg1
   refine zL rfl rfl (fun w' hw'=>ze qH rfl) (qh (za (zE rfl (fun b3=>?_) (fun b3=>?_))))
   ·replace H:=H.1 (of_decide_eq_true b3)
    refine zc (yp (h:=?_))
    obtain ⟨h7,H⟩:=H
    exact zd rfl (Yld.add rfl rfl h7) (yp (h:=(zh (zf (zZ _ ⟨(shrV .u64 (i+j) 1)+(1:Int),j,rfl,rfl,H.1,gr2,k3,k4⟩ sb H.2)))))
   ·replace H:=H.2 (of_decide_eq_false b3)
    exact zc (yp (h:=(yp (h:=(zh (zf (zZ _ ⟨i,shrV .u64 (i+j) 1,rfl,rfl,H.1,gr2,k3,k4⟩ sb H.2)))))))
  ·replace H:=H.2 (of_decide_eq_false b2)
   refine zy (zm (zm (zk (za (zg (zg (zc (yp (h:=(yp (h:=(zh (za (WC.block ?_))))))))))))))
   obtain ⟨I2,mu2,c9,HR2⟩:=H
   refine z7 (fun n' L' w'=>∃ (k:Int),∃ (data2:List PV),∃ (hs:List VH),n'=mu2 k data2/\L'=[(0,.slice a0 data.length a5),(10,.int .i64 i),(13,.int .i64 k)]/\I2 k data2/\data.length=data2.length/\GrL [(blk a0)] w w'/\Own vv w' 0 32 a0 a5 hs/\RelD deV w' hs data2/\DnD deV hs data2 (blk a0)/\OrD (fun p=>DnD deV a1 data p) deV hs data2 w.heap.size) _ _ ⟨a,data,a1,rfl,rfl,c9,rfl,gr1,k1,k2,(hap0 _ (List.Mem.head _)),(fun p_ hp_ q_=>q_)⟩ sb ?_
   clear c9
   rintro _ _ w3 ⟨k,data2,hs,rfl,rfl,hI2,a3,gr3,k5,k6,dj1,or1⟩
   have H:=HR2 k data2 hI2
   replace H:=H a3
   refine zg (zg (zc (yp (h:=(yp (h:=?_))))))
   obtain ⟨h8,H⟩:=H
   refine zd rfl (Yld.sub rfl rfl h8) (yp (h:=(zh (za (zE rfl (fun b4=>?_) (fun b4=>?_))))))
   ·replace H:=H.1 (of_decide_eq_true b4)
    refine zt (za (zg (WC.block (zY (fun k => !(Nat.beq k 15 || Nat.beq k 17)) (LD [9,13] (fun w'=>Rd vv w' a0 a5 hs)) jg (by kernel_rfl) (fun k w' h _=>(rd_eqv h k5.rd)) (zL rfl rfl (fun w' hw'=>ze qH rfl) (zL rfl rfl (fun w' hw'=>ze qH rfl) (zL rfl rfl (fun w' hw'=>ze qH rfl) (zL rfl rfl (fun w' hw'=>ze qH rfl) ?_))))))))
    obtain ⟨h9,H⟩:=H
    refine zL rfl rfl (fun w' hw'=>Yld.add rfl rfl h9) (zL rfl rfl (fun w' hw'=>ze qH rfl) (zL rfl rfl (fun w' hw'=>ze qH rfl) ?_))
    obtain ⟨h10,H⟩:=H
    refine zL rfl rfl (fun w' hw'=>Yld.add rfl rfl h10) ?_
    obtain ⟨h11,H⟩:=H
    refine zL rfl rfl (fun w' hw'=>zP qH k5.rd rfl rfl (a3.trans k6.1.symm) rfl h11.1 h11.2) ?_
    obtain ⟨⟨v_el3,F_el3⟩,eh3,hR3⟩:=RelD.at k6 vh0 PV.nil (j:=(k+(1:Int)).toNat) (Nat.lt_of_lt_of_eq (iltN h11 (a3.trans k6.1.symm)) k6.1)
    have hv3:RelD deV w3 [(v_el3,F_el3)] [data2.getD ((k+(1:Int)).toNat) PV.nil]:=RelD.cons hR3 RelD.nil
    refine zL rfl rfl (fun w' hw'=>qd (v:=v_el3.1) (zQ vh0 qH (hw' rfl) rfl rfl (iltN h11 (a3.trans k6.1.symm))) (congrArg vv eh3)) (zL rfl rfl (fun w' hw'=>ze qH rfl) (zL rfl rfl (fun w' hw'=>ze qH rfl) ?_))
    obtain ⟨h12,H⟩:=H
    refine zL rfl rfl (fun w' hw'=>zP qH k5.rd rfl rfl (a3.trans k6.1.symm) rfl h12.1 h12.2) ?_
    obtain ⟨⟨v_el4,F_el4⟩,eh4,hR4⟩:=RelD.at k6 vh0 PV.nil (j:=k.toNat) (Nat.lt_of_lt_of_eq (iltN h12 (a3.trans k6.1.symm)) k6.1)
    have hv4:RelD deV w3 [(v_el4,F_el4)] [data2.getD k.toNat PV.nil]:=RelD.cons hR4 RelD.nil
    refine zL rfl rfl (fun w' hw'=>qd (v:=v_el4.1) (zQ vh0 qH (hw' rfl) rfl rfl (iltN h12 (a3.trans k6.1.symm))) (congrArg vv eh4)) ?_
    obtain ⟨h13,H⟩:=H
    refine zL rfl rfl (fun w' hw'=>zP qH k5.rd rfl rfl (a3.trans k6.1.symm) rfl h13.1 h13.2) (qt rfl (qj (v:=((v_el3,F_el3):VH)) one32 One.vv k5 rfl rfl (iltN h13 (a3.trans k6.1.symm))) (fun w' h=>qi (by kernel_rfl)) ?_)
    rintro w5 ⟨hO1,hg3⟩
    have gr4:GrL [(blk a0)] w w5:=GrL.mod gr3 hg3 (InP.mem (List.Mem.head _))
    have hr1:RelD deV w5 (hs.set k.toNat (v_el3,F_el3)) (data2.set k.toNat (data2.getD ((k+(1:Int)).toNat) PV.nil)):=RelD.set (k6.go hg3 dj1) (RelD.one (hv3.go hg3 (DnD.cons (DnD.at dj1 k6.1 (Nat.lt_of_lt_of_eq (iltN h11 (a3.trans k6.1.symm)) k6.1) eh3) DnD.nil))) k.toNat
    have nd1:OrD (fun p=>DnD deV a1 data p) deV (hs.set k.toNat (v_el3,F_el3)) (data2.set k.toNat (data2.getD ((k+(1:Int)).toNat) PV.nil)) w.heap.size:=fun p_ hp_ q_=>DnD.set (or1 p_ hp_ q_) (DnD.one (DnD.cons (DnD.at (or1 p_ hp_ q_) k6.1 (Nat.lt_of_lt_of_eq (iltN h11 (a3.trans k6.1.symm)) k6.1) eh3) DnD.nil)) k.toNat
    have dj2:DnD deV (hs.set k.toNat (v_el3,F_el3)) (data2.set k.toNat (data2.getD ((k+(1:Int)).toNat) PV.nil)) (blk a0):=(DnD.set dj1 (DnD.one (DnD.cons (DnD.at dj1 k6.1 (Nat.lt_of_lt_of_eq (iltN h11 (a3.trans k6.1.symm)) k6.1) eh3) DnD.nil)) k.toNat)
    obtain ⟨h14,H⟩:=H
    refine zL rfl rfl (fun w' hw'=>zP qH hO1.rd rfl rfl ((a3.trans k6.1.symm).trans List.length_set.symm) rfl h14.1 h14.2) (qt rfl (qj (v:=((v_el4,F_el4):VH)) one32 One.vv hO1 rfl rfl (iltN h14 ((a3.trans k6.1.symm).trans List.length_set.symm))) (fun w' h=>qi (by kernel_rfl)) ?_)
    rintro w7 ⟨hO2,hg5⟩
    have gr5:GrL [(blk a0)] w w7:=GrL.mod gr4 hg5 (InP.mem (List.Mem.head _))
    have hr2:RelD deV w7 ((hs.set k.toNat (v_el3,F_el3)).set ((k+(1:Int)).toNat) (v_el4,F_el4)) ((data2.set k.toNat (data2.getD ((k+(1:Int)).toNat) PV.nil)).set ((k+(1:Int)).toNat) (data2.getD k.toNat PV.nil)):=RelD.set (hr1.go hg5 dj2) (RelD.one ((hv4.go hg3 (DnD.cons (DnD.at dj1 k6.1 (Nat.lt_of_lt_of_eq (iltN h12 (a3.trans k6.1.symm)) k6.1) eh4) DnD.nil)).go hg5 (DnD.cons (DnD.at dj1 k6.1 (Nat.lt_of_lt_of_eq (iltN h12 (a3.trans k6.1.symm)) k6.1) eh4) DnD.nil))) ((k+(1:Int)).toNat)
    have nd2:OrD (fun p=>DnD deV a1 data p) deV ((hs.set k.toNat (v_el3,F_el3)).set ((k+(1:Int)).toNat) (v_el4,F_el4)) ((data2.set k.toNat (data2.getD ((k+(1:Int)).toNat) PV.nil)).set ((k+(1:Int)).toNat) (data2.getD k.toNat PV.nil)) w.heap.size:=fun p_ hp_ q_=>DnD.set (nd1 p_ hp_ q_) (DnD.one (DnD.cons (DnD.at (or1 p_ hp_ q_) k6.1 (Nat.lt_of_lt_of_eq (iltN h12 (a3.trans k6.1.symm)) k6.1) eh4) DnD.nil)) ((k+(1:Int)).toNat)
    have dj3:DnD deV ((hs.set k.toNat (v_el3,F_el3)).set ((k+(1:Int)).toNat) (v_el4,F_el4)) ((data2.set k.toNat (data2.getD ((k+(1:Int)).toNat) PV.nil)).set ((k+(1:Int)).toNat) (data2.getD k.toNat PV.nil)) (blk a0):=(DnD.set dj2 (DnD.one (DnD.cons (DnD.at dj1 k6.1 (Nat.lt_of_lt_of_eq (iltN h12 (a3.trans k6.1.symm)) k6.1) eh4) DnD.nil)) ((k+(1:Int)).toNat))
    refine qh (zf (za (zc (yp (h:=?_)))))
    obtain ⟨h15,H⟩:=H
    exact zd rfl (Yld.add rfl rfl h15) (yp (h:=(zh (zZ _ ⟨k+(1:Int),(data2.set k.toNat (data2.getD ((k+(1:Int)).toNat) PV.nil)).set ((k+(1:Int)).toNat) (data2.getD k.toNat PV.nil),(hs.set k.toNat (v_el3,F_el3)).set ((k+(1:Int)).toNat) (v_el4,F_el4),rfl,rfl,H.1,((((a3.trans k6.1.symm).trans List.length_set.symm).trans List.length_set.symm).trans hr2.1),gr5,hO2,hr2,dj3,nd2⟩ sb H.2))))
   ·replace H:=H.2 (of_decide_eq_false b4)
    exact zy (zm (zm (zk (za (zx (zi (WX.ret0 rfl ⟨gr3,data2,hs,rfl,k5,(a3.trans k6.1.symm).symm,k6,(fun p_ hp_ v0_=>or1 p_ hp_ v0_),dj1,H⟩)))))))
 ·replace H:=H.2 (of_decide_eq_false b1)
  refine zt (za (zg (zg (zc (yp (h:=(yp (h:=?_))))))))
  obtain ⟨h16,H⟩:=H
  refine zd rfl (Yld.sub rfl rfl h16) (yp (h:=(zh (za (zE rfl (fun b5=>?_) (fun b5=>?_))))))
  ·replace H:=H.1 (of_decide_eq_true b5)
   refine zg (zc (yp (h:=(yp (h:=(zh (za (zg (zc (yp (h:=(yp (h:=(zh (za (zg (WC.block ?_)))))))))))))))))
   obtain ⟨I3,mu3,d2,HR3⟩:=H
   refine z7 (fun n' L' w'=>∃ (i2:Int),∃ (j2:Int),n'=mu3 i2 j2/\L'=[(0,.slice a0 data.length a5),(2,.int .i64 m),(4,.func (.func 150) #[] #[.pointer (some ⟨a6,0,none⟩),.pointer (some ⟨a7,0,none⟩)]),(14,.int .i64 i2),(15,.int .i64 j2)]/\I3 i2 j2/\GrL [(blk a0)] w w'/\Own vv w' 0 32 a0 a5 a1/\RelD deV w' a1 data) _ _ ⟨a,m,rfl,rfl,d2,(GrL.refl _),hdata,a8⟩ sb ?_
   clear d2
   rintro _ _ w8 ⟨i2,j2,rfl,rfl,hI3,gr6,k12,k13⟩
   have H:=HR3 i2 j2 hI3
   refine zg (zg (zc (yp (h:=(yp (h:=(yp (h:=(zh (za (zE rfl (fun b6=>?_) (fun b6=>?_))))))))))))
   ·replace H:=H.1 (of_decide_eq_true b6)
    refine zt (za (WC.block (zg (zc (yp (h:=(yp (h:=?_))))))))
    obtain ⟨h17,H⟩:=H
    refine zd rfl (Yld.add rfl rfl h17) ?_
    obtain ⟨h18,H⟩:=H
    refine zd rfl (zu qH rfl rfl rfl h18) (zd rfl (zG rfl rfl (by omega)) ?_)
    obtain ⟨h19,H⟩:=H
    refine zd rfl (zu qH rfl rfl rfl h19) (yp (h:=(zh (za (zg (zY (fun k => !(Nat.beq k 9)) (LD [4,8] (fun w'=>Rd vv w' a0 a5 a1)) jg (by kernel_rfl) (fun k w' h _=>(rd_eqv h k12.rd)) (zL rfl rfl (fun w' hw'=>ze qH rfl) (zL rfl rfl (fun w' hw'=>ze qH rfl) (zL rfl rfl (fun w' hw'=>ze qH rfl) ?_)))))))))
    obtain ⟨h20,H⟩:=H
    refine zL rfl rfl (fun w' hw'=>zP qH k12.rd rfl rfl a8.1.symm rfl h20.1 h20.2) ?_
    obtain ⟨⟨v_el5,F_el5⟩,eh5,hR5⟩:=RelD.at k13 vh0 PV.nil (j:=m.toNat) (Nat.lt_of_lt_of_eq (iltN h20 a8.1.symm) k13.1)
    have hv5:RelD deV w8 [(v_el5,F_el5)] [data.getD m.toNat PV.nil]:=RelD.cons hR5 RelD.nil
    refine zL rfl rfl (fun w' hw'=>qd (v:=v_el5.1) (zQ vh0 qH (hw' rfl) rfl rfl (iltN h20 a8.1.symm)) (congrArg vv eh5)) (zL rfl rfl (fun w' hw'=>ze qH rfl) (zL rfl rfl (fun w' hw'=>ze qH rfl) ?_))
    obtain ⟨h21,H⟩:=H
    refine zL rfl rfl (fun w' hw'=>zP qH k12.rd rfl rfl a8.1.symm rfl h21.1 h21.2) ?_
    obtain ⟨⟨v_el6,F_el6⟩,eh6,hR6⟩:=RelD.at k13 vh0 PV.nil (j:=(shrV .u64 (i2+j2) 1).toNat) (Nat.lt_of_lt_of_eq (iltN h21 a8.1.symm) k13.1)
    have hv6:RelD deV w8 [(v_el6,F_el6)] [data.getD ((shrV .u64 (i2+j2) 1).toNat) PV.nil]:=RelD.cons hR6 RelD.nil
    refine zL rfl rfl (fun w' hw'=>qd (v:=v_el6.1) (zQ vh0 qH (hw' rfl) rfl rfl (iltN h21 a8.1.symm)) (congrArg vv eh6)) (WJ.callv rfl rfl rfl rfl (ku (hG.goL gr6 hP).ok hS3 hS7 hv5 hv6 (hcap0.goL gr6 hap1) (hcap1.goL gr6 hap2) H) (fun v w' h w2 e=>DD.keep (Rd.grown k12.rd (qN h.1 e))) ?_)
    rintro _ w9 ⟨hg6,t101,rfl,H⟩
    have gr7:=GrL.add0 gr6 hg6
    have k14:=k12.grown hg6
    have k15:=k13.grown hg6
    refine zL rfl rfl (fun w' hw'=>ze qH rfl) (zL rfl rfl (fun w' hw'=>ze qH rfl) (qh (za (zE rfl (fun b7=>?_) (fun b7=>?_)))))
    ·replace H:=H.1 (j9 b7)
     refine zc (yp (h:=?_))
     obtain ⟨h22,H⟩:=H
     exact zd rfl (Yld.add rfl rfl h22) (yp (h:=(zh (zf (zZ _ ⟨(shrV .u64 (i2+j2) 1)+(1:Int),j2,rfl,rfl,H.1,gr7,k14,k15⟩ sb H.2)))))
    ·replace H:=H.2 (jO b7)
     exact zc (yp (h:=(yp (h:=(zh (zf (zZ _ ⟨i2,shrV .u64 (i2+j2) 1,rfl,rfl,H.1,gr7,k14,k15⟩ sb H.2)))))))
   ·replace H:=H.2 (of_decide_eq_false b6)
    refine zy (zm (zm (zk (za (zg (zg (zc (yp (h:=(yp (h:=(zh (za (WC.block ?_))))))))))))))
    obtain ⟨I4,mu4,e1,HR4⟩:=H
    refine z7 (fun n' L' w'=>∃ (k_2:Int),∃ (data3:List PV),∃ (hs2:List VH),n'=mu4 k_2 data3/\L'=[(0,.slice a0 data.length a5),(14,.int .i64 i2),(17,.int .i64 k_2)]/\I4 k_2 data3/\data.length=data3.length/\GrL [(blk a0)] w w'/\Own vv w' 0 32 a0 a5 hs2/\RelD deV w' hs2 data3/\DnD deV hs2 data3 (blk a0)/\OrD (fun p=>DnD deV a1 data p) deV hs2 data3 w.heap.size) _ _ ⟨m,data,a1,rfl,rfl,e1,rfl,gr6,k12,k13,(hap0 _ (List.Mem.head _)),(fun p_ hp_ q_=>q_)⟩ sb ?_
    clear e1
    rintro _ _ w10 ⟨k_2,data3,hs2,rfl,rfl,hI4,a4,gr8,k16,k17,dj4,or2⟩
    have H:=HR4 k_2 data3 hI4
    replace H:=H a4
    refine zg (zg (zc (yp (h:=(yp (h:=(yp (h:=(zh (za (zE rfl (fun b8=>?_) (fun b8=>?_))))))))))))
    ·replace H:=H.1 (of_decide_eq_true b8)
     refine zt (za (zg (WC.block (zY (fun k => !(Nat.beq k 15 || Nat.beq k 17)) (LD [9,13] (fun w'=>Rd vv w' a0 a5 hs2)) jg (by kernel_rfl) (fun k w' h _=>(rd_eqv h k16.rd)) (zL rfl rfl (fun w' hw'=>ze qH rfl) (zL rfl rfl (fun w' hw'=>ze qH rfl) (zL rfl rfl (fun w' hw'=>ze qH rfl) (zL rfl rfl (fun w' hw'=>ze qH rfl) ?_))))))))
     obtain ⟨h23,H⟩:=H
     refine zL rfl rfl (fun w' hw'=>Yld.sub rfl rfl h23) (zL rfl rfl (fun w' hw'=>ze qH rfl) (zL rfl rfl (fun w' hw'=>ze qH rfl) ?_))
     obtain ⟨h24,H⟩:=H
     refine zL rfl rfl (fun w' hw'=>Yld.sub rfl rfl h24) ?_
     obtain ⟨h25,H⟩:=H
     refine zL rfl rfl (fun w' hw'=>zP qH k16.rd rfl rfl (a4.trans k17.1.symm) rfl h25.1 h25.2) ?_
     obtain ⟨⟨v_el7,F_el7⟩,eh7,hR7⟩:=RelD.at k17 vh0 PV.nil (j:=(k_2 - (1:Int)).toNat) (Nat.lt_of_lt_of_eq (iltN h25 (a4.trans k17.1.symm)) k17.1)
     have hv7:RelD deV w10 [(v_el7,F_el7)] [data3.getD ((k_2 - (1:Int)).toNat) PV.nil]:=RelD.cons hR7 RelD.nil
     refine zL rfl rfl (fun w' hw'=>qd (v:=v_el7.1) (zQ vh0 qH (hw' rfl) rfl rfl (iltN h25 (a4.trans k17.1.symm))) (congrArg vv eh7)) (zL rfl rfl (fun w' hw'=>ze qH rfl) (zL rfl rfl (fun w' hw'=>ze qH rfl) ?_))
     obtain ⟨h26,H⟩:=H
     refine zL rfl rfl (fun w' hw'=>zP qH k16.rd rfl rfl (a4.trans k17.1.symm) rfl h26.1 h26.2) ?_
     obtain ⟨⟨v_el8,F_el8⟩,eh8,hR8⟩:=RelD.at k17 vh0 PV.nil (j:=k_2.toNat) (Nat.lt_of_lt_of_eq (iltN h26 (a4.trans k17.1.symm)) k17.1)
     have hv8:RelD deV w10 [(v_el8,F_el8)] [data3.getD k_2.toNat PV.nil]:=RelD.cons hR8 RelD.nil
     refine zL rfl rfl (fun w' hw'=>qd (v:=v_el8.1) (zQ vh0 qH (hw' rfl) rfl rfl (iltN h26 (a4.trans k17.1.symm))) (congrArg vv eh8)) ?_
     obtain ⟨h27,H⟩:=H
     refine zL rfl rfl (fun w' hw'=>zP qH k16.rd rfl rfl (a4.trans k17.1.symm) rfl h27.1 h27.2) (qt rfl (qj (v:=((v_el7,F_el7):VH)) one32 One.vv k16 rfl rfl (iltN h27 (a4.trans k17.1.symm))) (fun w' h=>qi (by kernel_rfl)) ?_)
     rintro w12 ⟨hO3,hg8⟩
     have gr9:GrL [(blk a0)] w w12:=GrL.mod gr8 hg8 (InP.mem (List.Mem.head _))
     have hr3:RelD deV w12 (hs2.set k_2.toNat (v_el7,F_el7)) (data3.set k_2.toNat (data3.getD ((k_2 - (1:Int)).toNat) PV.nil)):=RelD.set (k17.go hg8 dj4) (RelD.one (hv7.go hg8 (DnD.cons (DnD.at dj4 k17.1 (Nat.lt_of_lt_of_eq (iltN h25 (a4.trans k17.1.symm)) k17.1) eh7) DnD.nil))) k_2.toNat
     have nd3:OrD (fun p=>DnD deV a1 data p) deV (hs2.set k_2.toNat (v_el7,F_el7)) (data3.set k_2.toNat (data3.getD ((k_2 - (1:Int)).toNat) PV.nil)) w.heap.size:=fun p_ hp_ q_=>DnD.set (or2 p_ hp_ q_) (DnD.one (DnD.cons (DnD.at (or2 p_ hp_ q_) k17.1 (Nat.lt_of_lt_of_eq (iltN h25 (a4.trans k17.1.symm)) k17.1) eh7) DnD.nil)) k_2.toNat
     have dj5:DnD deV (hs2.set k_2.toNat (v_el7,F_el7)) (data3.set k_2.toNat (data3.getD ((k_2 - (1:Int)).toNat) PV.nil)) (blk a0):=(DnD.set dj4 (DnD.one (DnD.cons (DnD.at dj4 k17.1 (Nat.lt_of_lt_of_eq (iltN h25 (a4.trans k17.1.symm)) k17.1) eh7) DnD.nil)) k_2.toNat)
     obtain ⟨h28,H⟩:=H
     refine zL rfl rfl (fun w' hw'=>zP qH hO3.rd rfl rfl ((a4.trans k17.1.symm).trans List.length_set.symm) rfl h28.1 h28.2) (qt rfl (qj (v:=((v_el8,F_el8):VH)) one32 One.vv hO3 rfl rfl (iltN h28 ((a4.trans k17.1.symm).trans List.length_set.symm))) (fun w' h=>qi (by kernel_rfl)) ?_)
     rintro w14 ⟨hO4,hg10⟩
     have gr10:GrL [(blk a0)] w w14:=GrL.mod gr9 hg10 (InP.mem (List.Mem.head _))
     have hr4:RelD deV w14 ((hs2.set k_2.toNat (v_el7,F_el7)).set ((k_2 - (1:Int)).toNat) (v_el8,F_el8)) ((data3.set k_2.toNat (data3.getD ((k_2 - (1:Int)).toNat) PV.nil)).set ((k_2 - (1:Int)).toNat) (data3.getD k_2.toNat PV.nil)):=RelD.set (hr3.go hg10 dj5) (RelD.one ((hv8.go hg8 (DnD.cons (DnD.at dj4 k17.1 (Nat.lt_of_lt_of_eq (iltN h26 (a4.trans k17.1.symm)) k17.1) eh8) DnD.nil)).go hg10 (DnD.cons (DnD.at dj4 k17.1 (Nat.lt_of_lt_of_eq (iltN h26 (a4.trans k17.1.symm)) k17.1) eh8) DnD.nil))) ((k_2 - (1:Int)).toNat)
     have nd4:OrD (fun p=>DnD deV a1 data p) deV ((hs2.set k_2.toNat (v_el7,F_el7)).set ((k_2 - (1:Int)).toNat) (v_el8,F_el8)) ((data3.set k_2.toNat (data3.getD ((k_2 - (1:Int)).toNat) PV.nil)).set ((k_2 - (1:Int)).toNat) (data3.getD k_2.toNat PV.nil)) w.heap.size:=fun p_ hp_ q_=>DnD.set (nd3 p_ hp_ q_) (DnD.one (DnD.cons (DnD.at (or2 p_ hp_ q_) k17.1 (Nat.lt_of_lt_of_eq (iltN h26 (a4.trans k17.1.symm)) k17.1) eh8) DnD.nil)) ((k_2 - (1:Int)).toNat)
     have dj6:DnD deV ((hs2.set k_2.toNat (v_el7,F_el7)).set ((k_2 - (1:Int)).toNat) (v_el8,F_el8)) ((data3.set k_2.toNat (data3.getD ((k_2 - (1:Int)).toNat) PV.nil)).set ((k_2 - (1:Int)).toNat) (data3.getD k_2.toNat PV.nil)) (blk a0):=(DnD.set dj5 (DnD.one (DnD.cons (DnD.at dj4 k17.1 (Nat.lt_of_lt_of_eq (iltN h26 (a4.trans k17.1.symm)) k17.1) eh8) DnD.nil)) ((k_2 - (1:Int)).toNat))
     refine qh (zf (za (zc (yp (h:=?_)))))
     obtain ⟨h29,H⟩:=H
     exact zd rfl (Yld.sub rfl rfl h29) (yp (h:=(zh (zZ _ ⟨k_2 - (1:Int),(data3.set k_2.toNat (data3.getD ((k_2 - (1:Int)).toNat) PV.nil)).set ((k_2 - (1:Int)).toNat) (data3.getD k_2.toNat PV.nil),(hs2.set k_2.toNat (v_el7,F_el7)).set ((k_2 - (1:Int)).toNat) (v_el8,F_el8),rfl,rfl,H.1,((((a4.trans k17.1.symm).trans List.length_set.symm).trans List.length_set.symm).trans hr4.1),gr10,hO4,hr4,dj6,nd4⟩ sb H.2))))
    ·replace H:=H.2 (of_decide_eq_false b8)
     exact zy (zm (zm (zk (za (zx (zi (WX.ret0 rfl ⟨gr8,data3,hs2,rfl,k16,(a4.trans k17.1.symm).symm,k17,(fun p_ hp_ v0_=>or2 p_ hp_ v0_),dj4,H⟩)))))))
  ·replace H:=H.2 (of_decide_eq_false b5)
   refine zt (za (zg (zc (yp (h:=(yp (h:=?_)))))))
   obtain ⟨h30,H⟩:=H
   refine zd rfl (Yld.add rfl rfl h30) ?_
   obtain ⟨h31,H⟩:=H
   refine zd rfl (zu qH rfl rfl rfl h31) (zd rfl (zG rfl rfl (by omega)) ?_)
   obtain ⟨h32,H⟩:=H
   refine zd rfl (zu qH rfl rfl rfl h32) (yp (h:=(zh (za (zg (zc (yp (h:=(yp (h:=?_))))))))))
   obtain ⟨h33,H⟩:=H
   refine zd rfl (Yld.add rfl rfl h33) (yp (h:=(zh (za (zg (zc (yp (h:=(yp (h:=(zh (za (zg ?_)))))))))))))
   obtain ⟨J1,H,hJ1⟩:=H
   refine qk (fun L' w'=>∃ (start:Int),∃ (r:Int),L'=[(0,.slice a0 data.length a5),(1,.int .i64 a),(2,.int .i64 m),(3,.int .i64 b),(4,.func (.func 150) #[] #[.pointer (some ⟨a6,0,none⟩),.pointer (some ⟨a7,0,none⟩)]),(18,.int .i64 (shrV .u64 (a+b) 1)),(19,.int .i64 ((shrV .u64 (a+b) 1)+m)),(20,.int .i64 start),(21,.int .i64 r)]/\J1 start r/\w=w') ?_ (fun hQ=>?_)
   ·clear H
    rintro _ _ ⟨start,r,rfl,H,rfl⟩
    replace H:=hJ1 start r H
    refine za (zg (zc (yp (h:=?_))))
    obtain ⟨h34,H⟩:=H
    refine zd rfl (Yld.sub rfl rfl h34) (yp (h:=(zh (za (zg (WC.block ?_))))))
    obtain ⟨I5,mu5,e2,HR5⟩:=H
    refine z7 (fun n' L' w'=>∃ (start2:Int),∃ (r2:Int),n'=mu5 start2 r2/\L'=[(0,.slice a0 data.length a5),(1,.int .i64 a),(2,.int .i64 m),(3,.int .i64 b),(4,.func (.func 150) #[] #[.pointer (some ⟨a6,0,none⟩),.pointer (some ⟨a7,0,none⟩)]),(18,.int .i64 (shrV .u64 (a+b) 1)),(19,.int .i64 ((shrV .u64 (a+b) 1)+m)),(20,.int .i64 start2),(21,.int .i64 r2),(22,.int .i64 (((shrV .u64 (a+b) 1)+m) - (1:Int)))]/\I5 start2 r2/\GrL [(blk a0)] w w'/\Own vv w' 0 32 a0 a5 a1/\RelD deV w' a1 data) _ _ ⟨start,r,rfl,rfl,e2,(GrL.refl _),hdata,a8⟩ sb ?_
    clear e2
    rintro _ _ w15 ⟨start2,r2,rfl,rfl,hI5,gr11,k23,k24⟩
    have H:=HR5 start2 r2 hI5
    refine zg (zg (zc (yp (h:=(yp (h:=(yp (h:=(zh (za (zE rfl (fun b9=>?_) (fun b9=>?_))))))))))))
    ·replace H:=H.1 (of_decide_eq_true b9)
     refine zt (za (WC.block (zg (zc (yp (h:=(yp (h:=?_))))))))
     obtain ⟨h35,H⟩:=H
     refine zd rfl (Yld.add rfl rfl h35) ?_
     obtain ⟨h36,H⟩:=H
     refine zd rfl (zu qH rfl rfl rfl h36) (zd rfl (zG rfl rfl (by omega)) ?_)
     obtain ⟨h37,H⟩:=H
     refine zd rfl (zu qH rfl rfl rfl h37) (yp (h:=(zh (za (zg (zY (fun k => !(Nat.beq k 11)) (LD [6,10] (fun w'=>Rd vv w' a0 a5 a1)) jg (by kernel_rfl) (fun k w' h _=>(rd_eqv h k23.rd)) (zL rfl rfl (fun w' hw'=>ze qH rfl) (zL rfl rfl (fun w' hw'=>ze qH rfl) (zL rfl rfl (fun w' hw'=>ze qH rfl) (zL rfl rfl (fun w' hw'=>ze qH rfl) ?_))))))))))
     obtain ⟨h38,H⟩:=H
     refine zL rfl rfl (fun w' hw'=>Yld.sub rfl rfl h38) ?_
     obtain ⟨h39,H⟩:=H
     refine zL rfl rfl (fun w' hw'=>zP qH k23.rd rfl rfl a8.1.symm rfl h39.1 h39.2) ?_
     obtain ⟨⟨v_el9,F_el9⟩,eh9,hR9⟩:=RelD.at k24 vh0 PV.nil (j:=((((shrV .u64 (a+b) 1)+m) - (1:Int)) - (shrV .u64 (start2+r2) 1)).toNat) (Nat.lt_of_lt_of_eq (iltN h39 a8.1.symm) k24.1)
     have hv9:RelD deV w15 [(v_el9,F_el9)] [data.getD (((((shrV .u64 (a+b) 1)+m) - (1:Int)) - (shrV .u64 (start2+r2) 1)).toNat) PV.nil]:=RelD.cons hR9 RelD.nil
     refine zL rfl rfl (fun w' hw'=>qd (v:=v_el9.1) (zQ vh0 qH (hw' rfl) rfl rfl (iltN h39 a8.1.symm)) (congrArg vv eh9)) (zL rfl rfl (fun w' hw'=>ze qH rfl) (zL rfl rfl (fun w' hw'=>ze qH rfl) ?_))
     obtain ⟨h40,H⟩:=H
     refine zL rfl rfl (fun w' hw'=>zP qH k23.rd rfl rfl a8.1.symm rfl h40.1 h40.2) ?_
     obtain ⟨⟨v_el10,F_el10⟩,eh10,hR10⟩:=RelD.at k24 vh0 PV.nil (j:=(shrV .u64 (start2+r2) 1).toNat) (Nat.lt_of_lt_of_eq (iltN h40 a8.1.symm) k24.1)
     have hv10:RelD deV w15 [(v_el10,F_el10)] [data.getD ((shrV .u64 (start2+r2) 1).toNat) PV.nil]:=RelD.cons hR10 RelD.nil
     refine zL rfl rfl (fun w' hw'=>qd (v:=v_el10.1) (zQ vh0 qH (hw' rfl) rfl rfl (iltN h40 a8.1.symm)) (congrArg vv eh10)) (WJ.callv rfl rfl rfl rfl (ku (hG.goL gr11 hP).ok hS3 hS7 hv9 hv10 (hcap0.goL gr11 hap1) (hcap1.goL gr11 hap2) H) (fun v w' h w2 e=>DD.keep (Rd.grown k23.rd (qN h.1 e))) ?_)
     rintro _ w16 ⟨hg11,t169,rfl,H⟩
     have gr12:=GrL.add0 gr11 hg11
     have k25:=k23.grown hg11
     have k26:=k24.grown hg11
     refine zL rfl rfl (fun w' hw'=>ze qH rfl) (zL rfl rfl (fun w' hw'=>ze qH rfl) (qh (za (zE rfl (fun b10=>?_) (fun b10=>?_)))))
     ·replace H:=H.1 (j9 b10)
      refine zc (yp (h:=?_))
      obtain ⟨h41,H⟩:=H
      exact zd rfl (Yld.add rfl rfl h41) (yp (h:=(zh (zf (zZ _ ⟨(shrV .u64 (start2+r2) 1)+(1:Int),r2,rfl,rfl,H.1,gr12,k25,k26⟩ sb H.2)))))
     ·replace H:=H.2 (jO b10)
      exact zc (yp (h:=(yp (h:=(zh (zf (zZ _ ⟨start2,shrV .u64 (start2+r2) 1,rfl,rfl,H.1,gr12,k25,k26⟩ sb H.2)))))))
    ·replace H:=H.2 (of_decide_eq_false b9)
     refine zy (zm (zm (zk (za (zg (zc (yp (h:=(yp (h:=?_))))))))))
     obtain ⟨h42,H⟩:=H
     refine zd rfl (Yld.sub rfl rfl h42) (yp (h:=(zh (za (zg ?_)))))
     obtain ⟨J2,H,hJ2⟩:=H
     refine qk (fun L' w'=>∃ (xs:List PV),∃ (hs3:List VH),L'=[(0,.slice a0 data.length a5),(1,.int .i64 a),(3,.int .i64 b),(4,.func (.func 150) #[] #[.pointer (some ⟨a6,0,none⟩),.pointer (some ⟨a7,0,none⟩)]),(18,.int .i64 (shrV .u64 (a+b) 1)),(20,.int .i64 start2),(24,.int .i64 (((shrV .u64 (a+b) 1)+m) - start2))]/\J2 xs/\data.length=xs.length/\GrL [(blk a0)] w w'/\Own vv w' 0 32 a0 a5 hs3/\RelD deV w' hs3 xs/\DnD deV hs3 xs (blk a0)/\OrD (fun p=>DnD deV a1 data p) deV hs3 xs w.heap.size) ?_ (fun hQ=>?_)
     ·clear H
      rintro _ w17 ⟨xs,hs3,rfl,H,c5,gr13,k27,k28,dj7,or3⟩
      replace H:=hJ2 xs H
      replace H:=H c5
      refine za (zg ?_)
      obtain ⟨J3,H,hJ3⟩:=H
      refine qk (fun L' w'=>∃ (xs2:List PV),∃ (hs4:List VH),L'=[(0,.slice a0 data.length a5),(3,.int .i64 b),(4,.func (.func 150) #[] #[.pointer (some ⟨a6,0,none⟩),.pointer (some ⟨a7,0,none⟩)]),(18,.int .i64 (shrV .u64 (a+b) 1)),(24,.int .i64 (((shrV .u64 (a+b) 1)+m) - start2))]/\J3 xs2/\data.length=xs2.length/\GrL [(blk a0)] w w'/\Own vv w' 0 32 a0 a5 hs4/\RelD deV w' hs4 xs2/\DnD deV hs4 xs2 (blk a0)/\OrD (fun p=>DnD deV a1 data p) deV hs4 xs2 w.heap.size) ?_ (fun hQ=>?_)
      ·clear H
       rintro _ w18 ⟨xs2,hs4,rfl,H,c8,gr14,k29,k30,dj8,or4⟩
       replace H:=hJ3 xs2 H
       replace H:=H c8
       refine za (zg (zc (yp (h:=(yp (h:=(yp (h:=(yp (h:=(zV 4 (fun L' w'=>∃ q1:Bool,L'=[(213,.bool q1),(0,.slice a0 data.length a5),(3,.int .i64 b),(4,.func (.func 150) #[] #[.pointer (some ⟨a6,0,none⟩),.pointer (some ⟨a7,0,none⟩)]),(18,.int .i64 (shrV .u64 (a+b) 1)),(24,.int .i64 (((shrV .u64 (a+b) 1)+m) - start2))]/\((decide ((shrV .u64 (a+b) 1)<(((shrV .u64 (a+b) 1)+m) - start2))) && (decide ((((shrV .u64 (a+b) 1)+m) - start2)<b)))=q1/\w18=w') ?_ (fun hQ=>?_))))))))))))
       ·rintro _ _ ⟨q1,rfl,rfl,rfl⟩
        refine zh (za (zE rfl (fun b11=>?_) (fun b11=>?_)))
        ·replace H:=H.1 (b11)
         refine zc (yp (h:=(yp (h:=(yp (h:=(yp (h:=(yp (h:=(zK rfl rfl (WR (hG.goL gr14 hP) (Nat.le_trans hB (GrL.sizeL gr14)) (apC (InP.toGe (InP.mem (List.Mem.head _)) hP hB) apN) hS3 hS7 k29 ((c8.trans k30.1.symm).trans k30.1) k30 (hcap0.goL gr14 hap1) (hcap1.goL gr14 hap2) (apC dj8 apN) (apC (InP.dj (InP.mem (List.Mem.head _)) hcap0.lt' hap1).symm apN) (apC (InP.dj (InP.mem (List.Mem.head _)) hcap1.lt' hap2).symm apN) H) ?_)))))))))))
         rintro _ w19 ⟨hgl1,ys,c1,rfl,hO5,hl1,hr5,ho1,dj9,H⟩
         have gr15:GrL [(blk a0)] w w19:=GrL.modL gr14 hgl1 (apC (InP.mem (List.Mem.head _)) apN)
         have k31:=k30.goL hgl1 (apC dj8 apN)
         exact zh (qa rfl ⟨gr15,ys,c1,rfl,hO5,((c8.trans k30.1.symm).trans (k30.1.trans hl1.symm)).symm,hr5,(fun p_ hp_ v0_=>have q_:=v0_; ho1 p_ (fun g_ e_=>Nat.lt_of_lt_of_le (hp_ g_ e_) (GrL.sizeL gr14)) (or4 p_ hp_ q_)),dj9,H⟩)
        ·replace H:=H.2 (b11)
         exact zt (qa rfl ⟨gr14,xs2,hs4,rfl,k29,(c8.trans k30.1.symm).symm,k30,(fun p_ hp_ v0_=>or4 p_ hp_ v0_),dj8,H⟩)
       ·clear H
        rcases Bool.eq_false_or_eq_true (decide ((shrV .u64 (a+b) 1)<(((shrV .u64 (a+b) 1)+m) - start2))) with b12 | b12
        ·exact gp b12 (h:=(gp b12 (h:=(gp b12 (h:=(zd rfl (zR (okb b12) rfl) (wk (hQ _ _ ⟨decide ((((shrV .u64 (a+b) 1)+m) - start2)<b),rfl,by rw [b12] <;> rfl,rfl⟩))))))))
        ·exact gn b12 (h:=(gn b12 (h:=(gn b12 (h:=(zd rfl (zN (okb b12) rfl) (wk (hQ _ _ ⟨false,rfl,by rw [b12] <;> rfl,rfl⟩))))))))
      ·clear hJ3
       refine zg (zc (yp (h:=(yp (h:=(yp (h:=(yp (h:=(zV 4 (fun L' w'=>∃ q2:Bool,L'=[(199,.bool q2),(0,.slice a0 data.length a5),(1,.int .i64 a),(3,.int .i64 b),(4,.func (.func 150) #[] #[.pointer (some ⟨a6,0,none⟩),.pointer (some ⟨a7,0,none⟩)]),(18,.int .i64 (shrV .u64 (a+b) 1)),(20,.int .i64 start2),(24,.int .i64 (((shrV .u64 (a+b) 1)+m) - start2))]/\((decide (a<start2)) && (decide (start2<(shrV .u64 (a+b) 1))))=q2/\w17=w') ?_ (fun hQ=>?_)))))))))))
       ·rintro _ _ ⟨q2,rfl,rfl,rfl⟩
        refine zh (za (zE rfl (fun b13=>?_) (fun b13=>?_)))
        ·replace H:=H.1 (b13)
         refine zc (yp (h:=(yp (h:=(yp (h:=(yp (h:=(yp (h:=(zK rfl rfl (WR (hG.goL gr13 hP) (Nat.le_trans hB (GrL.sizeL gr13)) (apC (InP.toGe (InP.mem (List.Mem.head _)) hP hB) apN) hS3 hS7 k27 ((c5.trans k28.1.symm).trans k28.1) k28 (hcap0.goL gr13 hap1) (hcap1.goL gr13 hap2) (apC dj7 apN) (apC (InP.dj (InP.mem (List.Mem.head _)) hcap0.lt' hap1).symm apN) (apC (InP.dj (InP.mem (List.Mem.head _)) hcap1.lt' hap2).symm apN) H) ?_)))))))))))
         rintro _ w20 ⟨hgl2,ys2,c2,rfl,hO6,hl2,hr6,ho2,dj10,H⟩
         have gr16:GrL [(blk a0)] w w20:=GrL.modL gr13 hgl2 (apC (InP.mem (List.Mem.head _)) apN)
         have k32:=k28.goL hgl2 (apC dj7 apN)
         exact zh (WX.weaken sb (hQ _ _ ⟨ys2,c2,rfl,H,(((c5.trans k28.1.symm).trans (k28.1.trans hl2.symm)).trans hr6.1),gr16,hO6,hr6,dj10,(fun p_ hp_ q_=>ho2 p_ (fun g_ e_=>Nat.lt_of_lt_of_le (hp_ g_ e_) (GrL.sizeL gr13)) (or3 p_ hp_ q_))⟩))
        ·replace H:=H.2 (b13)
         exact zt (WX.weaken sb (hQ _ _ ⟨xs,hs3,rfl,H,((c5.trans k28.1.symm).trans k28.1),gr13,k27,k28,dj7,or3⟩))
       ·clear H
        rcases Bool.eq_false_or_eq_true (decide (a<start2)) with b14 | b14
        ·exact gp b14 (h:=(gp b14 (h:=(gp b14 (h:=(zd rfl (zR (okb b14) rfl) (wk (hQ _ _ ⟨decide (start2<(shrV .u64 (a+b) 1)),rfl,by rw [b14] <;> rfl,rfl⟩))))))))
        ·exact gn b14 (h:=(gn b14 (h:=(gn b14 (h:=(zd rfl (zN (okb b14) rfl) (wk (hQ _ _ ⟨false,rfl,by rw [b14] <;> rfl,rfl⟩))))))))
     ·clear hJ2
      refine zg (zc (yp (h:=(yp (h:=(yp (h:=(yp (h:=(zV 4 (fun L' w'=>∃ q3:Bool,L'=[(185,.bool q3),(0,.slice a0 data.length a5),(1,.int .i64 a),(2,.int .i64 m),(3,.int .i64 b),(4,.func (.func 150) #[] #[.pointer (some ⟨a6,0,none⟩),.pointer (some ⟨a7,0,none⟩)]),(18,.int .i64 (shrV .u64 (a+b) 1)),(20,.int .i64 start2),(24,.int .i64 (((shrV .u64 (a+b) 1)+m) - start2))]/\((decide (start2<m)) && (decide (m<(((shrV .u64 (a+b) 1)+m) - start2))))=q3/\w15=w') ?_ (fun hQ=>?_)))))))))))
      ·rintro _ _ ⟨q3,rfl,rfl,rfl⟩
       refine zh (za (zE rfl (fun b15=>?_) (fun b15=>?_)))
       ·replace H:=H.1 (b15)
        refine zc (yp (h:=(yp (h:=(yp (h:=(yp (h:=(yp (h:=(zK rfl rfl (jU k23 rfl k24 (hcap0.goL gr11 hap1) (hcap1.goL gr11 hap2) (apC (hap0 _ (List.Mem.head _)) apN) (apC (InP.dj (InP.mem (List.Mem.head _)) hcap0.lt' hap1).symm apN) (apC (InP.dj (InP.mem (List.Mem.head _)) hcap1.lt' hap2).symm apN) H) ?_)))))))))))
        rintro _ w21 ⟨hgl3,ys3,c6,rfl,hO7,hl3,hr7,ho3,dj11,H⟩
        have gr17:GrL [(blk a0)] w w21:=GrL.modL gr11 hgl3 (apC (InP.mem (List.Mem.head _)) apN)
        have k33:=k24.goL hgl3 (apC (hap0 _ (List.Mem.head _)) apN)
        exact zh (WX.weaken sb (hQ _ _ ⟨ys3,c6,rfl,H,((a8.1.symm.trans (k24.1.trans hl3.symm)).trans hr7.1),gr17,hO7,hr7,dj11,(fun p_ hp_ q_=>ho3 p_ (fun g_ e_=>Nat.lt_of_lt_of_le (hp_ g_ e_) (GrL.sizeL gr11)) (q_))⟩))
       ·replace H:=H.2 (b15)
        exact zt (WX.weaken sb (hQ _ _ ⟨data,a1,rfl,H,rfl,gr11,k23,k24,(hap0 _ (List.Mem.head _)),(fun p_ hp_ q_=>q_)⟩))
      ·clear H
       rcases Bool.eq_false_or_eq_true (decide (start2<m)) with b16 | b16
       ·exact gp b16 (h:=(gp b16 (h:=(gp b16 (h:=(zd rfl (zR (okb b16) rfl) (wk (hQ _ _ ⟨decide (m<(((shrV .u64 (a+b) 1)+m) - start2)),rfl,by rw [b16] <;> rfl,rfl⟩))))))))
       ·exact gn b16 (h:=(gn b16 (h:=(gn b16 (h:=(zd rfl (zN (okb b16) rfl) (wk (hQ _ _ ⟨false,rfl,by rw [b16] <;> rfl,rfl⟩))))))))
   ·clear hJ1
    refine zg (zc (yp (h:=(yp (h:=(yp (h:=(zh (za (zE rfl (fun b17=>?_) (fun b17=>?_)))))))))))
    ·replace H:=H.1 (of_decide_eq_true b17)
     refine zg (zc (yp (h:=(yp (h:=?_)))))
     obtain ⟨h43,H⟩:=H
     exact zd rfl (Yld.sub rfl rfl h43) (yp (h:=(zh (za (zc (yp (h:=(yp (h:=(zh (WX.weaken sb (hQ _ _ ⟨((shrV .u64 (a+b) 1)+m) - b,shrV .u64 (a+b) 1,rfl,H,rfl⟩))))))))))))
    ·replace H:=H.2 (of_decide_eq_false b17)
     exact zg (zc (yp (h:=(yp (h:=(zh (za (zc (yp (h:=(yp (h:=(zh (WX.weaken sb (hQ _ _ ⟨a,m,rfl,H,rfl⟩)))))))))))))))
theorem jm {S:List Nat}:∀ (n:Nat) {B:Nat} {w:World} {data:List PV} {a0:Option Addr} {a5:Nat} {a1:List VH} {a:Int} {m:Int} {b:Int} {a6:Nat} {cap0:Bool} {a7:Nat} {cap1:Bool} {b0:Nat} {K:(List PV)->Prop} (hG:GB S B w) (hB:B<=w.heap.size) (hP:AllP (fun p=>Ge p B) [(blk a0)]) (hS3:3∈S) (hS7:7∈S) (hdata:Own vv w 0 32 a0 a5 a1) (c0:b0=data.length) (a8:RelD deV w a1 data) (hcap0:Bl w a6 4 [.bool cap0]) (hcap1:Bl w a7 4 [.bool cap1]) (hap0:AllP (DnD deV a1 data) [(blk a0)]) (hap1:AllP (Dj (some a6)) [(blk a0)]) (hap2:AllP (Dj (some a7)) [(blk a0)]) (H:qU n data a m b cap0 cap1 K),Fn Tryz.prog 205 ⟨[.slice a0 b0 a5,.int .i64 a,.int .i64 m,.int .i64 b,.func (.func 150) #[] #[.pointer (some ⟨a6,0,none⟩),.pointer (some ⟨a7,0,none⟩)]]⟩ w (fun v w'=>GrL [(blk a0)] w w'/\∃ (ys4:List PV),∃ (a9:List VH),v=.tuple #[]/\Own vv w' 0 32 a0 a5 a9/\a9.length=data.length/\RelD deV w' a9 ys4/\(∀ p:Option Nat,Lt p w.heap.size->DnD deV a1 data p->DnD deV a9 ys4 p)/\DnD deV a9 ys4 (blk a0)/\K ys4)
 | 0=>by
  intros
  rename_i H
  exact (show False from H).elim
 | n+1=>jF (MR:=qU n) (jm n)
theorem jn {S:List Nat} {B:Nat} {w:World} {data:List PV} {a0:Option Addr} {a5:Nat} {a1:List VH} {a:Int} {m:Int} {b:Int} {a6:Nat} {cap0:Bool} {a7:Nat} {cap1:Bool} {b0:Nat} {K:(List PV)->Prop} (hG:GB S B w) (hB:B<=w.heap.size) (hP:AllP (fun p=>Ge p B) [(blk a0)]) (hS3:3∈S) (hS7:7∈S) (hdata:Own vv w 0 32 a0 a5 a1) (c0:b0=data.length) (a8:RelD deV w a1 data) (hcap0:Bl w a6 4 [.bool cap0]) (hcap1:Bl w a7 4 [.bool cap1]) (hap0:AllP (DnD deV a1 data) [(blk a0)]) (hap1:AllP (Dj (some a6)) [(blk a0)]) (hap2:AllP (Dj (some a7)) [(blk a0)]) (H:je data a m b cap0 cap1 K):Fn Tryz.prog 205 ⟨[.slice a0 b0 a5,.int .i64 a,.int .i64 m,.int .i64 b,.func (.func 150) #[] #[.pointer (some ⟨a6,0,none⟩),.pointer (some ⟨a7,0,none⟩)]]⟩ w (fun v w'=>GrL [(blk a0)] w w'/\∃ (ys4:List PV),∃ (a9:List VH),v=.tuple #[]/\Own vv w' 0 32 a0 a5 a9/\a9.length=data.length/\RelD deV w' a9 ys4/\(∀ p:Option Nat,Lt p w.heap.size->DnD deV a1 data p->DnD deV a9 ys4 p)/\DnD deV a9 ys4 (blk a0)/\K ys4):=by
 obtain ⟨n,H⟩:=H
 exact jm n hG hB hP hS3 hS7 hdata c0 a8 hcap0 hcap1 hap0 hap1 hap2 H
set_option maxHeartbeats 8000000 in
theorem jV {S:List Nat} {B:Nat} {w:World} {data:List PV} {a0:Option Addr} {a5:Nat} {a1:List VH} {n:Int} {a6:Nat} {cap0:Bool} {a7:Nat} {cap1:Bool} {b0:Nat} {K:(List PV)->Prop} (hG:GB S B w) (hB:B<=w.heap.size) (hP:AllP (fun p=>Ge p B) [(blk a0)]) (hS3:3∈S) (hS7:7∈S) (hdata:Own vv w 0 32 a0 a5 a1) (c0:b0=data.length) (a8:RelD deV w a1 data) (hcap0:Bl w a6 4 [.bool cap0]) (hcap1:Bl w a7 4 [.bool cap1]) (hap0:AllP (DnD deV a1 data) [(blk a0)]) (hap1:AllP (Dj (some a6)) [(blk a0)]) (hap2:AllP (Dj (some a7)) [(blk a0)]) (H:ja data n cap0 cap1 K):Fn Tryz.prog 187 ⟨[.slice a0 b0 a5,.int .i64 n,.func (.func 150) #[] #[.pointer (some ⟨a6,0,none⟩),.pointer (some ⟨a7,0,none⟩)]]⟩ w (fun v w'=>GrL [(blk a0)] w w'/\∃ (ys5:List PV),∃ (c7:List VH),v=.tuple #[]/\Own vv w' 0 32 a0 a5 c7/\c7.length=data.length/\RelD deV w' c7 ys5/\(∀ p:Option Nat,Lt p w.heap.size->DnD deV a1 data p->DnD deV c7 ys5 p)/\DnD deV c7 ys5 (blk a0)/\K ys5):=by
 subst c0
 unfold ja at H
 refine Fn.enter (by kernel_rfl) Tryz.func187 rfl Tryz.ntmps187 rfl ?_
 replace H:=H (by rw [<-a8.1]; exact Nat.le_trans hdata.rd.cap hdata.rd.max)
 have hNoAt:AllP (NoAt w) [(blk a0)]:=(apC (NoAt.own hdata rfl) apN)
 refine zg (zc (yp (h:=(zh (za (zg (zc (yp (h:=(yp (h:=(yp (h:=(zh (za (zg (WC.block ?_)))))))))))))))))
 obtain ⟨I1,mu1,c4,HR1⟩:=H
 refine z7 (fun n' L' w'=>∃ (a:Int),∃ (b:Int),∃ (data2:List PV),∃ (hs:List VH),n'=mu1 a b data2/\L'=[(0,.slice a0 data.length a5),(1,.int .i64 n),(2,.func (.func 150) #[] #[.pointer (some ⟨a6,0,none⟩),.pointer (some ⟨a7,0,none⟩)]),(6,.int .i64 (20:Int)),(7,.int .i64 a),(8,.int .i64 b)]/\I1 a b data2/\data.length=data2.length/\GrL [(blk a0)] w w'/\Own vv w' 0 32 a0 a5 hs/\RelD deV w' hs data2/\DnD deV hs data2 (blk a0)/\OrD (fun p=>DnD deV a1 data p) deV hs data2 w.heap.size) _ _ ⟨(0:Int),(20:Int),data,a1,rfl,rfl,c4,rfl,(GrL.refl _),hdata,a8,(hap0 _ (List.Mem.head _)),(fun p_ hp_ q_=>q_)⟩ sb ?_
 clear c4
 rintro _ _ w1 ⟨a,b,data2,hs,rfl,rfl,hI1,a3,gr1,k1,k2,dj1,or1⟩
 have H:=HR1 a b data2 hI1
 replace H:=H a3
 refine zg (zg (zc (yp (h:=(yp (h:=(yp (h:=(zh (za (zE rfl (fun b1=>?_) (fun b1=>?_))))))))))))
 ·replace H:=H.1 (of_decide_eq_true b1)
  refine zt (za (WC.block (zg (zc (yp (h:=(yp (h:=(yp (h:=(yp (h:=(zK rfl rfl (jj (hG.goL gr1 hP) (Nat.le_trans hB (GrL.sizeL gr1)) (apC (InP.toGe (InP.mem (List.Mem.head _)) hP hB) apN) hS3 hS7 k1 ((a3.trans k2.1.symm).trans k2.1) k2 (hcap0.goL gr1 hap1) (hcap1.goL gr1 hap2) (apC dj1 apN) (apC (InP.dj (InP.mem (List.Mem.head _)) hcap0.lt' hap1).symm apN) (apC (InP.dj (InP.mem (List.Mem.head _)) hcap1.lt' hap2).symm apN) H) ?_)))))))))))))
  rintro _ w2 ⟨hgl1,ys,c1,rfl,hO1,hl1,hr1,ho1,dj2,H⟩
  have gr2:GrL [(blk a0)] w w2:=GrL.modL gr1 hgl1 (apC (InP.mem (List.Mem.head _)) apN)
  have k3:=k2.goL hgl1 (apC dj1 apN)
  refine zh (za (zg (zc (yp (h:=(yp (h:=(zh (za (zc (yp (h:=(yp (h:=?_))))))))))))))
  obtain ⟨h1,H⟩:=H
  exact zd rfl (Yld.add rfl rfl h1) (yp (h:=(zh (zf (zZ _ ⟨b,b+(20:Int),ys,c1,rfl,rfl,H.1,(((a3.trans k2.1.symm).trans (k2.1.trans hl1.symm)).trans hr1.1),gr2,hO1,hr1,dj2,(fun p_ hp_ q_=>ho1 p_ (fun g_ e_=>Nat.lt_of_lt_of_le (hp_ g_ e_) (GrL.sizeL gr1)) (or1 p_ hp_ q_))⟩ sb H.2)))))
 ·replace H:=H.2 (of_decide_eq_false b1)
  refine zy (zm (zm (zk (za (zg (zc (yp (h:=(yp (h:=(yp (h:=(yp (h:=(zK rfl rfl (jj (hG.goL gr1 hP) (Nat.le_trans hB (GrL.sizeL gr1)) (apC (InP.toGe (InP.mem (List.Mem.head _)) hP hB) apN) hS3 hS7 k1 ((a3.trans k2.1.symm).trans k2.1) k2 (hcap0.goL gr1 hap1) (hcap1.goL gr1 hap2) (apC dj1 apN) (apC (InP.dj (InP.mem (List.Mem.head _)) hcap0.lt' hap1).symm apN) (apC (InP.dj (InP.mem (List.Mem.head _)) hcap1.lt' hap2).symm apN) H) ?_)))))))))))))))
  rintro _ w3 ⟨hgl2,ys2,c2,rfl,hO2,hl2,hr2,ho2,dj3,H⟩
  have gr3:GrL [(blk a0)] w w3:=GrL.modL gr1 hgl2 (apC (InP.mem (List.Mem.head _)) apN)
  have k4:=k2.goL hgl2 (apC dj1 apN)
  refine zh (za (WC.block ?_))
  obtain ⟨I2,mu2,c9,HR2⟩:=H
  refine z7 (fun n' L' w'=>∃ (blockSize:Int),∃ (data3:List PV),∃ (hs2:List VH),n'=mu2 blockSize data3/\L'=[(0,.slice a0 data.length a5),(1,.int .i64 n),(2,.func (.func 150) #[] #[.pointer (some ⟨a6,0,none⟩),.pointer (some ⟨a7,0,none⟩)]),(6,.int .i64 blockSize)]/\I2 blockSize data3/\data.length=data3.length/\GrL [(blk a0)] w w'/\Own vv w' 0 32 a0 a5 hs2/\RelD deV w' hs2 data3/\DnD deV hs2 data3 (blk a0)/\OrD (fun p=>DnD deV a1 data p) deV hs2 data3 w.heap.size) _ _ ⟨(20:Int),ys2,c2,rfl,rfl,c9,(((a3.trans k2.1.symm).trans (k2.1.trans hl2.symm)).trans hr2.1),gr3,hO2,hr2,dj3,(fun p_ hp_ q_=>ho2 p_ (fun g_ e_=>Nat.lt_of_lt_of_le (hp_ g_ e_) (GrL.sizeL gr1)) (or1 p_ hp_ q_))⟩ sb ?_
  clear c9
  rintro _ _ w4 ⟨blockSize,data3,hs2,rfl,rfl,hI2,a4,gr4,k5,k6,dj4,or2⟩
  have H:=HR2 blockSize data3 hI2
  replace H:=H a4
  refine zg (zg (zc (yp (h:=(yp (h:=(yp (h:=(zh (za (zE rfl (fun b2=>?_) (fun b2=>?_))))))))))))
  ·replace H:=H.1 (of_decide_eq_true b2)
   refine zt (za (WC.block (zg (zc (yp (h:=?_))))))
   obtain ⟨h2,H⟩:=H
   refine zd rfl (zC rfl rfl h2) (yp (h:=(yp (h:=(zh (za (zg (WC.block ?_))))))))
   obtain ⟨I3,mu3,d2,HR3⟩:=H
   refine z7 (fun n' L' w'=>∃ (a2:Int),∃ (b_2:Int),∃ (data4:List PV),∃ (hs3:List VH),n'=mu3 a2 b_2 data4/\L'=[(0,.slice a0 data.length a5),(1,.int .i64 n),(2,.func (.func 150) #[] #[.pointer (some ⟨a6,0,none⟩),.pointer (some ⟨a7,0,none⟩)]),(6,.int .i64 blockSize),(7,.int .i64 a2),(8,.int .i64 b_2)]/\I3 a2 b_2 data4/\data.length=data4.length/\GrL [(blk a0)] w w'/\Own vv w' 0 32 a0 a5 hs3/\RelD deV w' hs3 data4/\DnD deV hs3 data4 (blk a0)/\OrD (fun p=>DnD deV a1 data p) deV hs3 data4 w.heap.size) _ _ ⟨(0:Int),(2:Int)*blockSize,data3,hs2,rfl,rfl,d2,((a4.trans k6.1.symm).trans k6.1),gr4,k5,k6,dj4,or2⟩ sb ?_
   clear d2
   rintro _ _ w5 ⟨a2,b_2,data4,hs3,rfl,rfl,hI3,c3,gr5,k7,k8,dj5,or3⟩
   have H:=HR3 a2 b_2 data4 hI3
   replace H:=H c3
   refine zg (zg (zc (yp (h:=(yp (h:=(yp (h:=(zh (za (zE rfl (fun b3=>?_) (fun b3=>?_))))))))))))
   ·replace H:=H.1 (of_decide_eq_true b3)
    refine zt (za (WC.block (zg (zc (yp (h:=(yp (h:=(yp (h:=(yp (h:=?_))))))))))))
    obtain ⟨h3,H⟩:=H
    refine zd rfl (Yld.add rfl rfl h3) (yp (h:=(yp (h:=(zK rfl rfl (jn (hG.goL gr5 hP) (Nat.le_trans hB (GrL.sizeL gr5)) (apC (InP.toGe (InP.mem (List.Mem.head _)) hP hB) apN) hS3 hS7 k7 ((c3.trans k8.1.symm).trans k8.1) k8 (hcap0.goL gr5 hap1) (hcap1.goL gr5 hap2) (apC dj5 apN) (apC (InP.dj (InP.mem (List.Mem.head _)) hcap0.lt' hap1).symm apN) (apC (InP.dj (InP.mem (List.Mem.head _)) hcap1.lt' hap2).symm apN) H) ?_)))))
    rintro _ w6 ⟨hgl3,ys3,c6,rfl,hO3,hl3,hr3,ho3,dj6,H⟩
    have gr6:GrL [(blk a0)] w w6:=GrL.modL gr5 hgl3 (apC (InP.mem (List.Mem.head _)) apN)
    have k9:=k8.goL hgl3 (apC dj5 apN)
    refine zh (za (zg (zc (yp (h:=(yp (h:=(zh (za (zc (yp (h:=(yp (h:=?_))))))))))))))
    obtain ⟨h4,H⟩:=H
    refine zd rfl (zC rfl rfl h4) ?_
    obtain ⟨h5,H⟩:=H
    exact zd rfl (Yld.add rfl rfl h5) (yp (h:=(zh (zf (zZ _ ⟨b_2,b_2+((2:Int)*blockSize),ys3,c6,rfl,rfl,H.1,(((c3.trans k8.1.symm).trans (k8.1.trans hl3.symm)).trans hr3.1),gr6,hO3,hr3,dj6,(fun p_ hp_ q_=>ho3 p_ (fun g_ e_=>Nat.lt_of_lt_of_le (hp_ g_ e_) (GrL.sizeL gr5)) (or3 p_ hp_ q_))⟩ sb H.2)))))
   ·replace H:=H.2 (of_decide_eq_false b3)
    refine zy (zm (zm (zk (za (zg ?_)))))
    obtain ⟨J1,H,hJ1⟩:=H
    refine qk (fun L' w'=>∃ (xs:List PV),∃ (hs4:List VH),L'=[(0,.slice a0 data.length a5),(1,.int .i64 n),(2,.func (.func 150) #[] #[.pointer (some ⟨a6,0,none⟩),.pointer (some ⟨a7,0,none⟩)]),(6,.int .i64 blockSize)]/\J1 xs/\data.length=xs.length/\GrL [(blk a0)] w w'/\Own vv w' 0 32 a0 a5 hs4/\RelD deV w' hs4 xs/\DnD deV hs4 xs (blk a0)/\OrD (fun p=>DnD deV a1 data p) deV hs4 xs w.heap.size) ?_ (fun hQ=>?_)
    ·clear H
     rintro _ w7 ⟨xs,hs4,rfl,H,c5,gr7,k10,k11,dj7,or4⟩
     replace H:=hJ1 xs H
     replace H:=H c5
     refine za (zc (yp (h:=?_)))
     obtain ⟨h6,H⟩:=H
     exact zd rfl (zC rfl rfl h6) (yp (h:=(zh (zf (zZ _ ⟨blockSize*(2:Int),xs,hs4,rfl,rfl,H.1,((c5.trans k11.1.symm).trans k11.1),gr7,k10,k11,dj7,or4⟩ sb H.2)))))
    ·clear hJ1
     refine zg (zc (yp (h:=(yp (h:=?_)))))
     obtain ⟨h7,H⟩:=H
     refine zd rfl (Yld.add rfl rfl h7) (yp (h:=(zh (za (zg (zc (yp (h:=(yp (h:=(yp (h:=(zh (za (zE rfl (fun b4=>?_) (fun b4=>?_))))))))))))))))
     ·replace H:=H.1 (of_decide_eq_true b4)
      refine zc (yp (h:=(yp (h:=(yp (h:=(yp (h:=(yp (h:=(zK rfl rfl (jn (hG.goL gr5 hP) (Nat.le_trans hB (GrL.sizeL gr5)) (apC (InP.toGe (InP.mem (List.Mem.head _)) hP hB) apN) hS3 hS7 k7 ((c3.trans k8.1.symm).trans k8.1) k8 (hcap0.goL gr5 hap1) (hcap1.goL gr5 hap2) (apC dj5 apN) (apC (InP.dj (InP.mem (List.Mem.head _)) hcap0.lt' hap1).symm apN) (apC (InP.dj (InP.mem (List.Mem.head _)) hcap1.lt' hap2).symm apN) H) ?_)))))))))))
      rintro _ w8 ⟨hgl4,ys4,a9,rfl,hO4,hl4,hr4,ho4,dj8,H⟩
      have gr8:GrL [(blk a0)] w w8:=GrL.modL gr5 hgl4 (apC (InP.mem (List.Mem.head _)) apN)
      have k12:=k8.goL hgl4 (apC dj5 apN)
      exact zh (WX.weaken sb (hQ _ _ ⟨ys4,a9,rfl,H,(((c3.trans k8.1.symm).trans (k8.1.trans hl4.symm)).trans hr4.1),gr8,hO4,hr4,dj8,(fun p_ hp_ q_=>ho4 p_ (fun g_ e_=>Nat.lt_of_lt_of_le (hp_ g_ e_) (GrL.sizeL gr5)) (or3 p_ hp_ q_))⟩))
     ·replace H:=H.2 (of_decide_eq_false b4)
      exact zt (WX.weaken sb (hQ _ _ ⟨data4,hs3,rfl,H,((c3.trans k8.1.symm).trans k8.1),gr5,k7,k8,dj5,or3⟩))
  ·replace H:=H.2 (of_decide_eq_false b2)
   exact zy (zm (zm (zk (qa rfl ⟨gr4,data3,hs2,rfl,k5,(a4.trans k6.1.symm).symm,k6,(fun p_ hp_ v0_=>or2 p_ hp_ v0_),dj4,H⟩))))
set_option maxHeartbeats 8000000 in
theorem jB {S:List Nat} {B:Nat} {w:World} {x:List PV} {A_x:Option Addr} {c_x:Nat} {d4:List VH} {a6:Nat} {cap0:Bool} {a7:Nat} {cap1:Bool} {n_x:Nat} {K:(List PV)->Prop} (hG:GB S B w) (hB:B<=w.heap.size) (hP:AllP (fun p=>Ge p B) [(blk A_x)]) (hS3:3∈S) (hS7:7∈S) (hx:Own vv w 0 32 A_x c_x d4) (e4:n_x=x.length) (d3:RelD deV w d4 x) (hcap0:Bl w a6 4 [.bool cap0]) (hcap1:Bl w a7 4 [.bool cap1]) (hap0:AllP (DnD deV d4 x) [(blk A_x)]) (hap1:AllP (Dj (some a6)) [(blk A_x)]) (hap2:AllP (Dj (some a7)) [(blk A_x)]) (H:qW x cap0 cap1 K):Fn Tryz.prog 149 ⟨[.slice A_x n_x c_x,.func (.func 150) #[] #[.pointer (some ⟨a6,0,none⟩),.pointer (some ⟨a7,0,none⟩)]]⟩ w (fun v w'=>GrL [(blk A_x)] w w'/\∃ (ys2:List PV),∃ (c2:List VH),v=.tuple #[]/\Own vv w' 0 32 A_x c_x c2/\c2.length=x.length/\RelD deV w' c2 ys2/\(∀ p:Option Nat,Lt p w.heap.size->DnD deV d4 x p->DnD deV c2 ys2 p)/\DnD deV c2 ys2 (blk A_x)/\K ys2):=by
 subst e4
 unfold qW at H
 refine Fn.enter (by kernel_rfl) Tryz.func149 rfl Tryz.ntmps149 rfl ?_
 replace H:=H (by rw [<-d3.1]; exact Nat.le_trans hx.rd.cap hx.rd.max)
 have hNoAt:AllP (NoAt w) [(blk A_x)]:=(apC (NoAt.own hx rfl) apN)
 refine zc (yp (h:=(yp (h:=(yp (h:=(yp (h:=(zK rfl rfl (jV hG (Nat.le_trans hB (Nat.le_refl _)) (apC (InP.toGe (InP.mem (List.Mem.head _)) hP hB) apN) hS3 hS7 hx rfl d3 hcap0 hcap1 (apC (hap0 _ (List.Mem.head _)) apN) (apC (InP.dj (InP.mem (List.Mem.head _)) hcap0.lt' hap1).symm apN) (apC (InP.dj (InP.mem (List.Mem.head _)) hcap1.lt' hap2).symm apN) H) ?_)))))))))
 rintro _ w1 ⟨hgl1,ys,c1,rfl,hO1,hl1,hr1,ho1,dj1,H⟩
 have gr1:GrL [(blk A_x)] w w1:=GrL.modL (GrL.refl _) hgl1 (apC (InP.mem (List.Mem.head _)) apN)
 have k1:=d3.goL hgl1 (apC (hap0 _ (List.Mem.head _)) apN)
 exact zh (qa rfl ⟨gr1,ys,c1,rfl,hO1,(d3.1.symm.trans (d3.1.trans hl1.symm)).symm,hr1,(fun p_ hp_ v0_=>have q_:=v0_; ho1 p_ (fun g_ e_=>Nat.lt_of_lt_of_le (hp_ g_ e_) (Nat.le_refl _)) (q_)),dj1,H⟩)
set_option maxHeartbeats 8000000 in
theorem W_list_Sorted {S:List Nat} {w:World} {l:List PV} {A_l:Option Addr} {c_l:Nat} {d7:List VH} {back:Bool} {n_l:Nat} {K:(List PV)->Er->Prop} (hG:GOK S w) (hS3:3∈S) (hS7:7∈S) (hl:Rd vv w A_l c_l d7) (e3:n_l=l.length) (d6:RelD deV w d7 l) (H:M_list_Sorted l back K):Fn Tryz.prog 86 ⟨[.slice A_l n_l c_l,.bool back]⟩ w (fun v w'=>w.grownBy w' none/\∃ (r0:List PV),∃ (d5:Option Addr),∃ (e0:Nat),∃ (d1:List VH),∃ (v_r1:Value),∃ (r1:Er),v=.tuple #[.slice d5 r0.length e0,v_r1]/\Own vv w' w.heap.size 32 d5 e0 d1/\RelD deV w' d1 r0/\(∀ p:Option Nat,Lt p w.heap.size->DnD deV d7 l p->DnD deV d1 r0 p)/\DnD deV d1 r0 (blk d5)/\ErrR S w' v_r1 r1/\K r0 r1):=by
 subst e3
 unfold M_list_Sorted at H
 refine Fn.enter (by kernel_rfl) Tryz.func86 rfl Tryz.ntmps86 rfl ?_
 replace H:=H (by rw [<-d6.1]; exact Nat.le_trans hl.cap hl.max)
 refine zg (zc (z4 (us:=[.bool back]) rfl rfl rfl (fun g1 w1 hB1 hg1 hl1=>?_)))
 have gr1:=hg1
 refine yp (h:=(yp (h:=(zh (za (zg (zg (zc (yp (h:=(zK rfl rfl (W_val_Light (hl.grown gr1) rfl (d6.grown gr1) H) ?_)))))))))))
 rintro _ w2 ⟨hg2,t9,rfl,H⟩
 have gr2:=qI gr1 hg2
 have k1:=hB1.g0 hg2
 refine yp (h:=(zh (za (zE rfl (fun b1=>?_) (fun b1=>?_)))))
 ·replace H:=H.1 (b1)
  refine zg (ql jg (by kernel_rfl) ?_)
  obtain ⟨vE1,_,hE1⟩:=GOK.get (hG.grown gr2) 7 1 hS7 rfl rfl
  exact z8 rfl (Yld.cell qH (ErrR.cell hE1 rfl) rfl rfl) (z8 rfl (ze qH rfl) (z8 rfl (ze qH rfl) (qu (za (zx (zi (zW rfl rfl rfl ⟨gr2,[],none,0,[],vE1,(Er.e 7),rfl,(Own.nil vv w2 w.heap.size 32),(RelD.nil (d:=deV) (w:=w2)),(fun p_ hp_ v0_=>have q_:=v0_; (DnD.nil (d:=deV))),DnD.nil,hE1,H⟩)))))))
 ·replace H:=H.2 (b1)
  refine zt (za (zg (zc (yp (h:=(zK rfl rfl (jq (hl.grown gr2) rfl (d6.grown gr2) H) ?_))))))
  rintro _ w3 ⟨hg3,out,d8,d9,e5,rfl,hout,d0,ho1,dj1,H⟩
  have hb1:=hout.ge'
  have k2:=hout.base (fun g hg=>Nat.le_trans (qL gr2) (hb1 g hg))
  have gr3:=qI gr2 hg3
  have k3:=k1.g0 hg3
  refine yp (h:=(zh (za (zg (zc (WL.alloc rfl zero4 (fun g2 w4 hB2 hg4 hl2=>qp one4 rfl rfl rfl hB2 (by simp) (fun w5 hB4 hg5=>?_))))))))
  have hB3:Bl w5 g2 4 [.bool false]:=hB4
  have gr5:=qT (qI gr3 hg4) hg5 (Ge.le (Ge.box hl2) (qL gr3))
  have k7:=(k3.g0 hg4).go hg5 (Dj.new k3.lt' (Ge.box hl2))
  have k8:=(k2.grown hg4).go hg5 (Dj.new k2.lt' (Ge.box hl2))
  have k9:=(d0.grown hg4).go hg5 (d0.new (Ge.box hl2))
  refine zh (za (zg (zc (yp (h:=(zd rfl (Yld.mkf rfl) (zK rfl rfl (jB (GB.grown hG gr5) (qL gr5) (apC k8.ge' apN) hS3 hS7 (k8.base (fun _ _=>Nat.zero_le _)) rfl k9 k7 hB3 (apC dj1 apN) (apC (Dj.new k1.lt' hb1) apN) (apC (Dj.new k2.lt' (Ge.box hl2)).symm apN) H) ?_)))))))
  rintro _ w6 ⟨hgl1,ys,c1,rfl,hO1,hl3,hr1,ho2,dj2,H⟩
  have k10:=k9.goL hgl1 (apC dj1 apN)
  exact zh (za (zg (zg (zc (zd rfl (zH qH (hB3.goL hgl1 (apC (Dj.new k2.lt' (Ge.box hl2)).symm apN)) rfl rfl rfl) (zh (za (zE rfl (fun h=>by cases h) (fun _=>zt (za (zg (zc (yp (h:=(yp (h:=(yp (h:=(zh (za (zx (zW rfl rfl rfl ⟨(gr_modL gr5 hgl1 (apC k8.ge' apN)),ys,d8,d9,c1,.nilIface,Er.ok,(by rw [((d0.1.symm.trans (k9.1.trans hl3.symm)).trans hr1.1)]),(hO1.base k8.ge'),hr1,(fun p_ hp_ v0_=>have q_:=v0_; ho2 p_ (fun g_ e_=>Nat.lt_of_lt_of_le (hp_ g_ e_) (qL gr5)) (ho1 p_ (fun g_ e_=>Nat.lt_of_lt_of_le (hp_ g_ e_) (qL gr2)) (q_))),dj2,(ErrR.okR (S:=S) (w:=w6)),H⟩))))))))))))))))))))))
end
 
section
section
variable {α:Type}
theorem getD_setY (l:List α) (i j:Nat) (a d:α):(l.set i a).getD j d=if i=j/\i<l.length then a else l.getD j d:=by
 simp only [List.getD,List.getElem?_set]
 by_cases h:i=j
 ·subst h
  by_cases h2:i<l.length
  ·simp [h2]
  ·simp [h2]
 ·simp [h]
def sySwp (d:α) (l:List α) (i j:Nat):List α:=(l.set i (l.getD j d)).set j (l.getD i d)
theorem sySwp_len (d:α) (l:List α) (i j:Nat):(sySwp d l i j).length=l.length:=by simp [sySwp]
theorem sySwp_get (d:α) (l:List α) {i j:Nat} (hi:i<l.length) (hj:j<l.length) (k:Nat):(sySwp d l i j).getD k d=if k=j then l.getD i d else if k=i then l.getD j d else l.getD k d:=by
 unfold sySwp
 rw [getD_setY,getD_setY]
 simp only [List.length_set]
 by_cases h1:j=k
 ·subst h1; simp [hj]
 ·have h1':¬ k=j:=fun e=>h1 e.symm
  by_cases h2:i=k
  ·subst h2; simp [h1,h1',hi]
  ·have h2':¬ k=i:=fun e=>h2 e.symm
   simp [h1,h2,h1',h2']
theorem set_permY (d:α):∀ (l:List α) (i:Nat) (x:α),i<l.length->(l.getD i d :: l.set i x).Perm (x :: l)
 | [],_,_,h=>by simp at h
 | a :: l,0,x,_=>by simp [List.getD]; exact List.Perm.swap _ _ _
 | a :: l,i+1,x,h=>by
  have:=set_permY d l i x (by simpa using h)
  simp only [List.set_cons_succ]
  refine (List.Perm.swap _ _ _).trans ?_
  refine List.Perm.trans ?_ (List.Perm.swap _ _ _)
  refine List.Perm.cons _ ?_
  simpa [List.getD] using this
theorem sySwp_perm (d:α) (l:List α) {i j:Nat} (hi:i<l.length) (hj:j<l.length):(sySwp d l i j).Perm l:=by
 unfold sySwp
 have h1:=set_permY d l i (l.getD j d) hi
 have h2:=set_permY d (l.set i (l.getD j d)) j (l.getD i d) (by simpa using hj)
 have e:(l.set i (l.getD j d)).getD j d=l.getD j d:=by
  rw [getD_setY]; split <;> rfl
 rw [e] at h2
 exact (List.perm_cons _).1 (h2.trans h1)
structure SyO (d:α) (l l':List α) (a b:Nat):Prop where
 len:l'.length=l.length
 perm:l'.Perm l
 out:∀ k,k<a∨b<=k->l'.getD k d=l.getD k d
 ins:∀ k,a<=k->k<b->∃ k',a<=k'/\k'<b/\l'.getD k d=l.getD k' d
theorem SyO.refl (d:α) (l:List α) (a b:Nat):SyO d l l a b:=⟨rfl,List.Perm.refl _,fun _ _=>rfl,fun k h1 h2=>⟨k,h1,h2,rfl⟩⟩
variable {d:α} {l l' l'':List α} {a b a' b' m n:Nat}
theorem SyO.trans (h:SyO d l l' a b) (k:SyO d l' l'' a b):SyO d l l'' a b :=
 ⟨k.len.trans h.len,k.perm.trans h.perm,fun i hi=>(k.out i hi).trans (h.out i hi),fun i h1 h2=>by
  obtain ⟨j,h3,h4,e⟩:=k.ins i h1 h2
  obtain ⟨j',h5,h6,e'⟩:=h.ins j h3 h4
  exact ⟨j',h5,h6,e.trans e'⟩⟩
theorem SyO.wide (h:SyO d l l' a b) (h1:a'<=a) (h2:b<=b'):SyO d l l' a' b' :=
 ⟨h.len,h.perm,fun i hi=>h.out i (by omega),fun i h3 h4=>by
  by_cases hi:a<=i/\i<b
  ·obtain ⟨j,h5,h6,e⟩:=h.ins i hi.1 hi.2
   exact ⟨j,by omega,by omega,e⟩
  ·exact ⟨i,h3,h4,h.out i (by omega)⟩⟩
theorem SyO.sySwp {i j:Nat} (hi:i<l.length) (hj:j<l.length) (h1:a<=i) (h2:i<b) (h3:a<=j) (h4:j<b):SyO d l (sySwp d l i j) a b :=
 ⟨sySwp_len _ _ _ _,sySwp_perm _ _ hi hj,fun k hk=>by rw [sySwp_get d l hi hj,if_neg (by omega),if_neg (by omega)],fun k h5 h6=>by
  rw [sySwp_get d l hi hj]
  by_cases e1:k=j
  ·rw [if_pos e1]; exact ⟨i,h1,h2,rfl⟩
  ·rw [if_neg e1]
   by_cases e2:k=i
   ·rw [if_pos e2]; exact ⟨j,h3,h4,rfl⟩
   ·rw [if_neg e2]; exact ⟨k,h5,h6,rfl⟩⟩
structure SyR (d:α) (l l':List α) (a m b:Nat):Prop where
 len:l'.length=l.length
 perm:l'.Perm l
 out:∀ k,k<a∨b<=k->l'.getD k d=l.getD k d
 lo:∀ k,a<=k->k<a+(b - m)->l'.getD k d=l.getD (k - a+m) d
 hi:∀ k,a+(b - m)<=k->k<b->l'.getD k d=l.getD (k - (b - m)) d
theorem SyR.toOut (h:SyR d l l' a m b) (h1:a<=m) (h2:m<=b):SyO d l l' a b :=
 ⟨h.len,h.perm,h.out,fun k h3 h4=>by
  by_cases hk:k<a+(b - m)
  ·exact ⟨k - a+m,by omega,by omega,h.lo k h3 hk⟩
  ·exact ⟨k - (b - m),by omega,by omega,h.hi k (by omega) h4⟩⟩
variable (lt:α->α->Bool)
def jw (d:α) (l:List α) (a b:Nat):Prop:=∀ i j,a<=i->i<j->j<b->lt (l.getD j d) (l.getD i d)=false
structure SyOrd:Prop where
 tot:∀ x y,lt x y=true->lt y x=false
 tr:∀ x y z,lt y x=false->lt z y=false->lt z x=false
variable {lt}
theorem jw.sub (h:jw lt d l a b) (h1:a<=a') (h2:b'<=b):jw lt d l a' b':=fun i j h3 h4 h5=>h i j (by omega) h4 (by omega)
theorem jw.join (_ho:SyOrd lt) (h1:jw lt d l a m) (h2:jw lt d l m b) (h:∀ i j,a<=i->i<m->m<=j->j<b->lt (l.getD j d) (l.getD i d)=false):jw lt d l a b:=fun i j h3 h4 h5=>by
 by_cases hj:j<m
 ·exact h1 i j h3 h4 hj
 ·by_cases hi:i<m
  ·exact h i j h3 hi (by omega) h5
  ·exact h2 i j (by omega) h4 h5
theorem jw.out (h:jw lt d l a b) (k:SyO d l l' a' b') (hd:b'<=a∨b<=a'):jw lt d l' a b:=fun i j h1 h2 h3=>by
 rw [k.out i (by omega),k.out j (by omega)]; exact h i j h1 h2 h3
theorem jw.le (ho:SyOrd lt) (h:jw lt d l a b) {i j:Nat} (h1:a<=i) (h2:i<=j) (h3:j<b):lt (l.getD j d) (l.getD i d)=false:=by
 rcases Nat.lt_or_ge i j with h4 | h4
 ·exact h i j h1 h4 h3
 ·have:i=j:=by omega
  subst this
  cases hq:lt (l.getD i d) (l.getD i d) with
  | false=>rfl
  | true=>exact absurd (ho.tot _ _ hq) (by rw [hq]; simp)
structure SyC (lt:α->α->Bool) (d:α) (l l':List α) (a m b s e:Nat):Prop where
 h1:jw lt d l a m
 h2:jw lt d l m b
 rot:SyR d l l' s m e
 hs:a<=s/\s<=m/\m<=e/\e<=b
 x:a<s->e<b->lt (l.getD e d) (l.getD (s - 1) d)=false
 y:s<m->m<e->lt (l.getD (e - 1) d) (l.getD s d)=true
theorem SyC.fin (ho:SyOrd lt) {s e:Nat} (h:SyC lt d l l' a m b s e):jw lt d l' a s/\jw lt d l' s (s+(e - m))/\jw lt d l' (s+(e - m)) e/\jw lt d l' e b/\∀ i j,a<=i->i<s+(e - m)->s+(e - m)<=j->j<b->lt (l'.getD j d) (l'.getD i d)=false:=by
 obtain ⟨h1,h2,rot,hs,hx,hy⟩:=h
 refine ⟨fun i j h3 h4 h5=>?_,fun i j h3 h4 h5=>?_,fun i j h3 h4 h5=>?_,fun i j h3 h4 h5=>?_,fun i j h3 h4 h5 h6=>?_⟩
 ·rw [rot.out i (by omega),rot.out j (by omega)]; exact h1 i j h3 h4 (by omega)
 ·rw [rot.lo i h3 (by omega),rot.lo j (by omega) h5]; exact h2 _ _ (by omega) (by omega) (by omega)
 ·rw [rot.hi i h3 (by omega),rot.hi j (by omega) h5]; exact h1 _ _ (by omega) (by omega) (by omega)
 ·rw [rot.out i (by omega),rot.out j (by omega)]; exact h2 i j (by omega) h4 h5
 ·by_cases hi:i<s
  ·rw [rot.out i (by omega)]
   by_cases hj:j<e
   ·rw [rot.hi j h5 hj]; exact h1 i _ h3 (by omega) (by omega)
   ·rw [rot.out j (by omega)]
    exact ho.tr _ _ _ (ho.tr _ _ _ (h1.le ho (i:=i) (j:=s - 1) h3 (by omega) (by omega)) (hx (by omega) (by omega))) (h2.le ho (i:=e) (j:=j) (by omega) (by omega) h6)
  ·rw [rot.lo i (by omega) h4]
   by_cases hj:j<e
   ·rw [rot.hi j h5 hj]
    exact ho.tr _ _ _ (ho.tr _ _ _ (h2.le ho (i:=i - s+m) (j:=e - 1) (by omega) (by omega) (by omega)) (ho.tot _ _ (hy (by omega) (by omega)))) (h1.le ho (i:=s) (j:=j - (e - m)) (by omega) (by omega) (by omega))
   ·rw [rot.out j (by omega)]; exact h2 _ _ (by omega) (by omega) h6
def SyM (lt:α->α->Bool) (d:α) (l l':List α) (a b:Nat):Prop:=SyO d l l' a b/\jw lt d l' a b
theorem SyC.halves (ho:SyOrd lt) {s e q:Nat} {l1 l2:List α} (h:SyC lt d l l' a m b s e) (hq:q=s+(e - m)) (k1:SyM lt d l' l1 a q) (k2:SyM lt d l1 l2 q b):SyM lt d l l2 a b:=by
 obtain ⟨_,_,_,_,cr⟩:=h.fin ho
 have hs:=h.hs
 refine ⟨((h.rot.toOut hs.2.1 hs.2.2.1).wide hs.1 hs.2.2.2).trans ((k1.1.wide (Nat.le_refl _) (by omega)).trans (k2.1.wide (by omega) (Nat.le_refl _))),jw.join ho (m:=q) (k1.2.out k2.1 (.inr (Nat.le_refl _))) k2.2 fun i j h1 h2 h3 h4=>?_⟩
 rw [k2.1.out i (.inl h2)]
 obtain ⟨j',h5,h6,e'⟩:=k2.1.ins j h3 h4
 rw [e',k1.1.out j' (.inr h5)]
 obtain ⟨i',h7,h8,e''⟩:=k1.1.ins i h1 h2
 rw [e'']
 exact cr i' j' h7 (by omega) (by omega) h6
theorem SyC.done (ho:SyOrd lt) {s e:Nat} (h:SyC lt d l l' a m b s e) (k1:s=a∨e=m) (k2:s=m∨e=b):SyM lt d l l' a b:=by
 obtain ⟨f1,f2,f3,f4,cr⟩:=h.fin ho
 have hs:=h.hs
 refine ⟨(h.rot.toOut hs.2.1 hs.2.2.1).wide hs.1 hs.2.2.2,jw.join ho (m:=s+(e - m)) ?_ ?_ cr⟩
 ·rcases k1 with rfl | rfl
  ·exact f2
  ·simpa using f1
 ·rcases k2 with rfl | rfl
  ·have:s+(e - s)=e:=by omega
   rw [this]; exact f4
  ·exact f3
theorem SyR.zero1 (d:α) (l:List α) (a:Nat):SyR d l l a (a+1) (a+1):=⟨rfl,List.Perm.refl _,fun _ _=>rfl,fun k h1 h2=>absurd h2 (by omega),fun k h1 h2=>by rw [Nat.sub_self,Nat.sub_zero]⟩
theorem SyR.up {k:Nat} (h:SyR d l l' a (a+1) (k+1)) (hk:a<=k) (hl:k+1<l.length):SyR d l (sySwp d l' k (k+1)) a (a+1) (k+2):=by
 have e:=h.len
 have g:=sySwp_get d l' (i:=k) (j:=k+1) (by omega) (by omega)
 refine ⟨(sySwp_len _ _ _ _).trans e,(sySwp_perm d l' (by omega) (by omega)).trans h.perm,fun q hq=>?_,fun q h1 h2=>?_,fun q h1 h2=>?_⟩
 ·rw [g,if_neg (by omega),if_neg (by omega)]; exact h.out q (by omega)
 ·rw [g,if_neg (by omega)]
  by_cases e2:q=k
  ·subst e2; rw [if_pos rfl,h.out (q+1) (by omega)]; congr 1; omega
  ·rw [if_neg e2,h.lo q h1 (by omega)]
 ·have:q=k+1:=by omega
  subst this
  rw [g,if_pos rfl,h.hi k (by omega) (by omega)]; congr 1; omega
theorem SyR.zero2 (d:α) (l:List α) (m:Nat):SyR d l l m m (m+1):=⟨rfl,List.Perm.refl _,fun _ _=>rfl,fun k h1 h2=>by congr 1; omega,fun k h1 h2=>absurd h2 (by omega)⟩
theorem SyR.down {k:Nat} (h:SyR d l l' k m (m+1)) (hk:0<k) (hm:k<=m) (hl:m<l.length):SyR d l (sySwp d l' k (k - 1)) (k - 1) m (m+1):=by
 have e:=h.len
 have g:=sySwp_get d l' (i:=k) (j:=k - 1) (by omega) (by omega)
 refine ⟨(sySwp_len _ _ _ _).trans e,(sySwp_perm d l' (by omega) (by omega)).trans h.perm,fun q hq=>?_,fun q h1 h2=>?_,fun q h1 h2=>?_⟩
 ·rw [g,if_neg (by omega),if_neg (by omega)]; exact h.out q (by omega)
 ·have:q=k - 1:=by omega
  subst this
  rw [g,if_pos rfl,h.lo k (by omega) (by omega)]; congr 1; omega
 ·rw [g,if_neg (by omega)]
  by_cases e2:q=k
  ·subst e2; rw [if_pos rfl,h.out (q - 1) (by omega)]; congr 1; omega
  ·rw [if_neg e2,h.hi q (by omega) h2]
structure SyW (d:α) (l l':List α) (a b n:Nat):Prop where
 len:l'.length=l.length
 perm:l'.Perm l
 get:∀ k,l'.getD k d=if a<=k/\k<a+n then l.getD (k - a+b) d else if b<=k/\k<b+n then l.getD (k - b+a) d else l.getD k d
theorem SyW.zero (d:α) (l:List α) (a b:Nat):SyW d l l a b 0:=⟨rfl,List.Perm.refl _,fun k=>by rw [if_neg (by omega),if_neg (by omega)]⟩
theorem SyW.succ (h:SyW d l l' a b n) (h1:a+n<b) (h2:b+n<l.length):SyW d l (sySwp d l' (a+n) (b+n)) a b (n+1):=by
 have e:=h.len
 refine ⟨(sySwp_len _ _ _ _).trans e,(sySwp_perm d l' (by omega) (by omega)).trans h.perm,fun q=>?_⟩
 rw [sySwp_get d l' (i:=a+n) (j:=b+n) (by omega) (by omega)]
 by_cases e1:q=b+n
 ·rw [if_pos e1,if_neg (by omega),if_pos (by omega),h.get,if_neg (by omega),if_neg (by omega)]; congr 1; omega
 ·rw [if_neg e1]
  by_cases e2:q=a+n
  ·rw [if_pos e2,if_pos (by omega),h.get,if_neg (by omega),if_neg (by omega)]; congr 1; omega
  ·rw [if_neg e2,h.get]
   by_cases e3:a<=q/\q<a+n
   ·rw [if_pos e3,if_pos (by omega)]
   ·rw [if_neg e3,if_neg (c:=a<=q/\q<a+(n+1)) (by omega)]
    by_cases e4:b<=q/\q<b+n
    ·rw [if_pos e4,if_pos (by omega)]
    ·rw [if_neg e4,if_neg (by omega)]
theorem SyR.big {c:List α} {i j:Nat} (h:SyW d l c (m - i) m j) (hj:0<j) (hij:j<i) (hi:i<=m) (k:SyR d c l' (m - i+j) m (m+j)):SyR d l l' (m - i) m (m+j) :=
 ⟨k.len.trans h.len,k.perm.trans h.perm,fun q hq=>by rw [k.out q (by omega),h.get,if_neg (by omega),if_neg (by omega)],
  fun q h1 h2=>by rw [k.out q (by omega),h.get,if_pos (by omega)],
  fun q h1 h2=>by
   by_cases e:q<m - i+j+(m+j - m)
   ·rw [k.lo q (by omega) e,h.get,if_neg (by omega),if_pos (by omega)]; congr 1; omega
   ·rw [k.hi q (by omega) (by omega),h.get,if_neg (by omega),if_neg (by omega)]⟩
theorem SyR.small {c:List α} {i j:Nat} (h:SyW d l c (m - i) (m+j - i) i) (hj:0<i) (hij:i<j) (hi:i<=m) (k:SyR d c l' (m - i) m (m+j - i)):SyR d l l' (m - i) m (m+j) :=
 ⟨k.len.trans h.len,k.perm.trans h.perm,fun q hq=>by rw [k.out q (by omega),h.get,if_neg (by omega),if_neg (by omega)],
  fun q h1 h2=>by
   by_cases e:q<m - i+(m+j - i - m)
   ·rw [k.lo q (by omega) e,h.get,if_neg (by omega),if_neg (by omega)]
   ·rw [k.hi q (by omega) (by omega),h.get,if_pos (by omega)]; congr 1; omega,
  fun q h1 h2=>by rw [k.out q (by omega),h.get,if_neg (by omega),if_pos (by omega)]; congr 1; omega⟩
theorem SyR.even {i:Nat} (h:SyW d l l' (m - i) m i) (hi:i<=m):SyR d l l' (m - i) m (m+i) :=
 ⟨h.len,h.perm,fun q hq=>by rw [h.get,if_neg (by omega),if_neg (by omega)],fun q h1 h2=>by rw [h.get,if_pos (by omega)],fun q h1 h2=>by rw [h.get,if_neg (by omega),if_pos (by omega)]; congr 1; omega⟩
structure SyI (lt:α->α->Bool) (d:α) (l l':List α) (a i j:Nat):Prop where
 out:SyO d l l' a (i+1)
 srt:∀ p q,a<=p->p<q->q<=i->q≠j->lt (l'.getD q d) (l'.getD p d)=false
theorem SyI.start {i:Nat} (h:jw lt d l a i) (hi:a<=i):SyI lt d l l a i i:=⟨SyO.refl _ _ _ _,fun p q h1 h2 h3 h4=>h p q h1 h2 (by omega)⟩
theorem SyI.step (ho:SyOrd lt) {i j:Nat} (h:SyI lt d l l' a i j) (hj:a<j) (hji:j<=i) (hl:i<l.length) (hlt:lt (l'.getD j d) (l'.getD (j - 1) d)=true):SyI lt d l (sySwp d l' j (j - 1)) a i (j - 1):=by
 have e:=h.out.len
 have g:=sySwp_get d l' (i:=j) (j:=j - 1) (by omega) (by omega)
 refine ⟨h.out.trans (SyO.sySwp (by omega) (by omega) (by omega) (by omega) (by omega) (by omega)),fun p q h1 h2 h3 h4=>?_⟩
 rw [g,g,if_neg h4]
 by_cases e1:q=j
 ·rw [if_pos e1]
  by_cases e2:p=j - 1
  ·rw [if_pos e2]; exact ho.tot _ _ hlt
  ·rw [if_neg e2,if_neg (by omega)]; exact h.srt p (j - 1) h1 (by omega) (by omega) (by omega)
 ·rw [if_neg e1]
  by_cases e2:p=j - 1
  ·rw [if_pos e2]; exact h.srt j q (by omega) (by omega) h3 e1
  ·rw [if_neg e2]
   by_cases e3:p=j
   ·rw [if_pos e3]; exact h.srt (j - 1) q (by omega) (by omega) h3 e1
   ·rw [if_neg e3]; exact h.srt p q h1 h2 h3 e1
theorem SyI.fin (ho:SyOrd lt) {i j:Nat} (h:SyI lt d l l' a i j) (hj:a<=j) (hji:j<=i) (hlt:j=a∨lt (l'.getD j d) (l'.getD (j - 1) d)=false):SyM lt d l l' a (i+1):=by
 refine ⟨h.out,fun p q h1 h2 h3=>?_⟩
 by_cases e:q=j
 ·subst e
  rcases hlt with e2 | hlt
  ·omega
  ·by_cases e3:p=q - 1
   ·subst e3; exact hlt
   ·exact ho.tr _ _ _ (h.srt p (q - 1) h1 (by omega) (by omega) (by omega)) hlt
 ·exact h.srt p q h1 h2 (by omega) e
end
end
 
section
open Go Go.RowKit
def lexB:List Int->List Int->Bool
 | [],[]=>false
 | [],_ :: _=>true
 | _ :: _,[]=>false
 | a :: l,b :: m=>decide (a<b) || (decide (a=b) && lexB l m)
theorem lexB_tot:∀ x y,lexB x y=true->lexB y x=false
 | [],[],h=>by cases h
 | [],_ :: _,_=>rfl
 | _ :: _,[],h=>by cases h
 | a :: l,b :: m,h=>by
  simp only [lexB,Bool.or_eq_true,decide_eq_true_eq,Bool.and_eq_true] at h
  simp only [lexB,Bool.or_eq_false_iff,decide_eq_false_iff_not,Bool.and_eq_false_iff]
  rcases h with h | ⟨h,h2⟩
  ·exact ⟨by omega,.inl (by omega)⟩
  ·exact ⟨by omega,.inr (lexB_tot _ _ h2)⟩
theorem lexB_tr:∀ x y z,lexB y x=false->lexB z y=false->lexB z x=false
 | [],_,[],_,_=>rfl
 | [],_,_ :: _,_,_=>rfl
 | _ :: _,[],_,h,_=>by cases h
 | _ :: _,_ :: _,[],_,h=>by cases h
 | a :: l,b :: m,c :: n,h1,h2=>by
  simp only [lexB,Bool.or_eq_false_iff,decide_eq_false_iff_not,Bool.and_eq_false_iff] at h1 h2 |-
  refine ⟨by omega,?_⟩
  by_cases e:c=a
  ·refine .inr (lexB_tr l m n ?_ ?_)
   ·rcases h1.2 with h | h
    ·omega
    ·exact h
   ·rcases h2.2 with h | h
    ·omega
    ·exact h
  ·exact .inl e
def keyQ:PV->List Int
 | .int z=>[z]
 | .tup l=>l
 | _=>[]
def ltP (back:Bool) (x y:PV):Bool:=if back then lexB (keyQ y) (keyQ x) else lexB (keyQ x) (keyQ y)
theorem ltP_ord (back:Bool):SyOrd (ltP back):=by
 cases back
 ·exact ⟨fun x y h=>lexB_tot _ _ h,fun x y z h1 h2=>lexB_tr _ _ _ h1 h2⟩
 ·exact ⟨fun x y h=>lexB_tot _ _ h,fun x y z h1 h2=>lexB_tr (keyQ z) (keyQ y) (keyQ x) h2 h1⟩
def Okv:Bool->PV->Prop
 | true,x=>∃ l,x=.tup l/\l.length<=50
 | false,x=>∃ z,x=.int z
theorem look_M {k deep:Int} {K:Er->Int->Prop} (h1:1<=k) (h2:k<=5000) (hd:deep<=60) (h:K .ok (k - 1)):jx k deep K :=
 ⟨by simp only [In]; omega,fun e=>absurd e (by simp; omega),fun _=>h⟩
theorem cmp0 {x y:Int}:((if x<y then -1 else if y<x then 1 else 0:Int)=0)↔x=y:=by
 by_cases h1:x<y
 ·rw [if_pos h1]; omega
 ·by_cases h2:y<x
  ·rw [if_neg h1,if_pos h2]; omega
  ·rw [if_neg h1,if_neg h2]; omega
theorem cmpN {x y:Int}:((if x<y then -1 else if y<x then 1 else 0:Int)<0)↔x<y:=by
 by_cases h1:x<y
 ·rw [if_pos h1]; omega
 ·by_cases h2:y<x
  ·rw [if_neg h1,if_pos h2]; omega
  ·rw [if_neg h1,if_neg h2]; omega
theorem equal_int {k deep x y:Int} {K:Bool->Er->Int->Prop} (h1:1<=k) (h2:k<=5000) (hd:deep<=60) (h:K (decide (x=y)) .ok (k - 1)):jX k (.int x) (.int y) deep K:=by
 refine look_M h1 h2 hd ⟨fun e=>absurd rfl e,fun _=>⟨by simp,by simp,fun e=>absurd rfl e,fun _=>⟨by simp,fun z e=>?_,fun e=>absurd rfl (e x)⟩⟩⟩
 cases e
 refine ⟨y,rfl,by decide,?_⟩
 dsimp only
 rw [decide_eq_decide.2 cmp0]
 exact h
theorem less_int {k deep x y:Int} {K:Bool->Er->Int->Prop} (h1:1<=k) (h2:k<=5000) (hd:deep<=60) (h:K (decide (x<y)) .ok (k - 1)):j6 k (.int x) (.int y) deep K:=by
 refine look_M h1 h2 hd ⟨fun e=>absurd rfl e,fun _=>⟨by simp,by simp,fun e=>absurd rfl e,fun _=>⟨fun z e=>?_,fun e=>absurd rfl (e x)⟩⟩⟩
 cases e
 refine ⟨y,rfl,by decide,?_⟩
 dsimp only
 rw [decide_eq_decide.2 cmpN]
 exact h
theorem shallow_M {n deep:Int} {K:Er->Prop} (hd:deep<60) (h:K .ok):M_val_shallow n deep K :=
 ⟨fun e=>absurd e (by simp; omega),fun _=>h⟩
theorem map_int {l:List Int} {i:Nat} (h:i<l.length):(l.map PV.int).getD i PV.nil=.int l[i]:=by simp [List.getD,h]
theorem looker_first_M {k:Int} {la lb:List Int} {K:Bool->Er->Int->Prop} (hk:200<=k/\k<=5000) (hla:la.length<=50) (hlb:lb.length<=50) (h:∀ k',K (lexB la lb) .ok k'):jY k (la.map .int) (lb.map .int) 0 K:=by
 intro _ _
 refine ⟨fun t q=>0<=t/\t<=la.length/\t<=lb.length/\q=k - t/\lexB la lb=lexB (la.drop t.toNat) (lb.drop t.toNat),fun t _=>((la.length:Int) - t).toNat,⟨by omega,by omega,by omega,by omega,rfl⟩,?_⟩
 rintro t q ⟨h0,h1,h2,rfl,he⟩
 simp only [List.length_map]
 refine ⟨fun hi=>?_,fun hi=>?_⟩
 ·have ha:t.toNat<la.length:=by split at hi <;> omega
  have hb:t.toNat<lb.length:=by split at hi <;> omega
  rw [List.drop_eq_getElem_cons ha,List.drop_eq_getElem_cons hb] at he
  rw [map_int ha,map_int hb]
  refine ⟨⟨h0,by omega⟩,⟨h0,by omega⟩,by simp only [In]; omega,equal_int (by omega) (by omega) (by omega) ⟨fun e=>absurd rfl e,fun _=>⟨fun hne=>?_,fun heq=>?_⟩⟩⟩
  ·refine ⟨⟨h0,by omega⟩,⟨h0,by omega⟩,by simp only [In]; omega,less_int (by omega) (by omega) (by omega) ?_⟩
   have hx:¬ la[t.toNat]=lb[t.toNat]:=by simpa using hne
   have:lexB la lb=decide (la[t.toNat]<lb[t.toNat]):=by rw [he]; simp [lexB,hx]
   rw [<-this]; exact h _
  ·have hx:la[t.toNat]=lb[t.toNat]:=by simpa using heq
   refine ⟨by simp only [In]; omega,⟨by omega,by omega,by omega,by omega,?_⟩,by first | omega | (dsimp only; omega)⟩
   rw [show (t+1).toNat=t.toNat+1 by omega,he]
   simp [lexB,hx]
 ·refine shallow_M (by omega) ⟨fun e=>absurd rfl e,fun _=>?_⟩
  have:lexB la lb=decide ((la.length:Int)<(lb.length:Int)):=by
   rw [he]
   by_cases e1:t.toNat=la.length
   ·rw [show la.drop t.toNat=[] from List.drop_eq_nil_of_le (by omega)]
    cases hq:lb.drop t.toNat with
    | nil =>
     have:=congrArg List.length hq
     rw [List.length_drop,List.length_nil] at this
     exact (decide_eq_false (by omega)).symm
    | cons c m =>
     have:=congrArg List.length hq
     rw [List.length_drop,List.length_cons] at this
     exact (decide_eq_true (by omega)).symm
   ·have e2:t.toNat=lb.length:=by split at hi <;> omega
    rw [show lb.drop t.toNat=[] from List.drop_eq_nil_of_le (by omega),List.drop_eq_getElem_cons (show t.toNat<la.length by omega)]
    exact (decide_eq_false (by omega)).symm
  rw [<-this]; exact h _
theorem vless_M {t:Bool} {x y:PV} {K:Bool->Er->Prop} (hx:Okv t x) (hy:Okv t y) (h:K (lexB (keyQ x) (keyQ y)) .ok):M_val_Less x y K:=by
 cases t with
 | false =>
  obtain ⟨a,rfl⟩:=hx
  obtain ⟨b,rfl⟩:=hy
  unfold M_val_Less jN
  refine look_M (by omega) (by omega) (by omega) ⟨fun e=>absurd rfl e,fun _=>⟨by simp,by simp,fun e=>absurd rfl e,fun _=>⟨fun z e=>?_,fun e=>absurd rfl (e a)⟩⟩⟩
  cases e
  refine ⟨b,rfl,by decide,?_⟩
  dsimp only
  rw [decide_eq_decide.2 cmpN]
  simpa [keyQ,lexB] using h
 | true =>
  obtain ⟨la,rfl,hla⟩:=hx
  obtain ⟨lb,rfl,hlb⟩:=hy
  unfold M_val_Less jN
  refine look_M (by omega) (by omega) (by omega) ⟨fun e=>absurd rfl e,fun _=>⟨by simp,by simp,fun e=>absurd rfl e,fun _=>⟨fun z e=>(by cases e),fun _=>⟨fun e=>(by cases e),fun _=>⟨fun l e=>?_,fun e=>absurd rfl (e la)⟩⟩⟩⟩⟩
  cases e
  exact ⟨lb,rfl,looker_first_M ⟨by omega,by omega⟩ hla hlb fun _=>h⟩
theorem scmp_M {t back:Bool} {x y:PV} {K:Int->Prop} (hx:Okv t x) (hy:Okv t y) (h:K (if ltP back x y then -1 else if ltP back y x then 1 else 0)):jE x y back false K:=by
 refine ⟨fun a b=>(back=true->a=y/\b=x)/\(back=false->a=x/\b=y),⟨fun e=>⟨fun _=>⟨rfl,rfl⟩,fun e2=>absurd (e.symm.trans e2) (by simp)⟩,fun e=>⟨fun e2=>absurd (e.symm.trans e2) (by simp),fun _=>⟨rfl,rfl⟩⟩⟩,fun a b hab=>?_⟩
 have key:Okv t a/\Okv t b/\lexB (keyQ a) (keyQ b)=ltP back x y/\lexB (keyQ b) (keyQ a)=ltP back y x:=by
  cases back with
  | true=>obtain ⟨rfl,rfl⟩:=hab.1 rfl; exact ⟨hy,hx,rfl,rfl⟩
  | false=>obtain ⟨rfl,rfl⟩:=hab.2 rfl; exact ⟨hx,hy,rfl,rfl⟩
 obtain ⟨ha,hb,e1,e2⟩:=key
 refine vless_M ha hb (vless_M hb ha ⟨fun e=>absurd e (by simp),fun _=>⟨fun e=>?_,fun e=>⟨fun e'=>?_,fun e'=>?_⟩⟩⟩)
 ·rw [e1] at e; rw [e,if_pos rfl] at h; exact h
 ·rw [e1] at e; rw [e2] at e'; rw [e,e',if_neg (by simp),if_pos rfl] at h; exact h
 ·rw [e1] at e; rw [e2] at e'; rw [e,e',if_neg (by simp),if_neg (by simp)] at h; exact h
theorem b3_neg {p q:Bool}:((if p=true then -1 else if q=true then 1 else 0:Int)<0)↔p=true:=by
 cases p <;> cases q <;> simp
abbrev Okl (t:Bool) (l:List PV):Prop:=∀ x∈l,Okv t x
theorem Okl.at {t:Bool} {l:List PV} (h:Okl t l) {i:Nat} (hi:i<l.length):Okv t (l.getD i PV.nil):=by
 have:l.getD i PV.nil=l[i]:=by simp [List.getD,hi]
 rw [this]; exact h _ (List.getElem_mem hi)
theorem Okl.perm {t:Bool} {l m:List PV} (h:Okl t l) (k:m.Perm l):Okl t m:=fun x hx=>h x (k.mem_iff.1 hx)
variable {t back:Bool} {data:List PV} {K:List PV->Prop}
theorem insertion_M {a b:Int} (hP:Okl t data) (h0:0<=a) (hab:a<=b) (hb:b<=data.length) (hl:data.length<=1000) (h:∀ d',SyM (ltP back) PV.nil data d' a.toNat b.toNat->K d') :
  qS data a b back false K:=by
 intro _
 refine ⟨by simp only [In]; omega,fun i d2=>a+1<=i/\(i<=b∨i=a+1)/\SyM (ltP back) PV.nil data d2 a.toNat (min i b).toNat,fun i _=>(b - i).toNat,⟨by omega,.inr rfl,SyO.refl _ _ _ _,fun i j h1 h2 h3=>by omega⟩,?_⟩
 rintro i d2 ⟨h1,h2,h3⟩ hlen
 refine ⟨fun hi=>?_,fun hi=>?_⟩
 ·rw [Int.min_eq_left (by omega)] at h3
  refine ⟨fun j d3=>a<=j/\j<=i/\SyI (ltP back) PV.nil d2 d3 a.toNat i.toNat j.toNat,fun j _=>j.toNat,⟨by omega,by omega,SyI.start h3.2 (by omega)⟩,?_⟩
  rintro j d3 ⟨k1,k2,k3⟩ hlen3
  have hP3:Okl t d3:=hP.perm (k3.out.perm.trans h3.1.perm)
  refine ⟨fun q=>q=(decide (a<j) && ltP back (d3.getD j.toNat PV.nil) (d3.getD (j - 1).toNat PV.nil)),⟨fun hj=>?_,fun hj=>?_⟩,fun q hq=>⟨fun hq1=>?_,fun hq0=>?_⟩⟩
  ·have hj:=of_decide_eq_true hj
   refine ⟨⟨by omega,by omega⟩,by simp only [In]; omega,⟨by omega,by omega⟩,scmp_M (hP3.at (by omega)) (hP3.at (by omega)) ?_⟩
   dsimp only
   generalize ltP back (d3.getD j.toNat PV.nil) (d3.getD (j - 1).toNat PV.nil)=p
   generalize ltP back (d3.getD (j - 1).toNat PV.nil) (d3.getD j.toNat PV.nil)=q
   cases p <;> cases q <;> simp [hj]
  ·rw [hj]; rfl
  ·rw [hq,Bool.and_eq_true] at hq1
   have hj:=of_decide_eq_true hq1.1
   have ej:(j - 1).toNat=j.toNat - 1:=by omega
   refine ⟨by simp only [In]; omega,by simp only [In]; omega,⟨by omega,by omega⟩,⟨by omega,by omega⟩,⟨by omega,by omega⟩,⟨by omega,by omega⟩,by simp only [In]; omega,⟨by omega,by omega,?_⟩,by first | omega | (dsimp only; omega)⟩
   rw [ej] at hq1 |-
   exact k3.step (ltP_ord back) (by omega) (by omega) (by omega) hq1.2
  ·rw [hq,Bool.and_eq_false_iff] at hq0
   refine ⟨by simp only [In]; omega,⟨by omega,by omega,?_⟩,by first | omega | (dsimp only; omega)⟩
   rw [Int.min_eq_left (show i+1<=b by omega),show (i+1).toNat=i.toNat+1 by omega]
   have f:=k3.fin (ltP_ord back) (by omega) (by omega) (by
    rcases hq0 with e | e
    ·have:=of_decide_eq_false e; exact .inl (by omega)
    ·rw [show (j - 1).toNat=j.toNat - 1 by omega] at e; exact .inr e)
   exact ⟨(h3.1.wide (Nat.le_refl _) (by omega)).trans f.1,f.2⟩
 ·rw [Int.min_eq_right (by omega)] at h3
  exact h _ h3
theorem swapRange_M {a b n:Int} (h0:0<=a) (hn:0<=n) (hab:a+n<=b) (hb:b+n<=data.length) (hl:data.length<=1000) (h:∀ d',SyW PV.nil data d' a.toNat b.toNat n.toNat->K d') :
  qQ data a b n back false K:=by
 intro _
 refine ⟨fun i d2=>0<=i/\i<=n/\SyW PV.nil data d2 a.toNat b.toNat i.toNat,fun i _=>(n - i).toNat,⟨by omega,hn,SyW.zero _ _ _ _⟩,?_⟩
 rintro i d2 ⟨h1,h2,h3⟩ hlen
 refine ⟨fun hi=>?_,fun hi=>?_⟩
 ·have e1:(a+i).toNat=a.toNat+i.toNat:=by omega
  have e2:(b+i).toNat=b.toNat+i.toNat:=by omega
  refine ⟨by simp only [In]; omega,by simp only [In]; omega,by simp only [In]; omega,⟨by omega,by omega⟩,by simp only [In]; omega,⟨by omega,by omega⟩,⟨by omega,by omega⟩,⟨by omega,by omega⟩,by simp only [In]; omega,⟨by omega,by omega,?_⟩,by first | omega | (dsimp only; omega)⟩
  rw [show (i+1).toNat=i.toNat+1 by omega,e1,e2]
  exact h3.succ (by omega) (by omega)
 ·have:i=n:=by omega
  subst this; exact h _ h3
theorem rotate_M {a m b:Int} (h0:0<=a) (hm:a<m) (hb:m<b) (hbl:b<=data.length) (hl:data.length<=1000) (h:∀ d',SyR PV.nil data d' a.toNat m.toNat b.toNat->K d') :
  q7 data a m b back false K:=by
 intro _
 refine ⟨by simp only [In]; omega,by simp only [In]; omega,fun i j d2=>0<i/\0<j/\i<=m - a/\j<=b - m/\d2.length=data.length/\∀ d',SyR PV.nil d2 d' (m.toNat - i.toNat) m.toNat (m.toNat+j.toNat)->SyR PV.nil data d' a.toNat m.toNat b.toNat,fun i j _=>(i+j).toNat,⟨by omega,by omega,by omega,by omega,rfl,fun d' k=>?_⟩,?_⟩
 ·rwa [show m.toNat - (m - a).toNat=a.toNat by omega,show m.toNat+(b - m).toNat=b.toNat by omega] at k
 ·rintro i j d2 ⟨h1,h2,h3,h4,hlen2,h5⟩ hlen
  have em:(m - i).toNat=m.toNat - i.toNat:=by omega
  refine ⟨fun hij=>⟨fun hji=>?_,fun hji=>?_⟩,fun hij=>?_⟩
  ·refine ⟨by simp only [In]; omega,swapRange_M (by omega) (by omega) (by omega) (by omega) (by omega) fun c hc=>⟨by simp only [In]; omega,⟨by omega,by omega,by omega,by omega,hc.len.trans hlen2,fun d' k=>h5 d' ?_⟩,by first | omega | (dsimp only; omega)⟩⟩
   rw [em] at hc
   refine SyR.big hc (by omega) (by omega) (by omega) ?_
   rwa [show m.toNat - (i - j).toNat=m.toNat - i.toNat+j.toNat by omega] at k
  ·refine ⟨by simp only [In]; omega,by simp only [In]; omega,by simp only [In]; omega,swapRange_M (by omega) (by omega) (by omega) (by omega) (by omega) fun c hc=>⟨by simp only [In]; omega,⟨by omega,by omega,by omega,by omega,hc.len.trans hlen2,fun d' k=>h5 d' ?_⟩,by first | omega | (dsimp only; omega)⟩⟩
   rw [em,show (m+j - i).toNat=m.toNat+j.toNat - i.toNat by omega] at hc
   refine SyR.small hc (by omega) (by omega) (by omega) ?_
   rwa [show m.toNat+(j - i).toNat=m.toNat+j.toNat - i.toNat by omega] at k
  ·subst hij
   refine ⟨by simp only [In]; omega,swapRange_M (by omega) (by omega) (by omega) (by omega) (by omega) fun c hc=>h _ (h5 _ ?_)⟩
   rw [em] at hc
   exact SyR.even hc (by omega)
end
 
section
open Go Go.RowKit
section
variable {α:Type} {d:α} {l l':List α} {a b m:Nat} {lt:α->α->Bool}
theorem SyM.ahead (ho:SyOrd lt) {e:Nat} (h2:jw lt d l (a+1) b) (rot:SyR d l l' a (a+1) e) (h3:a+1<=e) (h4:e<=b) (c1:e=a+1∨lt (l.getD (e - 1) d) (l.getD a d)=true) (c2:e=b∨lt (l.getD e d) (l.getD a d)=false):SyM lt d l l' a b:=by
 refine ⟨(rot.toOut (by omega) (by omega)).wide (Nat.le_refl _) h4,fun i j h5 h6 h7=>?_⟩
 have lo:∀ k,a<=k->k<e - 1->l'.getD k d=l.getD (k+1) d:=fun k q1 q2=>by rw [rot.lo k q1 (by omega)]; congr 1; omega
 have at1:l'.getD (e - 1) d=l.getD a d:=by rw [rot.hi (e - 1) (by omega) (by omega)]; congr 1; omega
 have lta:∀ k,a+1<=k->k<e->lt (l.getD a d) (l.getD k d)=false:=fun k q1 q2=>by
  rcases c1 with c1 | c1
  ·omega
  ·exact ho.tr _ _ _ (h2.le ho (i:=k) (j:=e - 1) q1 (by omega) (by omega)) (ho.tot _ _ c1)
 have gta:∀ k,e<=k->k<b->lt (l.getD k d) (l.getD a d)=false:=fun k q1 q2=>by
  rcases c2 with c2 | c2
  ·omega
  ·exact ho.tr _ _ _ c2 (h2.le ho (i:=e) (j:=k) (by omega) q1 q2)
 rcases Nat.lt_trichotomy j (e - 1) with hj | hj | hj
 ·rw [lo i h5 (by omega),lo j (by omega) hj]; exact h2 _ _ (by omega) (by omega) (by omega)
 ·subst hj; rw [at1,lo i h5 h6]; exact lta _ (by omega) (by omega)
 ·rw [rot.out j (by omega)]
  rcases Nat.lt_trichotomy i (e - 1) with hi | hi | hi
  ·rw [lo i h5 hi]; exact h2 _ _ (by omega) (by omega) (by omega)
  ·subst hi; rw [at1]; exact gta _ (by omega) h7
  ·rw [rot.out i (by omega)]; exact h2 _ _ (by omega) h6 h7
theorem SyM.behind (ho:SyOrd lt) {e:Nat} (h1:jw lt d l a m) (rot:SyR d l l' e m (m+1)) (h3:a<=e) (h4:e<=m) (c1:e=a∨lt (l.getD m d) (l.getD (e - 1) d)=false) (c2:e=m∨lt (l.getD m d) (l.getD e d)=true):SyM lt d l l' a (m+1):=by
 refine ⟨(rot.toOut (by omega) (by omega)).wide h3 (Nat.le_refl _),fun i j h5 h6 h7=>?_⟩
 have at1:l'.getD e d=l.getD m d:=by rw [rot.lo e (by omega) (by omega)]; congr 1; omega
 have hi1:∀ k,e<k->k<m+1->l'.getD k d=l.getD (k - 1) d:=fun k q1 q2=>by rw [rot.hi k (by omega) q2]; congr 1; omega
 have lta:∀ k,a<=k->k<e->lt (l.getD m d) (l.getD k d)=false:=fun k q1 q2=>by
  rcases c1 with c1 | c1
  ·omega
  ·exact ho.tr _ _ _ (h1.le ho (i:=k) (j:=e - 1) q1 (by omega) (by omega)) c1
 have gta:∀ k,e<=k->k<m->lt (l.getD k d) (l.getD m d)=false:=fun k q1 q2=>by
  rcases c2 with c2 | c2
  ·omega
  ·exact ho.tr _ _ _ (ho.tot _ _ c2) (h1.le ho (i:=e) (j:=k) (by omega) q1 q2)
 rcases Nat.lt_trichotomy i e with hi | hi | hi
 ·rw [rot.out i (by omega)]
  rcases Nat.lt_trichotomy j e with hj | hj | hj
  ·rw [rot.out j (by omega)]; exact h1 _ _ h5 h6 (by omega)
  ·subst hj; rw [at1]; exact lta _ h5 hi
  ·rw [hi1 j hj h7]; exact h1 _ _ h5 (by omega) (by omega)
 ·subst hi; rw [at1,hi1 j h6 h7]; exact gta _ (by omega) (by omega)
 ·rw [hi1 i hi (by omega),hi1 j (by omega) h7]; exact h1 _ _ (by omega) (by omega) (by omega)
end
theorem shr_half {x:Int} (h:0<=x):shrV .u64 x 1=x / 2:=by
 unfold shrV
 rw [show min 1 IntKind.u64.bits=1 from rfl,Int.fdiv_eq_ediv_of_nonneg _ (by omega)]; rfl
theorem sym_M {t back:Bool}:∀ (n:Nat) {data:List PV} {K:List PV->Prop} {a m b:Int},b - a<=n->Okl t data->0<=a->a<m->m<b->b<=data.length->data.length<=1000->jw (ltP back) PV.nil data a.toNat m.toNat->jw (ltP back) PV.nil data m.toNat b.toNat ->
  (∀ d',SyM (ltP back) PV.nil data d' a.toNat b.toNat->K d')->qU n data a m b back false K
 | 0,_,_,_,_,_,hn,_,_,_,_,_,_,_,_,_=>by omega
 | n+1,data,K,a,m,b,hn,hP,h0,ham,hmb,hb,hl,s1,s2,h=>by
  have ho:=ltP_ord back
  show qY _ _ _ _ _ _ _ _
  intro _
  refine ⟨by simp only [In]; omega,fun e1=>?_,fun e1=>⟨by simp only [In]; omega,fun e2=>?_,fun e2=>?_⟩⟩
  ·
   have em:m.toNat=a.toNat+1:=by omega
   refine ⟨fun i j=>m<=i/\i<=j/\j<=b/\(i=m∨ltP back (data.getD (i.toNat - 1) PV.nil) (data.getD a.toNat PV.nil)=true)/\(j=b∨ltP back (data.getD j.toNat PV.nil) (data.getD a.toNat PV.nil)=false),fun i j=>(j - i).toNat,⟨by omega,by omega,by omega,.inl rfl,.inl rfl⟩,?_⟩
   rintro i j ⟨h1,h2,h3,c1,c2⟩
   refine ⟨fun hij=>?_,fun hij=>?_⟩
   ·have hs:=shr_half (x:=i+j) (by omega)
    rw [hs]
    refine ⟨by simp only [In]; omega,by simp only [In]; omega,by simp only [In]; omega,⟨by omega,by omega⟩,⟨by omega,by omega⟩,scmp_M (hP.at (by omega)) (hP.at (by omega)) ⟨fun e=>?_,fun e=>?_⟩⟩
    ·rw [b3_neg] at e
     refine ⟨by simp only [In]; omega,⟨by omega,by omega,by omega,.inr ?_,c2⟩,by first | omega | (dsimp only; omega)⟩
     rw [show ((i+j) / 2+1).toNat - 1=((i+j) / 2).toNat by omega]; exact e
    ·rw [b3_neg] at e
     exact ⟨⟨by omega,by omega,by omega,c1,.inr (by simpa using e)⟩,by first | omega | (dsimp only; omega)⟩
   ·have eij:i=j:=by omega
    subst eij
    refine ⟨fun k d2=>a<=k/\k<=i - 1/\SyR PV.nil data d2 a.toNat (a.toNat+1) (k.toNat+1),fun k _=>(i - k).toNat,⟨by omega,by omega,SyR.zero1 _ _ _⟩,?_⟩
    rintro k d2 ⟨k1,k2,k3⟩ hlen
    refine ⟨by simp only [In]; omega,fun hk=>?_,fun hk=>?_⟩
    ·refine ⟨by simp only [In]; omega,by simp only [In]; omega,⟨by omega,by omega⟩,⟨by omega,by omega⟩,⟨by omega,by omega⟩,⟨by omega,by omega⟩,by simp only [In]; omega,⟨by omega,by omega,?_⟩,by first | omega | (dsimp only; omega)⟩
     rw [show (k+1).toNat=k.toNat+1 by omega]
     exact k3.up (by omega) (by omega)
    ·have ek:k.toNat+1=i.toNat:=by omega
     rw [ek] at k3
     rw [em] at s2
     refine h _ (SyM.ahead ho s2 k3 (by omega) (by omega) ?_ ?_)
     ·rcases c1 with c | c
      ·left; omega
      ·exact .inr c
     ·rcases c2 with c | c
      ·left; omega
      ·exact .inr c
  ·
   have eb:b.toNat=m.toNat+1:=by omega
   refine ⟨fun i j=>a<=i/\i<=j/\j<=m/\(i=a∨ltP back (data.getD m.toNat PV.nil) (data.getD (i.toNat - 1) PV.nil)=false)/\(j=m∨ltP back (data.getD m.toNat PV.nil) (data.getD j.toNat PV.nil)=true),fun i j=>(j - i).toNat,⟨by omega,by omega,by omega,.inl rfl,.inl rfl⟩,?_⟩
   rintro i j ⟨h1,h2,h3,c1,c2⟩
   refine ⟨fun hij=>?_,fun hij=>?_⟩
   ·have hs:=shr_half (x:=i+j) (by omega)
    rw [hs]
    refine ⟨by simp only [In]; omega,by simp only [In]; omega,by simp only [In]; omega,⟨by omega,by omega⟩,⟨by omega,by omega⟩,scmp_M (hP.at (by omega)) (hP.at (by omega)) ⟨fun e=>?_,fun e=>?_⟩⟩
    ·rw [b3_neg] at e
     refine ⟨by simp only [In]; omega,⟨by omega,by omega,by omega,.inr ?_,c2⟩,by first | omega | (dsimp only; omega)⟩
     rw [show ((i+j) / 2+1).toNat - 1=((i+j) / 2).toNat by omega]; simpa using e
    ·rw [b3_neg] at e
     exact ⟨⟨by omega,by omega,by omega,c1,.inr e⟩,by first | omega | (dsimp only; omega)⟩
   ·have eij:i=j:=by omega
    subst eij
    refine ⟨fun k d2=>i<=k/\k<=m/\SyR PV.nil data d2 k.toNat m.toNat (m.toNat+1),fun k _=>k.toNat,⟨by omega,by omega,SyR.zero2 _ _ _⟩,?_⟩
    rintro k d2 ⟨k1,k2,k3⟩ hlen
    refine ⟨fun hk=>?_,fun hk=>?_⟩
    ·refine ⟨by simp only [In]; omega,by simp only [In]; omega,⟨by omega,by omega⟩,⟨by omega,by omega⟩,⟨by omega,by omega⟩,⟨by omega,by omega⟩,by simp only [In]; omega,⟨by omega,by omega,?_⟩,by first | omega | (dsimp only; omega)⟩
     rw [show (k - 1).toNat=k.toNat - 1 by omega]
     exact k3.down (by omega) (by omega) (by omega)
    ·have ek:k=i:=by omega
     subst ek
     rw [eb] at h
     refine h _ (SyM.behind ho s1 k3 (by omega) (by omega) ?_ ?_)
     ·rcases c1 with c | c
      ·left; omega
      ·exact .inr c
     ·rcases c2 with c | c
      ·left; omega
      ·exact .inr c
  ·have hs:=shr_half (x:=a+b) (by omega)
   rw [hs]
   generalize hmid:(a+b) / 2=mid
   have hmid1:a<mid/\mid<b:=by omega
   refine ⟨by simp only [In]; omega,by simp only [In]; omega,by simp only [In]; omega,by simp only [In]; omega,fun lo hi=>(mid<m/\lo=mid+m - b/\hi=mid)∨(m<=mid/\lo=a/\hi=m),⟨fun e=>⟨by simp only [In]; omega,.inl ⟨e,rfl,rfl⟩⟩,fun e=>.inr ⟨by omega,rfl,rfl⟩⟩,fun lo hi hlh=>?_⟩
   have hlo:a<=lo/\lo<=hi/\hi<=m/\hi<=mid/\mid+m - lo<=b/\m<=mid+m - hi:=by
    rcases hlh with ⟨e,rfl,rfl⟩ | ⟨e,rfl,rfl⟩ <;> omega
   refine ⟨by simp only [In]; omega,fun i j=>lo<=i/\i<=j/\j<=hi/\(i=lo∨ltP back (data.getD (mid+m - i).toNat PV.nil) (data.getD (i.toNat - 1) PV.nil)=false)/\(j=hi∨ltP back (data.getD ((mid+m - j).toNat - 1) PV.nil) (data.getD j.toNat PV.nil)=true),fun i j=>(j - i).toNat,⟨by omega,by omega,by omega,.inl rfl,.inl rfl⟩,?_⟩
   rintro i j ⟨h1,h2,h3,c1,c2⟩
   refine ⟨fun hij=>?_,fun hij=>?_⟩
   ·have hs:=shr_half (x:=i+j) (by omega)
    rw [hs]
    refine ⟨by simp only [In]; omega,by simp only [In]; omega,by simp only [In]; omega,by simp only [In]; omega,⟨by omega,by omega⟩,⟨by omega,by omega⟩,scmp_M (hP.at (by omega)) (hP.at (by omega)) ⟨fun e=>?_,fun e=>?_⟩⟩
    ·rw [b3_neg] at e
     refine ⟨by simp only [In]; omega,⟨by omega,by omega,by omega,.inr ?_,c2⟩,by first | omega | (dsimp only; omega)⟩
     rw [show ((i+j) / 2+1).toNat - 1=((i+j) / 2).toNat by omega,show mid+m - ((i+j) / 2+1)=mid+m - 1 - (i+j) / 2 by omega]; simpa using e
    ·rw [b3_neg] at e
     refine ⟨⟨by omega,by omega,by omega,c1,.inr ?_⟩,by first | omega | (dsimp only; omega)⟩
     rw [show (mid+m - (i+j) / 2).toNat - 1=(mid+m - 1 - (i+j) / 2).toNat by omega]; exact e
   ·have eij:i=j:=by omega
    subst eij
    have cut:∀ d',SyR PV.nil data d' i.toNat m.toNat (mid+m - i).toNat->SyC (ltP back) PV.nil data d' a.toNat m.toNat b.toNat i.toNat (mid+m - i).toNat:=fun d' rot=>by
     refine ⟨s1,s2,rot,by omega,fun x1 x2=>?_,fun y1 y2=>?_⟩
     ·rcases c1 with c | c
      ·exfalso
       rcases hlh with ⟨e,rfl,rfl⟩ | ⟨e,rfl,rfl⟩ <;> omega
      ·exact c
     ·rcases c2 with c | c
      ·exfalso
       rcases hlh with ⟨e,rfl,rfl⟩ | ⟨e,rfl,rfl⟩ <;> omega
      ·exact c
    refine ⟨by simp only [In]; omega,fun xs=>SyR PV.nil data xs i.toNat m.toNat (mid+m - i).toNat,⟨fun e=>?_,fun e=>?_⟩,fun xs hxs hlen=>?_⟩
    ·simp only [Bool.and_eq_true,decide_eq_true_eq] at e
     exact rotate_M (by omega) (by omega) (by omega) (by omega) hl fun d' k=>k
    ·simp only [Bool.and_eq_false_iff,decide_eq_false_iff_not] at e
     rcases Int.lt_or_le i m with e3 | e3
     ·have e4:(mid+m - i).toNat=m.toNat:=by omega
      rw [e4]
      exact ⟨rfl,List.Perm.refl _,fun _ _=>rfl,fun k q1 q2=>by omega,fun k q1 q2=>by congr 1; omega⟩
     ·have e4:i.toNat=m.toNat:=by omega
      rw [e4]
      exact ⟨rfl,List.Perm.refl _,fun _ _=>rfl,fun k q1 q2=>by congr 1; omega,fun k q1 q2=>by omega⟩
    ·have hC:=cut xs hxs
     obtain ⟨f1,f2,f3,f4,_⟩:=hC.fin ho
     have eq:mid.toNat=i.toNat+((mid+m - i).toNat - m.toNat):=by omega
     have hPx:Okl t xs:=hP.perm hxs.perm
     rw [<-eq] at f2 f3
     refine ⟨fun ys=>SyM (ltP back) PV.nil xs ys a.toNat mid.toNat,⟨fun e=>?_,fun e=>?_⟩,fun ys hys hlen2=>⟨fun e=>?_,fun e=>?_⟩⟩
     ·simp only [Bool.and_eq_true,decide_eq_true_eq] at e
      exact sym_M n (by omega) hPx h0 e.1 e.2 (by omega) (by omega) f1 f2 fun d' k=>k
     ·simp only [Bool.and_eq_false_iff,decide_eq_false_iff_not] at e
      refine ⟨SyO.refl _ _ _ _,?_⟩
      rcases Int.lt_or_le a i with e3 | e3
      ·rwa [show i.toNat=mid.toNat by omega] at f1
      ·rwa [show i.toNat=a.toNat by omega] at f2
     ·simp only [Bool.and_eq_true,decide_eq_true_eq] at e
      refine sym_M n (by omega) (hPx.perm hys.1.perm) (by omega) e.1 e.2 (by omega) (by omega) (f3.out hys.1 (.inl (by omega))) (f4.out hys.1 (.inl (by omega))) fun d' k=>h _ ?_
      exact hC.halves ho eq hys k
     ·simp only [Bool.and_eq_false_iff,decide_eq_false_iff_not] at e
      refine h _ (hC.halves ho eq hys ⟨SyO.refl _ _ _ _,?_⟩)
      rcases Int.lt_or_le mid (mid+m - i) with e3 | e3
      ·have:=f3.out hys.1 (.inl (Nat.le_refl _))
       rwa [show (mid+m - i).toNat=b.toNat by omega] at this
      ·have:=f4.out hys.1 (.inl (by omega))
       rwa [show (mid+m - i).toNat=mid.toNat by omega] at this
end
 
section
open Go Go.RowKit
theorem txt_len {z:Int} (h : -100000000<z/\z<100000000):(txt z).length<=9:=by
 have:=dd_len 8 z.natAbs (by omega)
 unfold txt
 split
 ·simp
 ·split <;> simp <;> omega
theorem full_M {p:List UInt8} {K:Bool->Prop} (hp:p.length<65536) (h:K false):jt p K:=by
 intro _
 rw [decide_eq_false (by omega)]; exact h
theorem put_M {p t:List UInt8} {K:List UInt8->Prop} (hp:p.length+t.length<=65536) (h:K (p++t)):jb p [t] K:=by
 intro _ _
 refine ⟨fun i q=>(i=0/\q=p)∨(i=1/\q=p++t),fun i _=>(1 - i).toNat,.inl ⟨rfl,rfl⟩,?_⟩
 rintro i q (⟨rfl,rfl⟩ | ⟨rfl,rfl⟩)
 ·have e:(if (65536:Int) - (q.length:Int)<(t.length:Int) then (65536:Int) - (q.length:Int) else (t.length:Int)).toNat=t.length:=by
   split <;> omega
  refine ⟨fun _=>⟨by simp,by simp only [In]; omega,?_,?_,by simp only [In]; omega,?_,by dsimp only; omega⟩,fun hn=>absurd (by simp) hn⟩
  ·simp only [Int.toNat_zero,List.getD_cons_zero]; split <;> omega
  ·simp only [Int.toNat_zero,List.getD_cons_zero,e,List.take_length]; omega
  ·simp only [Int.toNat_zero,List.getD_cons_zero,e,List.take_length]
   exact .inr ⟨by omega,by first | rfl | trivial⟩
 ·exact ⟨fun hl=>absurd hl (by simp),fun _=>h⟩
theorem text_M {z:Int} {K:List UInt8->Prop} (h:K (txt z)):kh z 3 K:=⟨by decide,h⟩
theorem vrepr_int {z:Int} {K:List UInt8->Prop} (hp:(txt z).length<=65000) (h:K (txt z)):jM (.int z) K:=by
 intro _
 refine full_M (by decide) ⟨fun e=>(by cases e),fun _=>⟨fun e=>(by cases e),fun z' e=>?_,fun e=>absurd rfl (e z)⟩⟩
 cases e
 exact text_M (put_M (by simp; omega) h)
theorem txt_dig {d:Nat} (h0:0<d) (h1:d<10):txt (d:Int)=[UInt8.ofNat (48+d)]:=by
 unfold txt
 rw [if_neg (by omega),if_neg (by omega),Int.natAbs_natCast,dd_pos h0,show d / 10=0 by omega,dd_zero]
 simp only [dc,show d % 10=d by omega]
 rfl
end
 
section
open Go Go.RowKit
attribute [local irreducible] WL WC WX WQ WK WJ Yld Eff Ef0 Fn
def M_smithysee_Alike (a:Er) (b:Er) (K:Bool->Prop):Prop :=
 ((((decide (a=Er.ok)) || (decide (b=Er.ok)))=true->K ((decide (a=Er.ok)) && (decide (b=Er.ok)))) /\
 (((decide (a=Er.ok)) || (decide (b=Er.ok)))=false->(¬ (a=Er.ok/\b=Er.ok)/\((∀ p n,a≠Er.at_ p n)∨∀ p n,b≠Er.at_ p n)) /\
 K (decide (a=b))))
def jK (K:Int->Bool->Int->Bool->(List UInt8)->Prop):Prop :=
 K (0:Int) false (0:Int) false ([]:List UInt8)
def jy (code:Int) (K:Int->Bool->Int->Bool->(List UInt8)->Prop):Prop :=
 K code false (0:Int) false ([]:List UInt8)
def j7 (code:Int) (pos:Int) (K:Int->Bool->Int->Bool->(List UInt8)->Prop):Prop :=
 ((code=(0:Int)->jK (fun (a2:Int) (a0:Bool) (a4:Int) (a1:Bool) (a3:List UInt8) =>
 K a2 a0 a4 a1 a3)) /\
 (¬ (code=(0:Int))->K code true pos false ([]:List UInt8)))
def jP (a_Code:Int) (a_Placed:Bool) (a_Pos:Int) (a_Filed:Bool) (a_File:List UInt8) (b_Code:Int) (b_Placed:Bool) (b_Pos:Int) (b_Filed:Bool) (b_File:List UInt8) (K:Bool->Prop):Prop :=
 K (((((decide (a_Code=b_Code)) && (a_Placed == b_Placed)) && (decide (a_Pos=b_Pos))) && (a_Filed == b_Filed)) && (decide (a_File=b_File)))
set_option maxHeartbeats 8000000 in
theorem W_smithysee_Alike {S:List Nat} {w:World} {v_a:Value} {a:Er} {v_b:Value} {b:Er} {K:Bool->Prop} (ha:ErrR S w v_a a) (hb:ErrR S w v_b b) (H:M_smithysee_Alike a b K):Fn Tryz.prog 217 ⟨[v_a,v_b]⟩ w (fun v w'=>w=w'/\∃ (r:Bool),v=.bool r/\K r):=by
 unfold M_smithysee_Alike at H
 refine Fn.enter (by kernel_rfl) Tryz.func217 rfl Tryz.ntmps217 rfl ?_
 refine zg (zc (yp (h:=(zh (za (zg (zg (zc (yp (h:=(zd rfl (qq Tryz.underlying43 ha rfl) (yp (h:=(zV 3 (fun L' w'=>∃ q1:Bool,L'=[(10,.bool q1),(0,v_a),(1,v_b)]/\((decide (a=Er.ok)) || (decide (b=Er.ok)))=q1/\w=w') ?_ (fun hQ=>?_)))))))))))))))
 ·rintro _ _ ⟨q1,rfl,rfl,rfl⟩
  refine zh (za (zE rfl (fun b1=>?_) (fun b1=>?_)))
  ·replace H:=H.1 (b1)
   refine zg (zc (yp (h:=(zd rfl (qq Tryz.underlying43 ha rfl) (yp (h:=(zV 3 (fun L' w'=>∃ q2:Bool,L'=[(16,.bool q2)]/\((decide (a=Er.ok)) && (decide (b=Er.ok)))=q2/\w=w') ?_ (fun hQ=>?_))))))))
   ·rintro _ _ ⟨q2,rfl,rfl,rfl⟩
    exact yp (h:=(zh (za (zx (zi (zM rfl rfl ⟨rfl,(decide (a=Er.ok)) && (decide (b=Er.ok)),rfl,H⟩))))))
   ·clear H
    rcases Bool.eq_false_or_eq_true (decide (a=Er.ok)) with b2 | b2
    ·exact gp b2 (h:=(zb rfl rfl (okb b2) rfl (qq Tryz.underlying43 hb rfl) (zd rfl (zR (okb b2) rfl) (wk (hQ _ _ ⟨decide (b=Er.ok),rfl,by rw [b2] <;> rfl,rfl⟩)))))
    ·exact gn b2 (h:=(gn b2 (h:=(zd rfl (zN (okb b2) rfl) (wk (hQ _ _ ⟨false,rfl,by rw [b2] <;> rfl,rfl⟩))))))
  ·replace H:=H.2 (b1)
   refine zt (za (zg (zc (yp (h:=(yp (h:=?_)))))))
   obtain ⟨h1,H⟩:=H
   exact zd rfl (Yld.erreqA ha hb h1 rfl rfl) (yp (h:=(zh (za (zx (zM rfl rfl ⟨rfl,decide (a=b),rfl,H⟩))))))
 ·clear H
  rcases Bool.eq_false_or_eq_true (decide (a=Er.ok)) with b3 | b3
  ·exact gn b3 (h:=(gn b3 (h:=(zd rfl (zR (okb b3) rfl) (wk (hQ _ _ ⟨true,rfl,by rw [b3] <;> rfl,rfl⟩))))))
  ·exact gp b3 (h:=(zb rfl rfl (okb b3) rfl (qq Tryz.underlying43 hb rfl) (zd rfl (zN (okb b3) rfl) (wk (hQ _ _ ⟨decide (b=Er.ok),rfl,by rw [b3] <;> rfl,rfl⟩)))))
set_option maxHeartbeats 8000000 in
theorem W_smithyref_None {w:World} {K:Int->Bool->Int->Bool->(List UInt8)->Prop} (H:jK  K):Fn Tryz.prog 183 ⟨[]⟩ w (fun v w'=>w.grownBy w' none/\∃ (r_Code:Int),∃ (r_Placed:Bool),∃ (r_Pos:Int),∃ (r_Filed:Bool),∃ (r_File:List UInt8),v=.agg ⟨[.int .i64 r_Code,.bool r_Placed,.int .i64 r_Pos,.bool r_Filed,vs r_File]⟩/\K r_Code r_Placed r_Pos r_Filed r_File):=by
 unfold jK at H
 refine Fn.enter (by kernel_rfl) Tryz.func183 rfl Tryz.ntmps183 rfl ?_
 exact zg (zc (WL.alloc rfl zero142 (fun g1 w1 hB1 hg1 hl1=>zh (za (zg (zc (zd rfl (z3 (us:=[.int .i64 (0:Int),.bool false,.int .i64 (0:Int),.bool false,vs ([]:List UInt8)]) zero142 places142 rfl rfl) (zT (vs:=[.int .i64 (0:Int),.bool false,.int .i64 (0:Int),.bool false,vs ([]:List UInt8)]) qH rfl rfl rfl (qO rfl (qO rfl (qO rfl (qO rfl (qO rfl jf))))) hB1 rfl rfl (fun w2 hB2 hg2=>zh (za (zx (qc qH rfl rfl rfl hB2 rfl ⟨(qT hg1 hg2 (Ge.le (Ge.box hl1) (Nat.le_refl _))),(0:Int),false,(0:Int),false,([]:List UInt8),rfl,H⟩))))))))))))
set_option maxHeartbeats 8000000 in
theorem W_smithyref_Bare {w:World} {code:Int} {K:Int->Bool->Int->Bool->(List UInt8)->Prop} (H:jy code K):Fn Tryz.prog 79 ⟨[.int .i64 code]⟩ w (fun v w'=>w.grownBy w' none/\∃ (r_Code:Int),∃ (r_Placed:Bool),∃ (r_Pos:Int),∃ (r_Filed:Bool),∃ (r_File:List UInt8),v=.agg ⟨[.int .i64 r_Code,.bool r_Placed,.int .i64 r_Pos,.bool r_Filed,vs r_File]⟩/\K r_Code r_Placed r_Pos r_Filed r_File):=by
 unfold jy at H
 refine Fn.enter (by kernel_rfl) Tryz.func79 rfl Tryz.ntmps79 rfl ?_
 exact zg (zc (WL.alloc rfl zero142 (fun g1 w1 hB1 hg1 hl1=>zh (za (zg (zc (yp (h:=(zd rfl (z3 (us:=[.int .i64 code,.bool false,.int .i64 (0:Int),.bool false,vs ([]:List UInt8)]) zero142 places142 rfl rfl) (zT (vs:=[.int .i64 code,.bool false,.int .i64 (0:Int),.bool false,vs ([]:List UInt8)]) qH rfl rfl rfl (qO rfl (qO rfl (qO rfl (qO rfl (qO rfl jf))))) hB1 rfl rfl (fun w2 hB2 hg2=>zh (za (zx (qc qH rfl rfl rfl hB2 rfl ⟨(qT hg1 hg2 (Ge.le (Ge.box hl1) (Nat.le_refl _))),code,false,(0:Int),false,([]:List UInt8),rfl,H⟩))))))))))))))
set_option maxHeartbeats 8000000 in
theorem W_smithyref_Placed {w:World} {code:Int} {pos:Int} {K:Int->Bool->Int->Bool->(List UInt8)->Prop} (H:j7 code pos K):Fn Tryz.prog 203 ⟨[.int .i64 code,.int .i64 pos]⟩ w (fun v w'=>w.grownBy w' none/\∃ (r_Code:Int),∃ (r_Placed:Bool),∃ (r_Pos:Int),∃ (r_Filed:Bool),∃ (r_File:List UInt8),v=.agg ⟨[.int .i64 r_Code,.bool r_Placed,.int .i64 r_Pos,.bool r_Filed,vs r_File]⟩/\K r_Code r_Placed r_Pos r_Filed r_File):=by
 unfold j7 at H
 refine Fn.enter (by kernel_rfl) Tryz.func203 rfl Tryz.ntmps203 rfl ?_
 refine zg (zc (WL.alloc rfl zero142 (fun g1 w1 hB1 hg1 hl1=>?_)))
 have gr1:=hg1
 refine zh (za (zg (zg (zc (yp (h:=(yp (h:=(zh (za (zE rfl (fun b1=>?_) (fun b1=>?_))))))))))))
 ·replace H:=H.1 (of_decide_eq_true b1)
  refine zg (zc (zK rfl rfl (W_smithyref_None H) ?_))
  rintro _ w2 ⟨hg2,a2,a0,a4,a1,a3,rfl,H⟩
  exact zT (vs:=[.int .i64 a2,.bool a0,.int .i64 a4,.bool a1,vs a3]) qH rfl rfl rfl (qO rfl (qO rfl (qO rfl (qO rfl (qO rfl jf))))) (hB1.g0 hg2) rfl rfl (fun w3 hB2 hg3=>zh (za (zx (zi (qc qH rfl rfl rfl hB2 rfl ⟨(qT (qI gr1 hg2) hg3 (Ge.le (Ge.box hl1) (Nat.le_refl _))),a2,a0,a4,a1,a3,rfl,H⟩)))))
 ·replace H:=H.2 (of_decide_eq_false b1)
  exact zt (za (zg (zc (yp (h:=(yp (h:=(zd rfl (z3 (us:=[.int .i64 code,.bool true,.int .i64 pos,.bool false,vs ([]:List UInt8)]) zero142 places142 rfl rfl) (zT (vs:=[.int .i64 code,.bool true,.int .i64 pos,.bool false,vs ([]:List UInt8)]) qH rfl rfl rfl (qO rfl (qO rfl (qO rfl (qO rfl (qO rfl jf))))) hB1 rfl rfl (fun w4 hB3 hg4=>zh (za (zx (qc qH rfl rfl rfl hB3 rfl ⟨(qT gr1 hg4 (Ge.le (Ge.box hl1) (Nat.le_refl _))),code,true,pos,false,([]:List UInt8),rfl,H⟩)))))))))))))
set_option maxHeartbeats 8000000 in
theorem W_smithyref_SameFault {w:World} {a_Code:Int} {a_Placed:Bool} {a_Pos:Int} {a_Filed:Bool} {a_File:List UInt8} {b_Code:Int} {b_Placed:Bool} {b_Pos:Int} {b_Filed:Bool} {b_File:List UInt8} {K:Bool->Prop} (H:jP a_Code a_Placed a_Pos a_Filed a_File b_Code b_Placed b_Pos b_Filed b_File K):Fn Tryz.prog 133 ⟨[.agg ⟨[.int .i64 a_Code,.bool a_Placed,.int .i64 a_Pos,.bool a_Filed,vs a_File]⟩,.agg ⟨[.int .i64 b_Code,.bool b_Placed,.int .i64 b_Pos,.bool b_Filed,vs b_File]⟩]⟩ w (fun v w'=>w.grownBy w' none/\∃ (r:Bool),v=.bool r/\K r):=by
 unfold jP at H
 refine Fn.enter (by kernel_rfl) Tryz.func133 rfl Tryz.ntmps133 rfl ?_
 refine zg (zc (z4 (us:=[.int .i64 a_Code,.bool a_Placed,.int .i64 a_Pos,.bool a_Filed,vs a_File]) rfl rfl rfl (fun g1 w1 hB1 hg1 hl1=>z4 (us:=[.int .i64 b_Code,.bool b_Placed,.int .i64 b_Pos,.bool b_Filed,vs b_File]) rfl rfl rfl (fun g2 w2 hB2 hg2 hl2=>?_))))
 have k1:=hB1.g0 hg2
 refine yp (h:=(zh (za (zg (zc (yp (h:=(zd rfl (zH qH k1 rfl rfl rfl) (yp (h:=(zd rfl (zH qH hB2 rfl rfl rfl) (yp (h:=(yp (h:=(zV 6 (fun L' w'=>∃ q1:Bool,L'=[(16,.bool q1),(2,.pointer (some ⟨g1,0,none⟩)),(3,.pointer (some ⟨g2,0,none⟩))]/\((decide (a_Code=b_Code)) && (a_Placed == b_Placed))=q1/\w2=w') ?_ (fun hQ=>?_)))))))))))))))))
 ·rintro _ _ ⟨q1,rfl,rfl,rfl⟩
  refine yp (h:=(zV 6 (fun L' w'=>∃ q2:Bool,L'=[(23,.bool q2),(2,.pointer (some ⟨g1,0,none⟩)),(3,.pointer (some ⟨g2,0,none⟩))]/\(((decide (a_Code=b_Code)) && (a_Placed == b_Placed)) && (decide (a_Pos=b_Pos)))=q2/\w2=w') ?_ (fun hQ=>?_)))
  ·rintro _ _ ⟨q2,rfl,rfl,rfl⟩
   refine yp (h:=(zV 6 (fun L' w'=>∃ q3:Bool,L'=[(30,.bool q3),(2,.pointer (some ⟨g1,0,none⟩)),(3,.pointer (some ⟨g2,0,none⟩))]/\((((decide (a_Code=b_Code)) && (a_Placed == b_Placed)) && (decide (a_Pos=b_Pos))) && (a_Filed == b_Filed))=q3/\w2=w') ?_ (fun hQ=>?_)))
   ·rintro _ _ ⟨q3,rfl,rfl,rfl⟩
    refine yp (h:=(zV 6 (fun L' w'=>∃ q4:Bool,L'=[(37,.bool q4)]/\(((((decide (a_Code=b_Code)) && (a_Placed == b_Placed)) && (decide (a_Pos=b_Pos))) && (a_Filed == b_Filed)) && (decide (a_File=b_File)))=q4/\w2=w') ?_ (fun hQ=>?_)))
    ·rintro _ _ ⟨q4,rfl,rfl,rfl⟩
     exact yp (h:=(zh (za (zx (zM rfl rfl ⟨(qI hg1 hg2),((((decide (a_Code=b_Code)) && (a_Placed == b_Placed)) && (decide (a_Pos=b_Pos))) && (a_Filed == b_Filed)) && (decide (a_File=b_File)),rfl,H⟩)))))
    ·clear H
     rcases Bool.eq_false_or_eq_true ((((decide (a_Code=b_Code)) && (a_Placed == b_Placed)) && (decide (a_Pos=b_Pos))) && (a_Filed == b_Filed)) with b1 | b1
     ·exact gp b1 (h:=(zb rfl rfl (okb b1) rfl (zH qH k1 rfl rfl rfl) (gp b1 (h:=(zb rfl rfl (okb b1) rfl (zH qH hB2 rfl rfl rfl) (gp b1 (h:=(zd rfl (zR (okb b1) rfl) (wk (hQ _ _ ⟨decide (a_File=b_File),rfl,by rw [b1] <;> rfl,rfl⟩))))))))))
     ·exact gn b1 (h:=(gn b1 (h:=(gn b1 (h:=(gn b1 (h:=(gn b1 (h:=(zd rfl (zN (okb b1) rfl) (wk (hQ _ _ ⟨false,rfl,by rw [b1] <;> rfl,rfl⟩))))))))))))
   ·clear H
    rcases Bool.eq_false_or_eq_true (((decide (a_Code=b_Code)) && (a_Placed == b_Placed)) && (decide (a_Pos=b_Pos))) with b2 | b2
    ·exact gp b2 (h:=(zb rfl rfl (okb b2) rfl (zH qH k1 rfl rfl rfl) (gp b2 (h:=(zb rfl rfl (okb b2) rfl (zH qH hB2 rfl rfl rfl) (zb rfl rfl (okb b2) rfl (qA Tryz.underlying4 rfl rfl) (zd rfl (zR (okb b2) rfl) (wk (hQ _ _ ⟨a_Filed == b_Filed,rfl,by rw [b2] <;> rfl,rfl⟩)))))))))
    ·exact gn b2 (h:=(gn b2 (h:=(gn b2 (h:=(gn b2 (h:=(gn b2 (h:=(zd rfl (zN (okb b2) rfl) (wk (hQ _ _ ⟨false,rfl,by rw [b2] <;> rfl,rfl⟩))))))))))))
  ·clear H
   rcases Bool.eq_false_or_eq_true ((decide (a_Code=b_Code)) && (a_Placed == b_Placed)) with b3 | b3
   ·exact gp b3 (h:=(zb rfl rfl (okb b3) rfl (zH qH k1 rfl rfl rfl) (gp b3 (h:=(zb rfl rfl (okb b3) rfl (zH qH hB2 rfl rfl rfl) (gp b3 (h:=(zd rfl (zR (okb b3) rfl) (wk (hQ _ _ ⟨decide (a_Pos=b_Pos),rfl,by rw [b3] <;> rfl,rfl⟩))))))))))
   ·exact gn b3 (h:=(gn b3 (h:=(gn b3 (h:=(gn b3 (h:=(gn b3 (h:=(zd rfl (zN (okb b3) rfl) (wk (hQ _ _ ⟨false,rfl,by rw [b3] <;> rfl,rfl⟩))))))))))))
 ·clear H
  rcases Bool.eq_false_or_eq_true (decide (a_Code=b_Code)) with b4 | b4
  ·exact gp b4 (h:=(zb rfl rfl (okb b4) rfl (zH qH k1 rfl rfl rfl) (gp b4 (h:=(zb rfl rfl (okb b4) rfl (zH qH hB2 rfl rfl rfl) (zb rfl rfl (okb b4) rfl (qA Tryz.underlying4 rfl rfl) (zd rfl (zR (okb b4) rfl) (wk (hQ _ _ ⟨a_Placed == b_Placed,rfl,by rw [b4] <;> rfl,rfl⟩)))))))))
  ·exact gn b4 (h:=(gn b4 (h:=(gn b4 (h:=(gn b4 (h:=(gn b4 (h:=(zd rfl (zN (okb b4) rfl) (wk (hQ _ _ ⟨false,rfl,by rw [b4] <;> rfl,rfl⟩))))))))))))
end
 
section
open Go Go.RowKit
attribute [local irreducible] WL WC WX WQ WK WJ Yld Eff Ef0 Fn
theorem Rd.ofBlV {w:World} {g m:Nat} {e:TypeId} {us:List Value} (h:Bl w g e us) (hm:us.length=m) (hx:m<=maxLen):Rd (fun v=>v) w (some ⟨g,0,none⟩) m us:=⟨by omega,hx,fun _=>⟨_,rfl,fun j x hj=>by
 have:=h.cell j
 rw [hj] at this
 cases j with
 | zero=>simpa [Addr.add] using this
 | succ j=>simpa [Addr.add] using this⟩⟩
def errsV (S:List Nat) (w:World) (us:List Value):Prop:=us.length=17/\∀ n,n<17->ErrR S w (us.getD n .nilIface) (.e n)
theorem sentinels_fn {S:List Nat} {w:World} (hG:GOK S w) (hS:∀ n,n<17->n∈S):Fn Tryz.prog 216 ⟨[]⟩ w fun v w'=>w.grownBy w' none/\∃ g us,v=.slice (some ⟨g,0,none⟩) 17 17/\Bl w' g 43 us/\errsV S w' us:=by
 refine Fn.enter (by kernel_rfl) Tryz.func216 rfl Tryz.ntmps216 rfl ?_
 obtain ⟨v0,hc0,hE0⟩:=hG.get 0 3 (hS 0 (by omega)) rfl rfl
 obtain ⟨v1,hc1,hE1⟩:=hG.get 1 4 (hS 1 (by omega)) rfl rfl
 obtain ⟨v2,hc2,hE2⟩:=hG.get 2 5 (hS 2 (by omega)) rfl rfl
 obtain ⟨v3,hc3,hE3⟩:=hG.get 3 0 (hS 3 (by omega)) rfl rfl
 obtain ⟨v4,hc4,hE4⟩:=hG.get 4 6 (hS 4 (by omega)) rfl rfl
 obtain ⟨v5,hc5,hE5⟩:=hG.get 5 7 (hS 5 (by omega)) rfl rfl
 obtain ⟨v6,hc6,hE6⟩:=hG.get 6 8 (hS 6 (by omega)) rfl rfl
 obtain ⟨v7,hc7,hE7⟩:=hG.get 7 1 (hS 7 (by omega)) rfl rfl
 obtain ⟨v8,hc8,hE8⟩:=hG.get 8 9 (hS 8 (by omega)) rfl rfl
 obtain ⟨v9,hc9,hE9⟩:=hG.get 9 10 (hS 9 (by omega)) rfl rfl
 obtain ⟨v10,hc10,hE10⟩:=hG.get 10 11 (hS 10 (by omega)) rfl rfl
 obtain ⟨v11,hc11,hE11⟩:=hG.get 11 12 (hS 11 (by omega)) rfl rfl
 obtain ⟨v12,hc12,hE12⟩:=hG.get 12 13 (hS 12 (by omega)) rfl rfl
 obtain ⟨v13,hc13,hE13⟩:=hG.get 13 14 (hS 13 (by omega)) rfl rfl
 obtain ⟨v14,hc14,hE14⟩:=hG.get 14 15 (hS 14 (by omega)) rfl rfl
 obtain ⟨v15,hc15,hE15⟩:=hG.get 15 16 (hS 15 (by omega)) rfl rfl
 obtain ⟨v16,hc16,hE16⟩:=hG.get 16 17 (hS 16 (by omega)) rfl rfl
 repeat (first | refine zd rfl (Yld.cell qH hc0 rfl rfl) ?_ | refine zd rfl (Yld.cell qH hc1 rfl rfl) ?_ | refine zd rfl (Yld.cell qH hc2 rfl rfl) ?_ | refine zd rfl (Yld.cell qH hc3 rfl rfl) ?_ | refine zd rfl (Yld.cell qH hc4 rfl rfl) ?_ | refine zd rfl (Yld.cell qH hc5 rfl rfl) ?_ | refine zd rfl (Yld.cell qH hc6 rfl rfl) ?_ | refine zd rfl (Yld.cell qH hc7 rfl rfl) ?_ | refine zd rfl (Yld.cell qH hc8 rfl rfl) ?_ | refine zd rfl (Yld.cell qH hc9 rfl rfl) ?_ | refine zd rfl (Yld.cell qH hc10 rfl rfl) ?_ | refine zd rfl (Yld.cell qH hc11 rfl rfl) ?_ | refine zd rfl (Yld.cell qH hc12 rfl rfl) ?_ | refine zd rfl (Yld.cell qH hc13 rfl rfl) ?_ | refine zd rfl (Yld.cell qH hc14 rfl rfl) ?_ | refine zd rfl (Yld.cell qH hc15 rfl rfl) ?_ | refine zd rfl (Yld.cell qH hc16 rfl rfl) ?_ | refine zg ?_ | refine WC.block ?_ | refine zc ?_ | refine zh ?_ | refine za ?_ | refine zt ?_ | refine zy ?_ | refine zx ?_ | refine zm ?_ | refine zi ?_ | refine zf ?_ | refine zn ?_ | refine zk ?_ | refine zl rfl ?_ | refine zv ?_ | refine zw ?_ | refine zj ?_ | refine zp ?_ | refine zo ?_ | refine zd rfl (Yld.add rfl rfl (by simp only [In]; omega)) ?_ | refine zd rfl (Yld.sub rfl rfl (by simp only [In]; omega)) ?_ | refine zd rfl (zC rfl rfl (by simp only [In]; omega)) ?_ | refine zd rfl (zr qH rfl rfl rfl rfl) ?_ | refine zd rfl (zu qH rfl rfl rfl (by simp only [In]; omega)) ?_ | refine zd rfl (zz rfl rfl (by omega) (by omega) (by simp only [In]; omega)) ?_ | refine zd rfl (zA rfl rfl (by omega) (by omega)) ?_ | refine zd rfl (zI rfl rfl (by omega)) ?_ | refine zd rfl (zG rfl rfl (by omega)) ?_ | refine zd rfl (ze qH rfl) ?_ | refine zd rfl (zF qJ rfl rfl rfl) ?_ | refine zd rfl (zD rfl rfl) ?_ | refine zd rfl (zB rfl rfl) ?_ | refine zd rfl (zq rfl rfl rfl) ?_ | refine zJ rfl rfl rfl rfl ?_ | refine zb rfl rfl rfl rfl (Yld.add rfl rfl (by simp only [In]; omega)) ?_ | refine zb rfl rfl rfl rfl (Yld.sub rfl rfl (by simp only [In]; omega)) ?_ | refine zb rfl rfl rfl rfl (zC rfl rfl (by simp only [In]; omega)) ?_ | refine zb rfl rfl rfl rfl (zr qH rfl rfl rfl rfl) ?_ | refine zb rfl rfl rfl rfl (zu qH rfl rfl rfl (by simp only [In]; omega)) ?_ | refine zb rfl rfl rfl rfl (zz rfl rfl (by omega) (by omega) (by simp only [In]; omega)) ?_ | refine zb rfl rfl rfl rfl (zA rfl rfl (by omega) (by omega)) ?_ | refine zb rfl rfl rfl rfl (zI rfl rfl (by omega)) ?_ | refine zb rfl rfl rfl rfl (zG rfl rfl (by omega)) ?_ | refine zb rfl rfl rfl rfl (ze qH rfl) ?_ | refine zb rfl rfl rfl rfl (zF qJ rfl rfl rfl) ?_ | refine zb rfl rfl rfl rfl (zD rfl rfl) ?_ | refine zb rfl rfl rfl rfl (zB rfl rfl) ?_ | refine zb rfl rfl rfl rfl (zq rfl rfl rfl) ?_ | refine qn rfl rfl rfl rfl ?_)
 refine qg qH rfl rfl rfl (qO (ErrR.one hE0) (qO (ErrR.one hE1) (qO (ErrR.one hE2) (qO (ErrR.one hE3) (qO (ErrR.one hE4) (qO (ErrR.one hE5) (qO (ErrR.one hE6) (qO (ErrR.one hE7) (qO (ErrR.one hE8) (qO (ErrR.one hE9) (qO (ErrR.one hE10) (qO (ErrR.one hE11) (qO (ErrR.one hE12) (qO (ErrR.one hE13) (qO (ErrR.one hE14) (qO (ErrR.one hE15) (qO (ErrR.one hE16) jf))))))))))))))))) rfl (by omega) (fun g w' hB hg hl=>?_)
 repeat (first | refine zg ?_ | refine WC.block ?_ | refine zc ?_ | refine zh ?_ | refine za ?_ | refine zt ?_ | refine zy ?_ | refine zx ?_ | refine zm ?_ | refine zi ?_ | refine zf ?_ | refine zn ?_ | refine zk ?_ | refine zl rfl ?_ | refine zv ?_ | refine zw ?_ | refine zj ?_ | refine zp ?_ | refine zo ?_ | refine zd rfl (Yld.add rfl rfl (by simp only [In]; omega)) ?_ | refine zd rfl (Yld.sub rfl rfl (by simp only [In]; omega)) ?_ | refine zd rfl (zC rfl rfl (by simp only [In]; omega)) ?_ | refine zd rfl (zr qH rfl rfl rfl rfl) ?_ | refine zd rfl (zu qH rfl rfl rfl (by simp only [In]; omega)) ?_ | refine zd rfl (zz rfl rfl (by omega) (by omega) (by simp only [In]; omega)) ?_ | refine zd rfl (zA rfl rfl (by omega) (by omega)) ?_ | refine zd rfl (zI rfl rfl (by omega)) ?_ | refine zd rfl (zG rfl rfl (by omega)) ?_ | refine zd rfl (ze qH rfl) ?_ | refine zd rfl (zF qJ rfl rfl rfl) ?_ | refine zd rfl (zD rfl rfl) ?_ | refine zd rfl (zB rfl rfl) ?_ | refine zd rfl (zq rfl rfl rfl) ?_ | refine zJ rfl rfl rfl rfl ?_ | refine zb rfl rfl rfl rfl (Yld.add rfl rfl (by simp only [In]; omega)) ?_ | refine zb rfl rfl rfl rfl (Yld.sub rfl rfl (by simp only [In]; omega)) ?_ | refine zb rfl rfl rfl rfl (zC rfl rfl (by simp only [In]; omega)) ?_ | refine zb rfl rfl rfl rfl (zr qH rfl rfl rfl rfl) ?_ | refine zb rfl rfl rfl rfl (zu qH rfl rfl rfl (by simp only [In]; omega)) ?_ | refine zb rfl rfl rfl rfl (zz rfl rfl (by omega) (by omega) (by simp only [In]; omega)) ?_ | refine zb rfl rfl rfl rfl (zA rfl rfl (by omega) (by omega)) ?_ | refine zb rfl rfl rfl rfl (zI rfl rfl (by omega)) ?_ | refine zb rfl rfl rfl rfl (zG rfl rfl (by omega)) ?_ | refine zb rfl rfl rfl rfl (ze qH rfl) ?_ | refine zb rfl rfl rfl rfl (zF qJ rfl rfl rfl) ?_ | refine zb rfl rfl rfl rfl (zD rfl rfl) ?_ | refine zb rfl rfl rfl rfl (zB rfl rfl) ?_ | refine zb rfl rfl rfl rfl (zq rfl rfl rfl) ?_ | refine qn rfl rfl rfl rfl ?_)
 refine zM rfl rfl ⟨hg,g,_,rfl,hB,rfl,fun n hn=>?_⟩
 match n,hn with
 | 0,_=>exact hE0.grown hg
 | 1,_=>exact hE1.grown hg
 | 2,_=>exact hE2.grown hg
 | 3,_=>exact hE3.grown hg
 | 4,_=>exact hE4.grown hg
 | 5,_=>exact hE5.grown hg
 | 6,_=>exact hE6.grown hg
 | 7,_=>exact hE7.grown hg
 | 8,_=>exact hE8.grown hg
 | 9,_=>exact hE9.grown hg
 | 10,_=>exact hE10.grown hg
 | 11,_=>exact hE11.grown hg
 | 12,_=>exact hE12.grown hg
 | 13,_=>exact hE13.grown hg
 | 14,_=>exact hE14.grown hg
 | 15,_=>exact hE15.grown hg
 | 16,_=>exact hE16.grown hg
 | n+17,hn=>omega
def sentV:Er->Int
 | .ok => -1
 | .e n=>101+n
 | .at_ _ _ => -1
def jD (e:Er) (K:Int->Prop):Prop:=K (sentV e)
theorem W_smithysee_sentinel {S:List Nat} {w:World} {v:Value} {e:Er} {K:Int->Prop} (hG:GOK S w) (hS0:0∈S) (hS1:1∈S) (hS2:2∈S) (hS3:3∈S) (hS4:4∈S) (hS5:5∈S) (hS6:6∈S) (hS7:7∈S) (hS8:8∈S) (hS9:9∈S) (hS10:10∈S) (hS11:11∈S) (hS12:12∈S) (hS13:13∈S) (hS14:14∈S) (hS15:15∈S) (hS16:16∈S) (hE:ErrR S w v e) (H:jD e K):Fn Tryz.prog 202 ⟨[v]⟩ w (fun r w'=>w.grownBy w' none/\∃ n:Int,r=.int .i64 n/\K n):=by
 have hS:∀ n,n<17->n∈S:=fun n hn=>by
  match n,hn with
  | 0,_=>exact hS0
  | 1,_=>exact hS1
  | 2,_=>exact hS2
  | 3,_=>exact hS3
  | 4,_=>exact hS4
  | 5,_=>exact hS5
  | 6,_=>exact hS6
  | 7,_=>exact hS7
  | 8,_=>exact hS8
  | 9,_=>exact hS9
  | 10,_=>exact hS10
  | 11,_=>exact hS11
  | 12,_=>exact hS12
  | 13,_=>exact hS13
  | 14,_=>exact hS14
  | 15,_=>exact hS15
  | 16,_=>exact hS16
  | n+17,hn=>omega
 unfold jD at H
 refine Fn.enter (by kernel_rfl) Tryz.func202 rfl Tryz.ntmps202 rfl ?_
 repeat (first | refine zg ?_ | refine WC.block ?_ | refine zc ?_ | refine zh ?_ | refine za ?_ | refine zt ?_ | refine zy ?_ | refine zx ?_ | refine zm ?_ | refine zi ?_ | refine zf ?_ | refine zn ?_ | refine zk ?_ | refine zl rfl ?_ | refine zv ?_ | refine zw ?_ | refine zj ?_ | refine zp ?_ | refine zo ?_ | refine zd rfl (Yld.add rfl rfl (by simp only [In]; omega)) ?_ | refine zd rfl (Yld.sub rfl rfl (by simp only [In]; omega)) ?_ | refine zd rfl (zC rfl rfl (by simp only [In]; omega)) ?_ | refine zd rfl (zr qH rfl rfl rfl rfl) ?_ | refine zd rfl (zu qH rfl rfl rfl (by simp only [In]; omega)) ?_ | refine zd rfl (zz rfl rfl (by omega) (by omega) (by simp only [In]; omega)) ?_ | refine zd rfl (zA rfl rfl (by omega) (by omega)) ?_ | refine zd rfl (zI rfl rfl (by omega)) ?_ | refine zd rfl (zG rfl rfl (by omega)) ?_ | refine zd rfl (ze qH rfl) ?_ | refine zd rfl (zF qJ rfl rfl rfl) ?_ | refine zd rfl (zD rfl rfl) ?_ | refine zd rfl (zB rfl rfl) ?_ | refine zd rfl (zq rfl rfl rfl) ?_ | refine zJ rfl rfl rfl rfl ?_ | refine zb rfl rfl rfl rfl (Yld.add rfl rfl (by simp only [In]; omega)) ?_ | refine zb rfl rfl rfl rfl (Yld.sub rfl rfl (by simp only [In]; omega)) ?_ | refine zb rfl rfl rfl rfl (zC rfl rfl (by simp only [In]; omega)) ?_ | refine zb rfl rfl rfl rfl (zr qH rfl rfl rfl rfl) ?_ | refine zb rfl rfl rfl rfl (zu qH rfl rfl rfl (by simp only [In]; omega)) ?_ | refine zb rfl rfl rfl rfl (zz rfl rfl (by omega) (by omega) (by simp only [In]; omega)) ?_ | refine zb rfl rfl rfl rfl (zA rfl rfl (by omega) (by omega)) ?_ | refine zb rfl rfl rfl rfl (zI rfl rfl (by omega)) ?_ | refine zb rfl rfl rfl rfl (zG rfl rfl (by omega)) ?_ | refine zb rfl rfl rfl rfl (ze qH rfl) ?_ | refine zb rfl rfl rfl rfl (zF qJ rfl rfl rfl) ?_ | refine zb rfl rfl rfl rfl (zD rfl rfl) ?_ | refine zb rfl rfl rfl rfl (zB rfl rfl) ?_ | refine zb rfl rfl rfl rfl (zq rfl rfl rfl) ?_ | refine qn rfl rfl rfl rfl ?_)
 refine zK rfl rfl (sentinels_fn hG hS) ?_
 rintro _ w1 ⟨hg1,g,us,rfl,hB,hlen,hus⟩
 have hR:=Rd.ofBlV hB hlen (by simp [maxLen])
 have hE1:=hE.grown hg1
 repeat (first | refine zg ?_ | refine WC.block ?_ | refine zc ?_ | refine zh ?_ | refine za ?_ | refine zt ?_ | refine zy ?_ | refine zx ?_ | refine zm ?_ | refine zi ?_ | refine zf ?_ | refine zn ?_ | refine zk ?_ | refine zl rfl ?_ | refine zv ?_ | refine zw ?_ | refine zj ?_ | refine zp ?_ | refine zo ?_ | refine zd rfl (Yld.add rfl rfl (by simp only [In]; omega)) ?_ | refine zd rfl (Yld.sub rfl rfl (by simp only [In]; omega)) ?_ | refine zd rfl (zC rfl rfl (by simp only [In]; omega)) ?_ | refine zd rfl (zr qH rfl rfl rfl rfl) ?_ | refine zd rfl (zu qH rfl rfl rfl (by simp only [In]; omega)) ?_ | refine zd rfl (zz rfl rfl (by omega) (by omega) (by simp only [In]; omega)) ?_ | refine zd rfl (zA rfl rfl (by omega) (by omega)) ?_ | refine zd rfl (zI rfl rfl (by omega)) ?_ | refine zd rfl (zG rfl rfl (by omega)) ?_ | refine zd rfl (ze qH rfl) ?_ | refine zd rfl (zF qJ rfl rfl rfl) ?_ | refine zd rfl (zD rfl rfl) ?_ | refine zd rfl (zB rfl rfl) ?_ | refine zd rfl (zq rfl rfl rfl) ?_ | refine zJ rfl rfl rfl rfl ?_ | refine zb rfl rfl rfl rfl (Yld.add rfl rfl (by simp only [In]; omega)) ?_ | refine zb rfl rfl rfl rfl (Yld.sub rfl rfl (by simp only [In]; omega)) ?_ | refine zb rfl rfl rfl rfl (zC rfl rfl (by simp only [In]; omega)) ?_ | refine zb rfl rfl rfl rfl (zr qH rfl rfl rfl rfl) ?_ | refine zb rfl rfl rfl rfl (zu qH rfl rfl rfl (by simp only [In]; omega)) ?_ | refine zb rfl rfl rfl rfl (zz rfl rfl (by omega) (by omega) (by simp only [In]; omega)) ?_ | refine zb rfl rfl rfl rfl (zA rfl rfl (by omega) (by omega)) ?_ | refine zb rfl rfl rfl rfl (zI rfl rfl (by omega)) ?_ | refine zb rfl rfl rfl rfl (zG rfl rfl (by omega)) ?_ | refine zb rfl rfl rfl rfl (ze qH rfl) ?_ | refine zb rfl rfl rfl rfl (zF qJ rfl rfl rfl) ?_ | refine zb rfl rfl rfl rfl (zD rfl rfl) ?_ | refine zb rfl rfl rfl rfl (zB rfl rfl) ?_ | refine zb rfl rfl rfl rfl (zq rfl rfl rfl) ?_ | refine qn rfl rfl rfl rfl ?_)
 refine z7 (fun n' L' w'=>∃ i:Nat,n'=17 - i/\L'=[(4,vi i),(3,.slice (some ⟨g,0,none⟩) 17 17),(0,v)]/\i<=17/\(∀ j,j<i->e≠.e j)/\w1=w') _ _ ⟨0,rfl,rfl,by omega,fun j hj=>by omega,rfl⟩ (by repeat (first | exact zS | refine Sub.cons rfl ?_)) ?_
 rintro _ _ _ ⟨i,rfl,rfl,hi,hne,rfl⟩
 repeat (first | refine zg ?_ | refine WC.block ?_ | refine zc ?_ | refine zh ?_ | refine za ?_ | refine zt ?_ | refine zy ?_ | refine zx ?_ | refine zm ?_ | refine zi ?_ | refine zf ?_ | refine zn ?_ | refine zk ?_ | refine zl rfl ?_ | refine zv ?_ | refine zw ?_ | refine zj ?_ | refine zp ?_ | refine zo ?_ | refine zd rfl (Yld.add rfl rfl (by simp only [In]; omega)) ?_ | refine zd rfl (Yld.sub rfl rfl (by simp only [In]; omega)) ?_ | refine zd rfl (zC rfl rfl (by simp only [In]; omega)) ?_ | refine zd rfl (zr qH rfl rfl rfl rfl) ?_ | refine zd rfl (zu qH rfl rfl rfl (by simp only [In]; omega)) ?_ | refine zd rfl (zz rfl rfl (by omega) (by omega) (by simp only [In]; omega)) ?_ | refine zd rfl (zA rfl rfl (by omega) (by omega)) ?_ | refine zd rfl (zI rfl rfl (by omega)) ?_ | refine zd rfl (zG rfl rfl (by omega)) ?_ | refine zd rfl (ze qH rfl) ?_ | refine zd rfl (zF qJ rfl rfl rfl) ?_ | refine zd rfl (zD rfl rfl) ?_ | refine zd rfl (zB rfl rfl) ?_ | refine zd rfl (zq rfl rfl rfl) ?_ | refine zJ rfl rfl rfl rfl ?_ | refine zb rfl rfl rfl rfl (Yld.add rfl rfl (by simp only [In]; omega)) ?_ | refine zb rfl rfl rfl rfl (Yld.sub rfl rfl (by simp only [In]; omega)) ?_ | refine zb rfl rfl rfl rfl (zC rfl rfl (by simp only [In]; omega)) ?_ | refine zb rfl rfl rfl rfl (zr qH rfl rfl rfl rfl) ?_ | refine zb rfl rfl rfl rfl (zu qH rfl rfl rfl (by simp only [In]; omega)) ?_ | refine zb rfl rfl rfl rfl (zz rfl rfl (by omega) (by omega) (by simp only [In]; omega)) ?_ | refine zb rfl rfl rfl rfl (zA rfl rfl (by omega) (by omega)) ?_ | refine zb rfl rfl rfl rfl (zI rfl rfl (by omega)) ?_ | refine zb rfl rfl rfl rfl (zG rfl rfl (by omega)) ?_ | refine zb rfl rfl rfl rfl (ze qH rfl) ?_ | refine zb rfl rfl rfl rfl (zF qJ rfl rfl rfl) ?_ | refine zb rfl rfl rfl rfl (zD rfl rfl) ?_ | refine zb rfl rfl rfl rfl (zB rfl rfl) ?_ | refine zb rfl rfl rfl rfl (zq rfl rfl rfl) ?_ | refine qn rfl rfl rfl rfl ?_)
 refine zE rfl (fun h=>?_) (fun h=>?_)
 ·simp only [decide_eq_true_eq] at h
  have hi':i<17:=by omega
  repeat (first | refine zd rfl (qr qH hR rfl rfl hlen.symm rfl (by omega)) ?_ | refine zd rfl (zQ .nilIface qH hR rfl rfl (by omega)) ?_ | refine zg ?_ | refine WC.block ?_ | refine zc ?_ | refine zh ?_ | refine za ?_ | refine zt ?_ | refine zy ?_ | refine zx ?_ | refine zm ?_ | refine zi ?_ | refine zf ?_ | refine zn ?_ | refine zk ?_ | refine zl rfl ?_ | refine zv ?_ | refine zw ?_ | refine zj ?_ | refine zp ?_ | refine zo ?_ | refine zd rfl (Yld.add rfl rfl (by simp only [In]; omega)) ?_ | refine zd rfl (Yld.sub rfl rfl (by simp only [In]; omega)) ?_ | refine zd rfl (zC rfl rfl (by simp only [In]; omega)) ?_ | refine zd rfl (zr qH rfl rfl rfl rfl) ?_ | refine zd rfl (zu qH rfl rfl rfl (by simp only [In]; omega)) ?_ | refine zd rfl (zz rfl rfl (by omega) (by omega) (by simp only [In]; omega)) ?_ | refine zd rfl (zA rfl rfl (by omega) (by omega)) ?_ | refine zd rfl (zI rfl rfl (by omega)) ?_ | refine zd rfl (zG rfl rfl (by omega)) ?_ | refine zd rfl (ze qH rfl) ?_ | refine zd rfl (zF qJ rfl rfl rfl) ?_ | refine zd rfl (zD rfl rfl) ?_ | refine zd rfl (zB rfl rfl) ?_ | refine zd rfl (zq rfl rfl rfl) ?_ | refine zJ rfl rfl rfl rfl ?_ | refine zb rfl rfl rfl rfl (Yld.add rfl rfl (by simp only [In]; omega)) ?_ | refine zb rfl rfl rfl rfl (Yld.sub rfl rfl (by simp only [In]; omega)) ?_ | refine zb rfl rfl rfl rfl (zC rfl rfl (by simp only [In]; omega)) ?_ | refine zb rfl rfl rfl rfl (zr qH rfl rfl rfl rfl) ?_ | refine zb rfl rfl rfl rfl (zu qH rfl rfl rfl (by simp only [In]; omega)) ?_ | refine zb rfl rfl rfl rfl (zz rfl rfl (by omega) (by omega) (by simp only [In]; omega)) ?_ | refine zb rfl rfl rfl rfl (zA rfl rfl (by omega) (by omega)) ?_ | refine zb rfl rfl rfl rfl (zI rfl rfl (by omega)) ?_ | refine zb rfl rfl rfl rfl (zG rfl rfl (by omega)) ?_ | refine zb rfl rfl rfl rfl (ze qH rfl) ?_ | refine zb rfl rfl rfl rfl (zF qJ rfl rfl rfl) ?_ | refine zb rfl rfl rfl rfl (zD rfl rfl) ?_ | refine zb rfl rfl rfl rfl (zB rfl rfl) ?_ | refine zb rfl rfl rfl rfl (zq rfl rfl rfl) ?_ | refine qn rfl rfl rfl rfl ?_)
  refine zK rfl rfl (W_smithysee_Alike (K:=fun b=>b=decide (e=.e i)) hE1 (hus i hi') ?_) ?_
  ·unfold M_smithysee_Alike
   cases e <;> simp
  rintro _ _ ⟨rfl,b,rfl,hb⟩
  subst hb
  refine zh ?_
  repeat (first | refine zg ?_ | refine WC.block ?_ | refine zc ?_ | refine zh ?_ | refine za ?_ | refine zt ?_ | refine zy ?_ | refine zx ?_ | refine zm ?_ | refine zi ?_ | refine zf ?_ | refine zn ?_ | refine zk ?_ | refine zl rfl ?_ | refine zv ?_ | refine zw ?_ | refine zj ?_ | refine zp ?_ | refine zo ?_ | refine zd rfl (Yld.add rfl rfl (by simp only [In]; omega)) ?_ | refine zd rfl (Yld.sub rfl rfl (by simp only [In]; omega)) ?_ | refine zd rfl (zC rfl rfl (by simp only [In]; omega)) ?_ | refine zd rfl (zr qH rfl rfl rfl rfl) ?_ | refine zd rfl (zu qH rfl rfl rfl (by simp only [In]; omega)) ?_ | refine zd rfl (zz rfl rfl (by omega) (by omega) (by simp only [In]; omega)) ?_ | refine zd rfl (zA rfl rfl (by omega) (by omega)) ?_ | refine zd rfl (zI rfl rfl (by omega)) ?_ | refine zd rfl (zG rfl rfl (by omega)) ?_ | refine zd rfl (ze qH rfl) ?_ | refine zd rfl (zF qJ rfl rfl rfl) ?_ | refine zd rfl (zD rfl rfl) ?_ | refine zd rfl (zB rfl rfl) ?_ | refine zd rfl (zq rfl rfl rfl) ?_ | refine zJ rfl rfl rfl rfl ?_ | refine zb rfl rfl rfl rfl (Yld.add rfl rfl (by simp only [In]; omega)) ?_ | refine zb rfl rfl rfl rfl (Yld.sub rfl rfl (by simp only [In]; omega)) ?_ | refine zb rfl rfl rfl rfl (zC rfl rfl (by simp only [In]; omega)) ?_ | refine zb rfl rfl rfl rfl (zr qH rfl rfl rfl rfl) ?_ | refine zb rfl rfl rfl rfl (zu qH rfl rfl rfl (by simp only [In]; omega)) ?_ | refine zb rfl rfl rfl rfl (zz rfl rfl (by omega) (by omega) (by simp only [In]; omega)) ?_ | refine zb rfl rfl rfl rfl (zA rfl rfl (by omega) (by omega)) ?_ | refine zb rfl rfl rfl rfl (zI rfl rfl (by omega)) ?_ | refine zb rfl rfl rfl rfl (zG rfl rfl (by omega)) ?_ | refine zb rfl rfl rfl rfl (ze qH rfl) ?_ | refine zb rfl rfl rfl rfl (zF qJ rfl rfl rfl) ?_ | refine zb rfl rfl rfl rfl (zD rfl rfl) ?_ | refine zb rfl rfl rfl rfl (zB rfl rfl) ?_ | refine zb rfl rfl rfl rfl (zq rfl rfl rfl) ?_ | refine qn rfl rfl rfl rfl ?_)
  refine zE rfl (fun h2=>?_) (fun h2=>?_)
  ·have h3:e=.e i:=of_decide_eq_true h2
   subst h3
   repeat (first | refine zg ?_ | refine WC.block ?_ | refine zc ?_ | refine zh ?_ | refine za ?_ | refine zt ?_ | refine zy ?_ | refine zx ?_ | refine zm ?_ | refine zi ?_ | refine zf ?_ | refine zn ?_ | refine zk ?_ | refine zl rfl ?_ | refine zv ?_ | refine zw ?_ | refine zj ?_ | refine zp ?_ | refine zo ?_ | refine zd rfl (Yld.add rfl rfl (by simp only [In]; omega)) ?_ | refine zd rfl (Yld.sub rfl rfl (by simp only [In]; omega)) ?_ | refine zd rfl (zC rfl rfl (by simp only [In]; omega)) ?_ | refine zd rfl (zr qH rfl rfl rfl rfl) ?_ | refine zd rfl (zu qH rfl rfl rfl (by simp only [In]; omega)) ?_ | refine zd rfl (zz rfl rfl (by omega) (by omega) (by simp only [In]; omega)) ?_ | refine zd rfl (zA rfl rfl (by omega) (by omega)) ?_ | refine zd rfl (zI rfl rfl (by omega)) ?_ | refine zd rfl (zG rfl rfl (by omega)) ?_ | refine zd rfl (ze qH rfl) ?_ | refine zd rfl (zF qJ rfl rfl rfl) ?_ | refine zd rfl (zD rfl rfl) ?_ | refine zd rfl (zB rfl rfl) ?_ | refine zd rfl (zq rfl rfl rfl) ?_ | refine zJ rfl rfl rfl rfl ?_ | refine zb rfl rfl rfl rfl (Yld.add rfl rfl (by simp only [In]; omega)) ?_ | refine zb rfl rfl rfl rfl (Yld.sub rfl rfl (by simp only [In]; omega)) ?_ | refine zb rfl rfl rfl rfl (zC rfl rfl (by simp only [In]; omega)) ?_ | refine zb rfl rfl rfl rfl (zr qH rfl rfl rfl rfl) ?_ | refine zb rfl rfl rfl rfl (zu qH rfl rfl rfl (by simp only [In]; omega)) ?_ | refine zb rfl rfl rfl rfl (zz rfl rfl (by omega) (by omega) (by simp only [In]; omega)) ?_ | refine zb rfl rfl rfl rfl (zA rfl rfl (by omega) (by omega)) ?_ | refine zb rfl rfl rfl rfl (zI rfl rfl (by omega)) ?_ | refine zb rfl rfl rfl rfl (zG rfl rfl (by omega)) ?_ | refine zb rfl rfl rfl rfl (ze qH rfl) ?_ | refine zb rfl rfl rfl rfl (zF qJ rfl rfl rfl) ?_ | refine zb rfl rfl rfl rfl (zD rfl rfl) ?_ | refine zb rfl rfl rfl rfl (zB rfl rfl) ?_ | refine zb rfl rfl rfl rfl (zq rfl rfl rfl) ?_ | refine qn rfl rfl rfl rfl ?_)
   exact zM rfl rfl ⟨hg1,_,rfl,H⟩
  ·have h3:e≠.e i:=of_decide_eq_false h2
   repeat (first | refine zg ?_ | refine WC.block ?_ | refine zc ?_ | refine zh ?_ | refine za ?_ | refine zt ?_ | refine zy ?_ | refine zx ?_ | refine zm ?_ | refine zi ?_ | refine zf ?_ | refine zn ?_ | refine zk ?_ | refine zl rfl ?_ | refine zv ?_ | refine zw ?_ | refine zj ?_ | refine zp ?_ | refine zo ?_ | refine zd rfl (Yld.add rfl rfl (by simp only [In]; omega)) ?_ | refine zd rfl (Yld.sub rfl rfl (by simp only [In]; omega)) ?_ | refine zd rfl (zC rfl rfl (by simp only [In]; omega)) ?_ | refine zd rfl (zr qH rfl rfl rfl rfl) ?_ | refine zd rfl (zu qH rfl rfl rfl (by simp only [In]; omega)) ?_ | refine zd rfl (zz rfl rfl (by omega) (by omega) (by simp only [In]; omega)) ?_ | refine zd rfl (zA rfl rfl (by omega) (by omega)) ?_ | refine zd rfl (zI rfl rfl (by omega)) ?_ | refine zd rfl (zG rfl rfl (by omega)) ?_ | refine zd rfl (ze qH rfl) ?_ | refine zd rfl (zF qJ rfl rfl rfl) ?_ | refine zd rfl (zD rfl rfl) ?_ | refine zd rfl (zB rfl rfl) ?_ | refine zd rfl (zq rfl rfl rfl) ?_ | refine zJ rfl rfl rfl rfl ?_ | refine zb rfl rfl rfl rfl (Yld.add rfl rfl (by simp only [In]; omega)) ?_ | refine zb rfl rfl rfl rfl (Yld.sub rfl rfl (by simp only [In]; omega)) ?_ | refine zb rfl rfl rfl rfl (zC rfl rfl (by simp only [In]; omega)) ?_ | refine zb rfl rfl rfl rfl (zr qH rfl rfl rfl rfl) ?_ | refine zb rfl rfl rfl rfl (zu qH rfl rfl rfl (by simp only [In]; omega)) ?_ | refine zb rfl rfl rfl rfl (zz rfl rfl (by omega) (by omega) (by simp only [In]; omega)) ?_ | refine zb rfl rfl rfl rfl (zA rfl rfl (by omega) (by omega)) ?_ | refine zb rfl rfl rfl rfl (zI rfl rfl (by omega)) ?_ | refine zb rfl rfl rfl rfl (zG rfl rfl (by omega)) ?_ | refine zb rfl rfl rfl rfl (ze qH rfl) ?_ | refine zb rfl rfl rfl rfl (zF qJ rfl rfl rfl) ?_ | refine zb rfl rfl rfl rfl (zD rfl rfl) ?_ | refine zb rfl rfl rfl rfl (zB rfl rfl) ?_ | refine zb rfl rfl rfl rfl (zq rfl rfl rfl) ?_ | refine qn rfl rfl rfl rfl ?_)
   refine zZ _ ⟨i+1,rfl,rfl,by omega,fun j hj=>?_,rfl⟩ (by repeat (first | exact zS | refine Sub.cons rfl ?_)) (by omega)
   rcases Nat.lt_or_ge j i with hji | hji
   ·exact hne j hji
   ·obtain rfl:j=i:=by omega
    exact h3
 ·simp only [decide_eq_false_iff_not] at h
  repeat (first | refine zg ?_ | refine WC.block ?_ | refine zc ?_ | refine zh ?_ | refine za ?_ | refine zt ?_ | refine zy ?_ | refine zx ?_ | refine zm ?_ | refine zi ?_ | refine zf ?_ | refine zn ?_ | refine zk ?_ | refine zl rfl ?_ | refine zv ?_ | refine zw ?_ | refine zj ?_ | refine zp ?_ | refine zo ?_ | refine zd rfl (Yld.add rfl rfl (by simp only [In]; omega)) ?_ | refine zd rfl (Yld.sub rfl rfl (by simp only [In]; omega)) ?_ | refine zd rfl (zC rfl rfl (by simp only [In]; omega)) ?_ | refine zd rfl (zr qH rfl rfl rfl rfl) ?_ | refine zd rfl (zu qH rfl rfl rfl (by simp only [In]; omega)) ?_ | refine zd rfl (zz rfl rfl (by omega) (by omega) (by simp only [In]; omega)) ?_ | refine zd rfl (zA rfl rfl (by omega) (by omega)) ?_ | refine zd rfl (zI rfl rfl (by omega)) ?_ | refine zd rfl (zG rfl rfl (by omega)) ?_ | refine zd rfl (ze qH rfl) ?_ | refine zd rfl (zF qJ rfl rfl rfl) ?_ | refine zd rfl (zD rfl rfl) ?_ | refine zd rfl (zB rfl rfl) ?_ | refine zd rfl (zq rfl rfl rfl) ?_ | refine zJ rfl rfl rfl rfl ?_ | refine zb rfl rfl rfl rfl (Yld.add rfl rfl (by simp only [In]; omega)) ?_ | refine zb rfl rfl rfl rfl (Yld.sub rfl rfl (by simp only [In]; omega)) ?_ | refine zb rfl rfl rfl rfl (zC rfl rfl (by simp only [In]; omega)) ?_ | refine zb rfl rfl rfl rfl (zr qH rfl rfl rfl rfl) ?_ | refine zb rfl rfl rfl rfl (zu qH rfl rfl rfl (by simp only [In]; omega)) ?_ | refine zb rfl rfl rfl rfl (zz rfl rfl (by omega) (by omega) (by simp only [In]; omega)) ?_ | refine zb rfl rfl rfl rfl (zA rfl rfl (by omega) (by omega)) ?_ | refine zb rfl rfl rfl rfl (zI rfl rfl (by omega)) ?_ | refine zb rfl rfl rfl rfl (zG rfl rfl (by omega)) ?_ | refine zb rfl rfl rfl rfl (ze qH rfl) ?_ | refine zb rfl rfl rfl rfl (zF qJ rfl rfl rfl) ?_ | refine zb rfl rfl rfl rfl (zD rfl rfl) ?_ | refine zb rfl rfl rfl rfl (zB rfl rfl) ?_ | refine zb rfl rfl rfl rfl (zq rfl rfl rfl) ?_ | refine qn rfl rfl rfl rfl ?_)
  refine zM rfl rfl ⟨hg1,_,rfl,?_⟩
  have:sentV e = -1:=by
   cases e with
   | e n =>
    by_cases hn:n<17
    ·exact absurd rfl (hne n (by omega))
    ·exact absurd (ErV.lt hE.1) hn
   | ok=>rfl
   | at_ p n=>rfl
  rw [this] at H
  exact H
end
 
section
open Go Go.RowKit
attribute [local irreducible] WL WC WX WQ WK WJ Yld Eff Ef0 Fn
def j8 (e:Er) (K:Int->Bool->Int->Bool->(List UInt8)->Prop):Prop :=
 ((∀ (pos:Int) (n:Nat),e=Er.at_ pos n->(((Er.e n)=Er.ok->jy (-1:Int) (fun (b5:Int) (a2:Bool) (c2:Int) (a6:Bool) (b6:List UInt8) =>
 K b5 a2 c2 a6 b6)) /\
 (¬ ((Er.e n)=Er.ok)->jD (Er.e n) (fun (t29:Int) =>
 j7 t29 pos (fun (b7:Int) (a3:Bool) (c3:Int) (a7:Bool) (b8:List UInt8) =>
 K b7 a3 c3 a7 b8))))) /\
 ((∀ p n,e≠Er.at_ p n)->jD e (fun (t13:Int) =>
 jy t13 (fun (a9:Int) (a0:Bool) (c0:Int) (a4:Bool) (b0:List UInt8) =>
 K a9 a0 c0 a4 b0))))
def kg (e:Er) (K:Int->Bool->Int->Bool->(List UInt8)->Prop):Prop :=
 ((e=Er.ok->jK (fun (c4:Int) (a8:Bool) (c8:Int) (b9:Bool) (c5:List UInt8) =>
 K c4 a8 c8 b9 c5)) /\
 (¬ (e=Er.ok)->j8 e (fun (b3:Int) (a1:Bool) (c1:Int) (a5:Bool) (b4:List UInt8) =>
 K b3 a1 c1 a5 b4)))
def km (e:Er) (f_Code:Int) (f_Placed:Bool) (f_Pos:Int) (f_Filed:Bool) (f_File:List UInt8) (K:Bool->Prop):Prop :=
 kg e (fun (d1:Int) (c6:Bool) (d5:Int) (c9:Bool) (d2:List UInt8) =>
 jP d1 c6 d5 c9 d2 f_Code f_Placed f_Pos f_Filed f_File (fun (t4:Bool) =>
 K t4))
def jL (e:Er) (code:Int) (K:Bool->Prop):Prop :=
 jy code (fun (d3:Int) (c7:Bool) (d6:Int) (d0:Bool) (d4:List UInt8) =>
 km e d3 c7 d6 d0 d4 (fun (t4:Bool) =>
 K t4))
set_option maxHeartbeats 8000000 in
theorem W_smithysee_placed {S:List Nat} {w:World} {v_e:Value} {e:Er} {K:Int->Bool->Int->Bool->(List UInt8)->Prop} (hG:GOK S w) (hS0:0∈S) (hS1:1∈S) (hS2:2∈S) (hS3:3∈S) (hS4:4∈S) (hS5:5∈S) (hS6:6∈S) (hS7:7∈S) (hS8:8∈S) (hS9:9∈S) (hS10:10∈S) (hS11:11∈S) (hS12:12∈S) (hS13:13∈S) (hS14:14∈S) (hS15:15∈S) (hS16:16∈S) (he:ErrR S w v_e e) (H:j8 e K):Fn Tryz.prog 184 ⟨[v_e]⟩ w (fun v w'=>w.grownBy w' none/\∃ (r_Code:Int),∃ (r_Placed:Bool),∃ (r_Pos:Int),∃ (r_Filed:Bool),∃ (r_File:List UInt8),v=.agg ⟨[.int .i64 r_Code,.bool r_Placed,.int .i64 r_Pos,.bool r_Filed,vs r_File]⟩/\K r_Code r_Placed r_Pos r_Filed r_File):=by
 unfold j8 at H
 refine Fn.enter (by kernel_rfl) Tryz.func184 rfl Tryz.ntmps184 rfl ?_
 refine zg (zc (WL.alloc rfl zero142 (fun g1 w1 hB1 hg1 hl1=>?_)))
 have gr1:=hg1
 refine zh (za (zg (zc (yp (h:=?_)))))
 rcases Er.atCases e with ⟨pos,n,he1⟩ | he1
 ·replace H:=H.1 pos n he1
  obtain ⟨b1,vE1,hv1,hB2,hE1⟩:=ErrR.atOut (he1 ▸ (he.grown gr1))
  refine zd rfl (Yld.assertYes Tryz.underlying298 rfl hv1) (yp (h:=(yp (h:=(yp (h:=(yp (h:=(yp (h:=(zh (za (zg (zg (zc (yp (h:=(yp (h:=(zh (za (zE rfl (fun h=>by cases h) (fun _=>zt (za (zg (zg (zc (yp (h:=(zd rfl (qB Tryz.underlying298 rfl rfl) (yp (h:=(zV 6 (fun L' w'=>∃ q1:Bool,L'=[(23,.bool q1),(2,.pointer (some ⟨g1,0,none⟩)),(3,.pointer (some ⟨b1,0,none⟩))]/\(decide ((Er.e n)=Er.ok))=q1/\w1=w') ?_ (fun hQ=>?_))))))))))))))))))))))))))))))))))
  ·rintro _ _ ⟨q1,rfl,rfl,rfl⟩
   refine zh (za (zE rfl (fun b2=>?_) (fun b2=>?_)))
   ·replace H:=H.1 (of_decide_eq_true b2)
    refine zg (zc (zK rfl rfl (W_smithyref_Bare H) ?_))
    rintro _ w2 ⟨hg2,b5,a2,c2,a6,b6,rfl,H⟩
    exact zT (vs:=[.int .i64 b5,.bool a2,.int .i64 c2,.bool a6,vs b6]) qH rfl rfl rfl (qO rfl (qO rfl (qO rfl (qO rfl (qO rfl jf))))) (hB1.g0 hg2) rfl rfl (fun w3 hB3 hg3=>zh (za (zx (zi (qc qH rfl rfl rfl hB3 rfl ⟨(qT (qI gr1 hg2) hg3 (Ge.le (Ge.box hl1) (Nat.le_refl _))),b5,a2,c2,a6,b6,rfl,H⟩)))))
   ·replace H:=H.2 (of_decide_eq_false b2)
    refine zt (za (zg (zY (fun k => !(Nat.beq k 4 || Nat.beq k 9 || Nat.beq k 10)) (LD [3,8] (fun w'=>Bl w' b1 302 [.int .i64 pos,vE1])) jg (by kernel_rfl) (fun k w' h _=>(jz h hB2)) (zL rfl rfl (fun w' hw'=>ze qH rfl) (zL rfl rfl (fun w' hw'=>ze qH rfl) (zL rfl rfl (fun w' hw'=>ze qH rfl) (zL rfl rfl (fun w' hw'=>zH qH (hw' rfl) rfl rfl rfl) (z9 rfl (qK) rfl rfl (W_smithysee_sentinel (hG.grown gr1) hS0 hS1 hS2 hS3 hS4 hS5 hS6 hS7 hS8 hS9 hS10 hS11 hS12 hS13 hS14 hS15 hS16 hE1 H) (fun v w' h w2 e=>DD.keep (Bl.g0 hB2 (qN h.1 e))) ?_))))))))
    rintro _ w4 ⟨hg4,t29,rfl,H⟩
    have k3:=hE1.grown hg4
    have k4:=hB2.g0 hg4
    refine zL rfl rfl (fun w' hw'=>ze qH rfl) (zL rfl rfl (fun w' hw'=>ze qH rfl) (zL rfl rfl (fun w' hw'=>ze qH rfl) (zL rfl rfl (fun w' hw'=>zH qH (hw' rfl) rfl rfl rfl) (z9 rfl (qK) rfl rfl (W_smithyref_Placed H) (fun v w' h w2 e=>DD.keep (Bl.g0 k4 (qN h.1 e))) ?_))))
    rintro _ w5 ⟨hg5,b7,a3,c3,a7,b8,rfl,H⟩
    have k6:=k4.g0 hg5
    refine qt rfl (zU (vs:=[.int .i64 b7,.bool a3,.int .i64 c3,.bool a7,vs b8]) qH rfl rfl rfl (qO rfl (qO rfl (qO rfl (qO rfl (qO rfl jf))))) ((hB1.g0 hg4).g0 hg5) rfl rfl) (fun w' h=>qi (by kernel_rfl)) ?_
    rintro w6 ⟨hB4,hg6⟩
    exact qh (za (zx (qc qH rfl rfl rfl hB4 rfl ⟨(qT (qI (qI gr1 hg4) hg5) hg6 (Ge.le (Ge.box hl1) (Nat.le_refl _))),b7,a3,c3,a7,b8,rfl,H⟩)))
  ·clear H
   exact zb rfl rfl (rfl) rfl (ze qH rfl) (zb rfl rfl (rfl) rfl (ze qH rfl) (zb rfl rfl (rfl) rfl (ze qH rfl) (zb rfl rfl (rfl) rfl (zH qH hB2 rfl rfl rfl) (zb rfl rfl (rfl) rfl (qq Tryz.underlying43 hE1 rfl) (zd rfl (zN (rfl) rfl) (wk (hQ _ _ ⟨decide ((Er.e n)=Er.ok),rfl,rfl,rfl⟩)))))))
 ·replace H:=H.2 he1
  refine zd rfl (Yld.assertNo Tryz.underlying298 (fun _=>by kernel_rfl) (he.grown gr1) rfl rfl (.inr he1)) (yp (h:=(yp (h:=(yp (h:=(yp (h:=(yp (h:=(zh (za (zg (zg (zc (yp (h:=(yp (h:=(zh (za (zE rfl (fun _=>zg (zc (yp (h:=(zK rfl rfl (W_smithysee_sentinel (hG.grown gr1) hS0 hS1 hS2 hS3 hS4 hS5 hS6 hS7 hS8 hS9 hS10 hS11 hS12 hS13 hS14 hS15 hS16 (he.grown gr1) H) ?_))))) (fun h=>by cases h)))))))))))))))))))))))
  rintro _ w7 ⟨hg7,t13,rfl,H⟩
  refine zK rfl rfl (W_smithyref_Bare H) ?_
  rintro _ w8 ⟨hg8,a9,a0,c0,a4,b0,rfl,H⟩
  exact zT (vs:=[.int .i64 a9,.bool a0,.int .i64 c0,.bool a4,vs b0]) qH rfl rfl rfl (qO rfl (qO rfl (qO rfl (qO rfl (qO rfl jf))))) ((hB1.g0 hg7).g0 hg8) rfl rfl (fun w9 hB5 hg9=>zh (za (zx (zi (qc qH rfl rfl rfl hB5 rfl ⟨(qT (qI (qI gr1 hg7) hg8) hg9 (Ge.le (Ge.box hl1) (Nat.le_refl _))),a9,a0,c0,a4,b0,rfl,H⟩)))))
set_option maxHeartbeats 8000000 in
theorem W_smithysee_Fault {S:List Nat} {w:World} {v_e:Value} {e:Er} {K:Int->Bool->Int->Bool->(List UInt8)->Prop} (hG:GOK S w) (hS0:0∈S) (hS1:1∈S) (hS2:2∈S) (hS3:3∈S) (hS4:4∈S) (hS5:5∈S) (hS6:6∈S) (hS7:7∈S) (hS8:8∈S) (hS9:9∈S) (hS10:10∈S) (hS11:11∈S) (hS12:12∈S) (hS13:13∈S) (hS14:14∈S) (hS15:15∈S) (hS16:16∈S) (he:ErrR S w v_e e) (H:kg e K):Fn Tryz.prog 134 ⟨[v_e]⟩ w (fun v w'=>w.grownBy w' none/\∃ (r_Code:Int),∃ (r_Placed:Bool),∃ (r_Pos:Int),∃ (r_Filed:Bool),∃ (r_File:List UInt8),v=.agg ⟨[.int .i64 r_Code,.bool r_Placed,.int .i64 r_Pos,.bool r_Filed,vs r_File]⟩/\K r_Code r_Placed r_Pos r_Filed r_File):=by
 unfold kg at H
 refine Fn.enter (by kernel_rfl) Tryz.func134 rfl Tryz.ntmps134 rfl ?_
 refine zg (zc (WL.alloc rfl zero142 (fun g1 w1 hB1 hg1 hl1=>?_)))
 have gr1:=hg1
 refine zh (za (zg (zg (zc (yp (h:=(zd rfl (qq Tryz.underlying43 (he.grown gr1) rfl) (zh (za (zE rfl (fun b1=>?_) (fun b1=>?_)))))))))))
 ·replace H:=H.1 (of_decide_eq_true b1)
  refine zg (zc (zK rfl rfl (W_smithyref_None H) ?_))
  rintro _ w2 ⟨hg2,c4,a8,c8,b9,c5,rfl,H⟩
  exact zT (vs:=[.int .i64 c4,.bool a8,.int .i64 c8,.bool b9,vs c5]) qH rfl rfl rfl (qO rfl (qO rfl (qO rfl (qO rfl (qO rfl jf))))) (hB1.g0 hg2) rfl rfl (fun w3 hB2 hg3=>zh (za (zx (zi (qc qH rfl rfl rfl hB2 rfl ⟨(qT (qI gr1 hg2) hg3 (Ge.le (Ge.box hl1) (Nat.le_refl _))),c4,a8,c8,b9,c5,rfl,H⟩)))))
 ·replace H:=H.2 (of_decide_eq_false b1)
  refine zt (za (zg (zc (yp (h:=(zd rfl (Yld.assertNo Tryz.underlying275 (fun _=>by kernel_rfl) (he.grown gr1) rfl rfl (.inl rfl)) (yp (h:=(yp (h:=(yp (h:=(yp (h:=(yp (h:=(zh (za (zg (zg (zc (yp (h:=(yp (h:=(zh (za (zE rfl (fun _=>zg (zc (yp (h:=(zK rfl rfl (W_smithysee_placed (hG.grown gr1) hS0 hS1 hS2 hS3 hS4 hS5 hS6 hS7 hS8 hS9 hS10 hS11 hS12 hS13 hS14 hS15 hS16 (he.grown gr1) H) ?_))))) (fun h=>by cases h)))))))))))))))))))))))))))))
  rintro _ w4 ⟨hg4,b3,a1,c1,a5,b4,rfl,H⟩
  exact zT (vs:=[.int .i64 b3,.bool a1,.int .i64 c1,.bool a5,vs b4]) qH rfl rfl rfl (qO rfl (qO rfl (qO rfl (qO rfl (qO rfl jf))))) (hB1.g0 hg4) rfl rfl (fun w5 hB3 hg5=>zh (za (zx (zi (qc qH rfl rfl rfl hB3 rfl ⟨(qT (qI gr1 hg4) hg5 (Ge.le (Ge.box hl1) (Nat.le_refl _))),b3,a1,c1,a5,b4,rfl,H⟩)))))
set_option maxHeartbeats 8000000 in
theorem W_smithysee_Same {S:List Nat} {w:World} {v_e:Value} {e:Er} {f_Code:Int} {f_Placed:Bool} {f_Pos:Int} {f_Filed:Bool} {f_File:List UInt8} {K:Bool->Prop} (hG:GOK S w) (hS0:0∈S) (hS1:1∈S) (hS2:2∈S) (hS3:3∈S) (hS4:4∈S) (hS5:5∈S) (hS6:6∈S) (hS7:7∈S) (hS8:8∈S) (hS9:9∈S) (hS10:10∈S) (hS11:11∈S) (hS12:12∈S) (hS13:13∈S) (hS14:14∈S) (hS15:15∈S) (hS16:16∈S) (he:ErrR S w v_e e) (H:km e f_Code f_Placed f_Pos f_Filed f_File K):Fn Tryz.prog 78 ⟨[v_e,.agg ⟨[.int .i64 f_Code,.bool f_Placed,.int .i64 f_Pos,.bool f_Filed,vs f_File]⟩]⟩ w (fun v w'=>w.grownBy w' none/\∃ (r:Bool),v=.bool r/\K r):=by
 unfold km at H
 refine Fn.enter (by kernel_rfl) Tryz.func78 rfl Tryz.ntmps78 rfl ?_
 refine zg (zc (z4 (us:=[.int .i64 f_Code,.bool f_Placed,.int .i64 f_Pos,.bool f_Filed,vs f_File]) rfl rfl rfl (fun g1 w1 hB1 hg1 hl1=>?_)))
 have gr1:=hg1
 refine yp (h:=(zh (za (zg (zY (fun k => !(Nat.beq k 1 || Nat.beq k 3)) (LD [2] (fun w'=>Bl w' g1 142 [.int .i64 f_Code,.bool f_Placed,.int .i64 f_Pos,.bool f_Filed,vs f_File])) jg (by kernel_rfl) (fun k w' h _=>(jz h hB1)) (zL rfl rfl (fun w' hw'=>ze qH rfl) (z9 rfl (qK) rfl rfl (W_smithysee_Fault (hG.grown gr1) hS0 hS1 hS2 hS3 hS4 hS5 hS6 hS7 hS8 hS9 hS10 hS11 hS12 hS13 hS14 hS15 hS16 (he.grown gr1) H) (fun v w' h w2 e=>DD.keep (Bl.g0 hB1 (qN h.1 e))) ?_)))))))
 rintro _ w2 ⟨hg2,d1,c6,d5,c9,d2,rfl,H⟩
 have k1:=hB1.g0 hg2
 refine zL rfl rfl (fun w' hw'=>zO (vs:=[.int .i64 f_Code,.bool f_Placed,.int .i64 f_Pos,.bool f_Filed,vs f_File]) qH (hw' rfl) rfl rfl rfl rfl) (z9 rfl (qK) rfl rfl (W_smithyref_SameFault H) (fun v w' h w2 e=>DD.keep (Bl.g0 k1 (qN h.1 e))) ?_)
 rintro _ w3 ⟨hg3,t4,rfl,H⟩
 have k2:=k1.g0 hg3
 exact zL rfl rfl (fun w' hw'=>ze qH rfl) (qh (za (zx (zM rfl rfl ⟨(qI (qI gr1 hg2) hg3),t4,rfl,H⟩))))
set_option maxHeartbeats 8000000 in
theorem W_smithysee_Is {S:List Nat} {w:World} {v_e:Value} {e:Er} {code:Int} {K:Bool->Prop} (hG:GOK S w) (hS0:0∈S) (hS1:1∈S) (hS2:2∈S) (hS3:3∈S) (hS4:4∈S) (hS5:5∈S) (hS6:6∈S) (hS7:7∈S) (hS8:8∈S) (hS9:9∈S) (hS10:10∈S) (hS11:11∈S) (hS12:12∈S) (hS13:13∈S) (hS14:14∈S) (hS15:15∈S) (hS16:16∈S) (he:ErrR S w v_e e) (H:jL e code K):Fn Tryz.prog 15 ⟨[v_e,.int .i64 code]⟩ w (fun v w'=>w.grownBy w' none/\∃ (r:Bool),v=.bool r/\K r):=by
 unfold jL at H
 refine Fn.enter (by kernel_rfl) Tryz.func15 rfl Tryz.ntmps15 rfl ?_
 refine zg (zc (yp (h:=(zh (za (zg (zc (yp (h:=(yp (h:=(zK rfl rfl (W_smithyref_Bare H) ?_))))))))))))
 rintro _ w1 ⟨hg1,d3,c7,d6,d0,d4,rfl,H⟩
 have gr1:=hg1
 refine zK rfl rfl (W_smithysee_Same (hG.grown gr1) hS0 hS1 hS2 hS3 hS4 hS5 hS6 hS7 hS8 hS9 hS10 hS11 hS12 hS13 hS14 hS15 hS16 (he.grown gr1) H) ?_
 rintro _ w2 ⟨hg2,t4,rfl,H⟩
 exact yp (h:=(zh (za (zx (zM rfl rfl ⟨(qI gr1 hg2),t4,rfl,H⟩)))))
end
 
section
open Go Go.RowKit
attribute [local irreducible] WL WC WX WQ WK WJ Yld Eff Ef0 Fn
def jh (n:Int) (K:PV->Prop):Prop:=(-9223372036854775808<=n/\n<=9223372036854775807)/\K (.int n)
theorem jo {w:World} {n:Int} {K:PV->Prop} (H:jh n K):Fn Tryz.prog 33 ⟨[.int .i64 n]⟩ w (fun v w'=>w.grownBy w' none/\∃ (v_r:OV),∃ (F_r:Nat->Prop),∃ (r:PV),v=v_r.1/\RelD deV w' [(v_r,F_r)] [r]/\(∀ p:Option Nat,Lt p w.heap.size->DnD deV [(v_r,F_r)] [r] p)/\K r):=by
 obtain ⟨⟨h1,h2⟩,hK⟩:=H
 refine Fn.enter (by kernel_rfl) Tryz.func33 rfl Tryz.ntmps33 rfl ?_
 repeat (first | refine zg ?_ | refine WC.block ?_ | refine zc ?_ | refine zh ?_ | refine za ?_ | refine zt ?_ | refine zy ?_ | refine zx ?_ | refine zm ?_ | refine zi ?_ | refine zf ?_ | refine zn ?_ | refine zk ?_ | refine zl rfl ?_ | refine zv ?_ | refine zw ?_ | refine zj ?_ | refine zp ?_ | refine zo ?_ | refine zd rfl (Yld.add rfl rfl (by simp only [In]; omega)) ?_ | refine zd rfl (Yld.sub rfl rfl (by simp only [In]; omega)) ?_ | refine zd rfl (zC rfl rfl (by simp only [In]; omega)) ?_ | refine zd rfl (zr qH rfl rfl rfl rfl) ?_ | refine zd rfl (zu qH rfl rfl rfl (by simp only [In]; omega)) ?_ | refine zd rfl (zz rfl rfl (by omega) (by omega) (by simp only [In]; omega)) ?_ | refine zd rfl (zA rfl rfl (by omega) (by omega)) ?_ | refine zd rfl (zI rfl rfl (by omega)) ?_ | refine zd rfl (zG rfl rfl (by omega)) ?_ | refine zd rfl (ze qH rfl) ?_ | refine zd rfl (zF qJ rfl rfl rfl) ?_ | refine zd rfl (zD rfl rfl) ?_ | refine zd rfl (zB rfl rfl) ?_ | refine zd rfl (zq rfl rfl rfl) ?_ | refine zJ rfl rfl rfl rfl ?_ | refine zb rfl rfl rfl rfl (Yld.add rfl rfl (by simp only [In]; omega)) ?_ | refine zb rfl rfl rfl rfl (Yld.sub rfl rfl (by simp only [In]; omega)) ?_ | refine zb rfl rfl rfl rfl (zC rfl rfl (by simp only [In]; omega)) ?_ | refine zb rfl rfl rfl rfl (zr qH rfl rfl rfl rfl) ?_ | refine zb rfl rfl rfl rfl (zu qH rfl rfl rfl (by simp only [In]; omega)) ?_ | refine zb rfl rfl rfl rfl (zz rfl rfl (by omega) (by omega) (by simp only [In]; omega)) ?_ | refine zb rfl rfl rfl rfl (zA rfl rfl (by omega) (by omega)) ?_ | refine zb rfl rfl rfl rfl (zI rfl rfl (by omega)) ?_ | refine zb rfl rfl rfl rfl (zG rfl rfl (by omega)) ?_ | refine zb rfl rfl rfl rfl (ze qH rfl) ?_ | refine zb rfl rfl rfl rfl (zF qJ rfl rfl rfl) ?_ | refine zb rfl rfl rfl rfl (zD rfl rfl) ?_ | refine zb rfl rfl rfl rfl (zB rfl rfl) ?_ | refine zb rfl rfl rfl rfl (zq rfl rfl rfl) ?_)
 refine zK rfl rfl (of_fn' n w h1 h2) ?_
 rintro u w1 ⟨hN,hg,hL⟩
 obtain ⟨a,b,rfl,ha,hb⟩:=hN.agg
 have hint:Fn Tryz.prog 69 ⟨[.agg ⟨[a,b]⟩]⟩ w1 fun v w'=>v=.iface 208 (.agg ⟨[a,b]⟩)/\w1.grownBy w' none:=by
  refine Fn.enter (by kernel_rfl) Tryz.func69 rfl Tryz.ntmps69 rfl ?_
  repeat (first | refine zg ?_ | refine WC.block ?_ | refine zc ?_ | refine zh ?_ | refine za ?_ | refine zt ?_ | refine zy ?_ | refine zx ?_ | refine zm ?_ | refine zi ?_ | refine zf ?_ | refine zn ?_ | refine zk ?_ | refine zl rfl ?_ | refine zv ?_ | refine zw ?_ | refine zj ?_ | refine zp ?_ | refine zo ?_ | refine zd rfl (Yld.add rfl rfl (by simp only [In]; omega)) ?_ | refine zd rfl (Yld.sub rfl rfl (by simp only [In]; omega)) ?_ | refine zd rfl (zC rfl rfl (by simp only [In]; omega)) ?_ | refine zd rfl (zr qH rfl rfl rfl rfl) ?_ | refine zd rfl (zu qH rfl rfl rfl (by simp only [In]; omega)) ?_ | refine zd rfl (zz rfl rfl (by omega) (by omega) (by simp only [In]; omega)) ?_ | refine zd rfl (zA rfl rfl (by omega) (by omega)) ?_ | refine zd rfl (zI rfl rfl (by omega)) ?_ | refine zd rfl (zG rfl rfl (by omega)) ?_ | refine zd rfl (ze qH rfl) ?_ | refine zd rfl (zF qJ rfl rfl rfl) ?_ | refine zd rfl (zD rfl rfl) ?_ | refine zd rfl (zB rfl rfl) ?_ | refine zd rfl (zq rfl rfl rfl) ?_ | refine zJ rfl rfl rfl rfl ?_ | refine zb rfl rfl rfl rfl (Yld.add rfl rfl (by simp only [In]; omega)) ?_ | refine zb rfl rfl rfl rfl (Yld.sub rfl rfl (by simp only [In]; omega)) ?_ | refine zb rfl rfl rfl rfl (zC rfl rfl (by simp only [In]; omega)) ?_ | refine zb rfl rfl rfl rfl (zr qH rfl rfl rfl rfl) ?_ | refine zb rfl rfl rfl rfl (zu qH rfl rfl rfl (by simp only [In]; omega)) ?_ | refine zb rfl rfl rfl rfl (zz rfl rfl (by omega) (by omega) (by simp only [In]; omega)) ?_ | refine zb rfl rfl rfl rfl (zA rfl rfl (by omega) (by omega)) ?_ | refine zb rfl rfl rfl rfl (zI rfl rfl (by omega)) ?_ | refine zb rfl rfl rfl rfl (zG rfl rfl (by omega)) ?_ | refine zb rfl rfl rfl rfl (ze qH rfl) ?_ | refine zb rfl rfl rfl rfl (zF qJ rfl rfl rfl) ?_ | refine zb rfl rfl rfl rfl (zD rfl rfl) ?_ | refine zb rfl rfl rfl rfl (zB rfl rfl) ?_ | refine zb rfl rfl rfl rfl (zq rfl rfl rfl) ?_)
  refine z4 (us:=[a,b]) rfl rfl rfl (fun g w2 hB hg hl=>?_)
  repeat (first | refine zg ?_ | refine WC.block ?_ | refine zc ?_ | refine zh ?_ | refine za ?_ | refine zt ?_ | refine zy ?_ | refine zx ?_ | refine zm ?_ | refine zi ?_ | refine zf ?_ | refine zn ?_ | refine zk ?_ | refine zl rfl ?_ | refine zv ?_ | refine zw ?_ | refine zj ?_ | refine zp ?_ | refine zo ?_ | refine zd rfl (Yld.add rfl rfl (by simp only [In]; omega)) ?_ | refine zd rfl (Yld.sub rfl rfl (by simp only [In]; omega)) ?_ | refine zd rfl (zC rfl rfl (by simp only [In]; omega)) ?_ | refine zd rfl (zr qH rfl rfl rfl rfl) ?_ | refine zd rfl (zu qH rfl rfl rfl (by simp only [In]; omega)) ?_ | refine zd rfl (zz rfl rfl (by omega) (by omega) (by simp only [In]; omega)) ?_ | refine zd rfl (zA rfl rfl (by omega) (by omega)) ?_ | refine zd rfl (zI rfl rfl (by omega)) ?_ | refine zd rfl (zG rfl rfl (by omega)) ?_ | refine zd rfl (ze qH rfl) ?_ | refine zd rfl (zF qJ rfl rfl rfl) ?_ | refine zd rfl (zD rfl rfl) ?_ | refine zd rfl (zB rfl rfl) ?_ | refine zd rfl (zq rfl rfl rfl) ?_ | refine zJ rfl rfl rfl rfl ?_ | refine zb rfl rfl rfl rfl (Yld.add rfl rfl (by simp only [In]; omega)) ?_ | refine zb rfl rfl rfl rfl (Yld.sub rfl rfl (by simp only [In]; omega)) ?_ | refine zb rfl rfl rfl rfl (zC rfl rfl (by simp only [In]; omega)) ?_ | refine zb rfl rfl rfl rfl (zr qH rfl rfl rfl rfl) ?_ | refine zb rfl rfl rfl rfl (zu qH rfl rfl rfl (by simp only [In]; omega)) ?_ | refine zb rfl rfl rfl rfl (zz rfl rfl (by omega) (by omega) (by simp only [In]; omega)) ?_ | refine zb rfl rfl rfl rfl (zA rfl rfl (by omega) (by omega)) ?_ | refine zb rfl rfl rfl rfl (zI rfl rfl (by omega)) ?_ | refine zb rfl rfl rfl rfl (zG rfl rfl (by omega)) ?_ | refine zb rfl rfl rfl rfl (ze qH rfl) ?_ | refine zb rfl rfl rfl rfl (zF qJ rfl rfl rfl) ?_ | refine zb rfl rfl rfl rfl (zD rfl rfl) ?_ | refine zb rfl rfl rfl rfl (zB rfl rfl) ?_ | refine zb rfl rfl rfl rfl (zq rfl rfl rfl) ?_)
  refine zd rfl (zO (vs:=[a,b]) qH hB rfl rfl rfl rfl) ?_
  refine zd rfl (z3 (us:=[a,b]) (vs:=[(1,.agg ⟨[a,b]⟩)]) zero208 places208 rfl rfl) ?_
  refine zd rfl (Yld.mki Tryz.underlying208 rfl rfl) ?_
  repeat (first | refine zg ?_ | refine WC.block ?_ | refine zc ?_ | refine zh ?_ | refine za ?_ | refine zt ?_ | refine zy ?_ | refine zx ?_ | refine zm ?_ | refine zi ?_ | refine zf ?_ | refine zn ?_ | refine zk ?_ | refine zl rfl ?_ | refine zv ?_ | refine zw ?_ | refine zj ?_ | refine zp ?_ | refine zo ?_ | refine zd rfl (Yld.add rfl rfl (by simp only [In]; omega)) ?_ | refine zd rfl (Yld.sub rfl rfl (by simp only [In]; omega)) ?_ | refine zd rfl (zC rfl rfl (by simp only [In]; omega)) ?_ | refine zd rfl (zr qH rfl rfl rfl rfl) ?_ | refine zd rfl (zu qH rfl rfl rfl (by simp only [In]; omega)) ?_ | refine zd rfl (zz rfl rfl (by omega) (by omega) (by simp only [In]; omega)) ?_ | refine zd rfl (zA rfl rfl (by omega) (by omega)) ?_ | refine zd rfl (zI rfl rfl (by omega)) ?_ | refine zd rfl (zG rfl rfl (by omega)) ?_ | refine zd rfl (ze qH rfl) ?_ | refine zd rfl (zF qJ rfl rfl rfl) ?_ | refine zd rfl (zD rfl rfl) ?_ | refine zd rfl (zB rfl rfl) ?_ | refine zd rfl (zq rfl rfl rfl) ?_ | refine zJ rfl rfl rfl rfl ?_ | refine zb rfl rfl rfl rfl (Yld.add rfl rfl (by simp only [In]; omega)) ?_ | refine zb rfl rfl rfl rfl (Yld.sub rfl rfl (by simp only [In]; omega)) ?_ | refine zb rfl rfl rfl rfl (zC rfl rfl (by simp only [In]; omega)) ?_ | refine zb rfl rfl rfl rfl (zr qH rfl rfl rfl rfl) ?_ | refine zb rfl rfl rfl rfl (zu qH rfl rfl rfl (by simp only [In]; omega)) ?_ | refine zb rfl rfl rfl rfl (zz rfl rfl (by omega) (by omega) (by simp only [In]; omega)) ?_ | refine zb rfl rfl rfl rfl (zA rfl rfl (by omega) (by omega)) ?_ | refine zb rfl rfl rfl rfl (zI rfl rfl (by omega)) ?_ | refine zb rfl rfl rfl rfl (zG rfl rfl (by omega)) ?_ | refine zb rfl rfl rfl rfl (ze qH rfl) ?_ | refine zb rfl rfl rfl rfl (zF qJ rfl rfl rfl) ?_ | refine zb rfl rfl rfl rfl (zD rfl rfl) ?_ | refine zb rfl rfl rfl rfl (zB rfl rfl) ?_ | refine zb rfl rfl rfl rfl (zq rfl rfl rfl) ?_)
  exact zM rfl rfl ⟨rfl,hg⟩
 refine zK rfl rfl hint ?_
 rintro v w2 ⟨rfl,hg2⟩
 repeat (first | refine zg ?_ | refine WC.block ?_ | refine zc ?_ | refine zh ?_ | refine za ?_ | refine zt ?_ | refine zy ?_ | refine zx ?_ | refine zm ?_ | refine zi ?_ | refine zf ?_ | refine zn ?_ | refine zk ?_ | refine zl rfl ?_ | refine zv ?_ | refine zw ?_ | refine zj ?_ | refine zp ?_ | refine zo ?_ | refine zd rfl (Yld.add rfl rfl (by simp only [In]; omega)) ?_ | refine zd rfl (Yld.sub rfl rfl (by simp only [In]; omega)) ?_ | refine zd rfl (zC rfl rfl (by simp only [In]; omega)) ?_ | refine zd rfl (zr qH rfl rfl rfl rfl) ?_ | refine zd rfl (zu qH rfl rfl rfl (by simp only [In]; omega)) ?_ | refine zd rfl (zz rfl rfl (by omega) (by omega) (by simp only [In]; omega)) ?_ | refine zd rfl (zA rfl rfl (by omega) (by omega)) ?_ | refine zd rfl (zI rfl rfl (by omega)) ?_ | refine zd rfl (zG rfl rfl (by omega)) ?_ | refine zd rfl (ze qH rfl) ?_ | refine zd rfl (zF qJ rfl rfl rfl) ?_ | refine zd rfl (zD rfl rfl) ?_ | refine zd rfl (zB rfl rfl) ?_ | refine zd rfl (zq rfl rfl rfl) ?_ | refine zJ rfl rfl rfl rfl ?_ | refine zb rfl rfl rfl rfl (Yld.add rfl rfl (by simp only [In]; omega)) ?_ | refine zb rfl rfl rfl rfl (Yld.sub rfl rfl (by simp only [In]; omega)) ?_ | refine zb rfl rfl rfl rfl (zC rfl rfl (by simp only [In]; omega)) ?_ | refine zb rfl rfl rfl rfl (zr qH rfl rfl rfl rfl) ?_ | refine zb rfl rfl rfl rfl (zu qH rfl rfl rfl (by simp only [In]; omega)) ?_ | refine zb rfl rfl rfl rfl (zz rfl rfl (by omega) (by omega) (by simp only [In]; omega)) ?_ | refine zb rfl rfl rfl rfl (zA rfl rfl (by omega) (by omega)) ?_ | refine zb rfl rfl rfl rfl (zI rfl rfl (by omega)) ?_ | refine zb rfl rfl rfl rfl (zG rfl rfl (by omega)) ?_ | refine zb rfl rfl rfl rfl (ze qH rfl) ?_ | refine zb rfl rfl rfl rfl (zF qJ rfl rfl rfl) ?_ | refine zb rfl rfl rfl rfl (zD rfl rfl) ?_ | refine zb rfl rfl rfl rfl (zB rfl rfl) ?_ | refine zb rfl rfl rfl rfl (zq rfl rfl rfl) ?_)
 have hN2:=hN.grown hg2
 refine zM rfl rfl ⟨qI hg hg2,⟨.iface 208 (.agg ⟨[a,b]⟩),rfl⟩,fun q=>w.heap.size<=q/\q<w2.heap.size,.int n,rfl,RelD.cons ⟨⟨a,b,rfl,hN2,?_⟩,fun q hq=>hq.2⟩ RelD.nil,fun p hp=>DnD.cons (fun q e hq=>?_) DnD.nil,hK⟩
 ·intro neg A m c e q hq
  have:=hL neg A m c e q hq
  have:=hg2.size
  omega
 ·have:=hp q e
  omega
end
 
section
open Go Go.RowKit
end
 
section
open Go Go.RowKit
end
 
section
open Go Go.RowKit
attribute [local irreducible] WL WC WX WQ WK WJ Yld Eff Ef0 Fn
def M_val_NewList (l:List PV) (K0:Prop) (K:(List PV)->Bool->Int->Prop):Prop :=
 (l.length<=maxLen ->
 qZ l (fun (t4:List PV) =>
 K t4 false (0:Int)))
def ke (l_l:List PV) (l_frozen:Bool) (l_over:Int) (K:Bool->Prop):Prop :=
 (l_l.length<=maxLen ->
 K ((!l_frozen) && (decide (l_over=(0:Int)))))
def M_pval_List_Len (l_l:List PV) (l_frozen:Bool) (l_over:Int) (K:Int->Prop):Prop :=
 (l_l.length<=maxLen ->
 K (l_l.length:Int))
def M_pval_List_Kind (p0_l:List PV) (p0_frozen:Bool) (p0_over:Int) (K:Int->Prop):Prop :=
 (p0_l.length<=maxLen ->
 K (5:Int))
def M_pval_List_Add (l_l:List PV) (l_frozen:Bool) (l_over:Int) (items:List PV) (K:(List PV)->Bool->Int->Prop):Prop :=
 (l_l.length<=maxLen ->
 (items.length<=maxLen ->
 ((l_l.length+items.length)*16<=140737488355328) /\
 K (l_l++items) l_frozen l_over))
def M_val_items_List0 (v_l:List PV) (v_frozen:Bool) (v_over:Int) (K:(List PV)->Bool->Prop):Prop :=
 (v_l.length<=maxLen ->
 qZ v_l (fun (t2:List PV) =>
 K t2 true))
def M_val_Items_List0 (v_l:List PV) (v_frozen:Bool) (v_over:Int) (K:(List PV)->Bool->Prop):Prop :=
 (v_l.length<=maxLen ->
 M_val_items_List0 v_l v_frozen v_over (fun (t50:List PV) (t51:Bool) =>
 K t50 t51))
def M_val_hold_List0 (v_l:List PV) (v_frozen:Bool) (v_over:Int) (by_:Int) (K:(List PV)->Bool->Int->Prop):Prop :=
 (v_l.length<=maxLen ->
 (In .i64 (v_over+by_)) /\
 K v_l v_frozen (v_over+by_))
def j3 (v_l:List PV) (v_frozen:Bool) (v_over:Int) (by_:Int) (K:(List PV)->Bool->Int->Prop):Prop :=
 (v_l.length<=maxLen ->
 M_val_hold_List0 v_l v_frozen v_over by_ (fun (v_:List PV) (v_2:Bool) (v_3:Int) =>
 K v_ v_2 v_3))
def kc (v_l:List PV) (v_frozen:Bool) (v_over:Int) (K0:Er->(List PV)->Bool->Int->Prop) (K:(List PV)->Int->Bool->Bool->Er->(List PV)->Bool->Int->Prop):Prop :=
 (v_l.length<=maxLen ->
 ∃ J1:(List PV)->Prop,(M_pval_List_Kind v_l v_frozen v_over (fun (t9:Int) =>
 ∃ J2:Bool->Prop,(((t9=(5:Int)->J2 (decide (t9=(5:Int)))) /\
 (¬ (t9=(5:Int))->((t9=(6:Int)->J2 (decide (t9=(6:Int)))) /\
 (¬ (t9=(6:Int))->J2 (decide (t9=(7:Int)))))))) /\
 (∀ t11:Bool,J2 t11->((t11=true->M_val_Items_List0 v_l v_frozen v_over (fun (t180:List PV) (t181:Bool) =>
 J1 t180)) /\
 (t11=false->((t9=(11:Int)->J1 []) /\
 (¬ (t9=(11:Int))->K0 (Er.e 3) v_l v_frozen v_over))))))) /\
 (∀ t71:List PV,J1 t71->j3 v_l v_frozen v_over (1:Int) (fun (v_:List PV) (v_2:Bool) (v_3:Int) =>
 K t71 (0:Int) false false Er.ok v_ v_2 v_3)))
def jG (o_v_l:List PV) (o_v_frozen:Bool) (o_v_over:Int) (o_l:List PV) (o_at:Int) (o_ended:Bool) (o_Paid:Bool) (K:Int->Bool->Bool->(List PV)->Bool->Int->Prop):Prop :=
 (o_v_l.length<=maxLen ->
 (o_l.length<=maxLen ->
 (((!o_ended)=true->j3 o_v_l o_v_frozen o_v_over (-1:Int) (fun (o_v_:List PV) (o_v_2:Bool) (o_v_3:Int) =>
 K o_at true o_Paid o_v_ o_v_2 o_v_3)) /\
 ((!o_ended)=false->K o_at o_ended o_Paid o_v_l o_v_frozen o_v_over))))
def M_list_Extend (l_l:List PV) (l_frozen:Bool) (l_over:Int) (x:List PV) (K:Er->(List PV)->Bool->Int->Prop):Prop :=
 (l_l.length<=maxLen ->
 (x.length<=maxLen ->
 ke l_l l_frozen l_over (fun (t6:Bool) =>
 (((!t6)=true->K (Er.e 3) l_l l_frozen l_over) /\
 ((!t6)=false->M_pval_List_Len l_l l_frozen l_over (fun (t12:Int) =>
 (In .i64 ((1024:Int) - t12)) /\
 ((((1024:Int) - t12)<(x.length:Int)->K (Er.e 7) l_l l_frozen l_over) /\
 (¬ (((1024:Int) - t12)<(x.length:Int))->M_pval_List_Add l_l l_frozen l_over x (fun (l_:List PV) (l_2:Bool) (l_3:Int) =>
 K Er.ok l_ l_2 l_3)))))))))
def kb (l_l:List PV) (l_frozen:Bool) (l_over:Int) (x:PV) (K:Er->(List PV)->Bool->Int->Prop):Prop :=
 (l_l.length<=maxLen ->
 M_list_Extend l_l l_frozen l_over ([x]:List PV) (fun (t4:Er) (l_:List PV) (l_2:Bool) (l_3:Int) =>
 K t4 l_ l_2 l_3))
def jZ (K:Bool->Prop):Prop :=
 jh (3:Int) (fun (t8:PV) =>
 jh (1:Int) (fun (t9:PV) =>
 jh (2:Int) (fun (t10:PV) =>
 M_list_Sorted ([t8,t9,t10]:List PV) true (fun (t120:List PV) (t121:Er) =>
 ∃ J1:Bool->Prop,(((((!decide (t121=Er.ok)) || (!decide ((t120.length:Int)=(3:Int))))=true->J1 true) /\
 (((!decide (t121=Er.ok)) || (!decide ((t120.length:Int)=(3:Int))))=false->(0<=(0:Int)/\(0:Int)<(t120.length:Nat)) /\
 jM (t120.getD 0 PV.nil) (fun (t26:List UInt8) =>
 J1 (!decide (t26=([51]:List UInt8))))))) /\
 (∀ q2:Bool,J1 q2->∃ J2:Bool->Prop,(((q2=true->J2 true) /\
 (q2=false->(0<=(2:Int)/\(2:Int)<(t120.length:Nat)) /\
 jM (t120.getD 2 PV.nil) (fun (t33:List UInt8) =>
 J2 (!decide (t33=([49]:List UInt8))))))) /\
 (∀ q3:Bool,J2 q3->((q3=true->K false) /\
 (q3=false->jh (1:Int) (fun (t36:PV) =>
 M_val_NewList ([t36]:List PV) (
 K false) (fun (a_l:List PV) (a_frozen:Bool) (a_over:Int) =>
 kc a_l a_frozen a_over (fun (t441:Er) (a_:List PV) (a_2:Bool) (a_3:Int) =>
 K false) (fun (i7:List PV) (g6:Int) (e0:Bool) (e1:Bool) (t4412:Er) (a_4:List PV) (a_5:Bool) (a_6:Int) =>
 ((¬ (t4412=Er.ok)->K false) /\
 (t4412=Er.ok->jh (2:Int) (fun (t54:PV) =>
 kb a_4 a_5 a_6 t54 (fun (g:Er) (a_7:List PV) (a_8:Bool) (a_9:Int) =>
 jG a_7 a_8 a_9 i7 g6 e0 e1 (fun (t440_:Int) (n0:Bool) (n1:Bool) (a_10:List PV) (a_11:Bool) (a_12:Int) =>
 jL g (104:Int) (fun (t59:Bool) =>
 ∃ J3:Bool->Prop,(((t59=true->jh (2:Int) (fun (t62:PV) =>
 kb a_10 a_11 a_12 t62 (fun (t63:Er) (a_13:List PV) (a_14:Bool) (a_15:Int) =>
 J3 (decide (t63=Er.ok))))) /\
 (t59=false->J3 false))) /\
 (∀ q6:Bool,J3 q6->K q6))))))))))))))))))
set_option maxHeartbeats 8000000 in
theorem W_val_NewList {w:World} {l:List PV} {A_l:Option Addr} {c_l:Nat} {m8:List VH} {n_l:Nat} {K0:Prop} {K:(List PV)->Bool->Int->Prop} (hl:Rd vv w A_l c_l m8) (o4:n_l=l.length) (n8:RelD deV w m8 l) (H:M_val_NewList l K0 K):Fn Tryz.prog 29 ⟨[.slice A_l n_l c_l]⟩ w (fun v w'=>w.grownBy w' none/\((v=.pointer none/\K0 )∨(∃ (g_r:Nat),∃ (r_l:List PV),∃ (e6:Option Addr),∃ (l4:Nat),∃ (d7:List VH),∃ (r_frozen:Bool),∃ (r_over:Int),v=.pointer (some ⟨g_r,0,none⟩)/\Own vv w' w.heap.size 32 e6 l4 d7/\RelD deV w' d7 r_l/\(∀ p:Option Nat,Lt p w.heap.size->DnD deV m8 l p->DnD deV d7 r_l p)/\DnD deV d7 r_l (blk e6)/\Bl w' g_r 166 [.slice e6 r_l.length l4,.bool r_frozen,.int .i64 r_over]/\Ge (some g_r) w.heap.size/\DnD deV d7 r_l (blk e6)/\DnD deV d7 r_l (some g_r)/\Dj (blk e6) (some g_r)/\K r_l r_frozen r_over))):=by
 subst o4
 unfold M_val_NewList at H
 refine Fn.enter (by kernel_rfl) Tryz.func29 rfl Tryz.ntmps29 rfl ?_
 replace H:=H (by rw [<-n8.1]; exact Nat.le_trans hl.cap hl.max)
 refine zg (zc (yp (h:=(zh (za (zg (zc (yp (h:=(zK rfl rfl (jq hl rfl n8 H) ?_))))))))))
 rintro _ w1 ⟨hg1,t4,l9,m2,o1,rfl,ht4,l6,ho1,dj1,H⟩
 have hb1:=ht4.ge'
 have k1:=ht4.base (fun g hg=>Nat.le_trans (Nat.le_refl _) (hb1 g hg))
 have gr1:=hg1
 exact zd rfl (z3 (us:=[.slice l9 t4.length m2,.bool false,.int .i64 (0:Int)]) zero166 places166 rfl rfl) (z4 (us:=[.slice l9 t4.length m2,.bool false,.int .i64 (0:Int)]) rfl rfl rfl (fun g1 w2 hB1 hg2 hl1=>yp (h:=(zh (za (zx (zM rfl rfl ⟨(qI gr1 hg2),Or.inr ⟨g1,t4,l9,m2,o1,false,(0:Int),rfl,(k1.grown hg2),(l6.grown hg2),(fun p_ hp_ v0_=>have q_:=v0_; ho1 p_ (fun g_ e_=>Nat.lt_of_lt_of_le (hp_ g_ e_) (Nat.le_refl _)) (q_)),dj1,hB1,(Ge.le (Ge.box hl1) (qL gr1)),dj1,(l6.new (Ge.box hl1)),(Dj.new k1.lt' (Ge.box hl1)),H⟩⟩)))))))
set_option maxHeartbeats 8000000 in
theorem W_pval_List_Loose {w:World} {g_l:Nat} {l_l:List PV} {a0:Option Addr} {c2:Nat} {a3:List VH} {l_frozen:Bool} {l_over:Int} {c6:Nat} {K:Bool->Prop} (hl_l:Rd vv w a0 c2 a3) (c9:c6=l_l.length) (a6:RelD deV w a3 l_l) (hl:Bl w g_l 166 [.slice a0 c6 c2,.bool l_frozen,.int .i64 l_over]) (H:ke l_l l_frozen l_over K):Fn Tryz.prog 96 ⟨[.pointer (some ⟨g_l,0,none⟩)]⟩ w (fun v w'=>w=w'/\∃ (r:Bool),v=.bool r/\K r):=by
 subst c9
 unfold ke at H
 refine Fn.enter (by kernel_rfl) Tryz.func96 rfl Tryz.ntmps96 rfl ?_
 replace H:=H (by rw [<-a6.1]; exact Nat.le_trans hl_l.cap hl_l.max)
 refine zg (zc (yp (h:=(zh (za (zg (zc (yp (h:=(yp (h:=(zd rfl (zX (o:=1) (by kernel_rfl) rfl) (zd rfl (zH qH hl rfl rfl rfl) (yp (h:=(yp (h:=(zV 6 (fun L' w'=>∃ q1:Bool,L'=[(14,.bool q1)]/\((!l_frozen) && (decide (l_over=(0:Int))))=q1/\w=w') ?_ (fun hQ=>?_)))))))))))))))))))
 ·rintro _ _ ⟨q1,rfl,rfl,rfl⟩
  exact yp (h:=(zh (za (zx (zM rfl rfl ⟨rfl,(!l_frozen) && (decide (l_over=(0:Int))),rfl,H⟩)))))
 ·clear H
  rcases Bool.eq_false_or_eq_true (!l_frozen) with b1 | b1
  ·exact gp b1 (h:=(gp b1 (h:=(zb rfl rfl (okb b1) rfl (zX (o:=2) (by kernel_rfl) rfl) (zb rfl rfl (okb b1) rfl (zH qH hl rfl rfl rfl) (gp b1 (h:=(zd rfl (zR (okb b1) rfl) (wk (hQ _ _ ⟨decide (l_over=(0:Int)),rfl,by rw [b1] <;> rfl,rfl⟩))))))))))
  ·exact gn b1 (h:=(gn b1 (h:=(gn b1 (h:=(gn b1 (h:=(gn b1 (h:=(zd rfl (zN (okb b1) rfl) (wk (hQ _ _ ⟨false,rfl,by rw [b1] <;> rfl,rfl⟩))))))))))))
set_option maxHeartbeats 8000000 in
theorem W_pval_List_Len {w:World} {g_l:Nat} {l_l:List PV} {a0:Option Addr} {c2:Nat} {a3:List VH} {l_frozen:Bool} {l_over:Int} {c6:Nat} {K:Int->Prop} (hl_l:Rd vv w a0 c2 a3) (c9:c6=l_l.length) (a6:RelD deV w a3 l_l) (hl:Bl w g_l 166 [.slice a0 c6 c2,.bool l_frozen,.int .i64 l_over]) (H:M_pval_List_Len l_l l_frozen l_over K):Fn Tryz.prog 97 ⟨[.pointer (some ⟨g_l,0,none⟩)]⟩ w (fun v w'=>w=w'/\∃ (r:Int),v=.int .i64 r/\K r):=by
 subst c9
 unfold M_pval_List_Len at H
 refine Fn.enter (by kernel_rfl) Tryz.func97 rfl Tryz.ntmps97 rfl ?_
 replace H:=H (by rw [<-a6.1]; exact Nat.le_trans hl_l.cap hl_l.max)
 exact zg (zc (yp (h:=(zh (za (zg (zc (yp (h:=(yp (h:=(zd rfl (zX (o:=0) (by kernel_rfl) rfl) (zd rfl (zH qH hl rfl rfl rfl) (yp (h:=(yp (h:=(zh (za (zx (zM rfl rfl ⟨rfl,(l_l.length:Int),rfl,H⟩)))))))))))))))))))))
set_option maxHeartbeats 8000000 in
theorem W_pval_List_Kind {w:World} {n7:Nat} {p0_l:List PV} {h0:Option Addr} {h6:Nat} {f7:List VH} {p0_frozen:Bool} {p0_over:Int} {i5:Nat} {K:Int->Prop} (hp0_l:Rd vv w h0 h6 f7) (i8:i5=p0_l.length) (i9:RelD deV w f7 p0_l) (hp0:Bl w n7 166 [.slice h0 i5 h6,.bool p0_frozen,.int .i64 p0_over]) (H:M_pval_List_Kind p0_l p0_frozen p0_over K):Fn Tryz.prog 256 ⟨[.pointer (some ⟨n7,0,none⟩)]⟩ w (fun v w'=>w=w'/\∃ (r:Int),v=.int .i64 r/\K r):=by
 subst i8
 unfold M_pval_List_Kind at H
 refine Fn.enter (by kernel_rfl) Tryz.func256 rfl Tryz.ntmps256 rfl ?_
 replace H:=H (by rw [<-i9.1]; exact Nat.le_trans hp0_l.cap hp0_l.max)
 exact zg (zc (yp (h:=(zh (za (zg (zc (yp (h:=(zh (za (zx (zM rfl rfl ⟨rfl,(5:Int),rfl,H⟩)))))))))))))
set_option maxHeartbeats 8000000 in
theorem W_pval_List_Add {w:World} {g_l:Nat} {l_l:List PV} {a0:Option Addr} {c2:Nat} {a3:List VH} {l_frozen:Bool} {l_over:Int} {items:List PV} {e2:Option Addr} {f4:Nat} {a8:List VH} {c6:Nat} {f9:Nat} {K:(List PV)->Bool->Int->Prop} (hl_l:Own vv w 0 32 a0 c2 a3) (c9:c6=l_l.length) (a6:RelD deV w a3 l_l) (hl:Bl w g_l 166 [.slice a0 c6 c2,.bool l_frozen,.int .i64 l_over]) (hitems:Rd vv w e2 f4 a8) (i0:f9=items.length) (c1:RelD deV w a8 items) (hdj0_1:Dj (some g_l) (blk a0)) (hap0:AllP (DnD deV a3 l_l) [(some g_l),(blk a0)]) (hap1:AllP (Dn a8 (blk e2)) [(some g_l),(blk a0)]) (hap2:AllP (DnD deV a8 items) [(some g_l),(blk a0)]) (H:M_pval_List_Add l_l l_frozen l_over items K):Fn Tryz.prog 98 ⟨[.pointer (some ⟨g_l,0,none⟩),.slice e2 f9 f4]⟩ w (fun v w'=>GrL [(some g_l),(blk a0)] w w'/\∃ (l_l2:List PV),∃ (b7:Option Addr),∃ (d3:Nat),∃ (a7:List VH),∃ (l_frozen2:Bool),∃ (l_over2:Int),v=.tuple #[]/\Bl w' g_l 166 [.slice b7 l_l2.length d3,.bool l_frozen2,.int .i64 l_over2]/\Own vv w' 0 32 b7 d3 a7/\InP [(some g_l),(blk a0)] w.heap.size (blk b7)/\RelD deV w' a7 l_l2/\(∀ p:Option Nat,Lt p w.heap.size->DnD deV a3 l_l p->DnD deV a8 items p->DnD deV a7 l_l2 p)/\Dj (some g_l) (blk b7)/\DnD deV a7 l_l2 (some g_l)/\DnD deV a7 l_l2 (blk b7)/\K l_l2 l_frozen2 l_over2):=by
 subst c9
 subst i0
 unfold M_pval_List_Add at H
 refine Fn.enter (by kernel_rfl) Tryz.func98 rfl Tryz.ntmps98 rfl ?_
 replace H:=H (by rw [<-a6.1]; exact Nat.le_trans hl_l.rd.cap hl_l.rd.max)
 replace H:=H (by rw [<-c1.1]; exact Nat.le_trans hitems.cap hitems.max)
 have hNoAt:AllP (NoAt w) [(some g_l),(blk a0)]:=(apC (NoAt.bl hl rfl) (apC (NoAt.own hl_l rfl) apN))
 refine zc (yp (h:=(yp (h:=(yp (h:=(zd rfl (zX (o:=0) (by kernel_rfl) rfl) (zd rfl (zH qH hl rfl rfl rfl) (yp (h:=?_))))))))))
 obtain ⟨h1,H⟩:=H
 have h2:((a3:List VH).length+a8.length)*16<=140737488355328:=by rw [a6.1,c1.1]; exact h1
 refine qo qH rfl rfl One.vv hl_l rfl a6.1.symm hitems rfl c1.1.symm h2 (applen h2) (Nat.zero_le _) (fun h3 l5 w1 hO1 hg1 hk1=>?_)
 have el1:(a3++a8).length=(l_l++items).length:=by rw [List.length_append,List.length_append,a6.1,c1.1]
 rw [el1]
 have gr1:GrL [(some g_l),(blk a0)] w w1:=GrL.mod (GrL.refl _) hg1 (InP.mem (List.Mem.tail _ (List.Mem.head _)))
 have hr1:RelD deV w1 (a3++a8) (l_l++items):=RelD.append (a6.go hg1 (hap0 _ (List.Mem.tail _ (List.Mem.head _)))) (c1.goL gr1 hap2)
 have nd1:OrD (fun p=>DnD deV a3 l_l p/\DnD deV a8 items p) deV (a3++a8) (l_l++items) w.heap.size:=OrD.append a6.1 (fun p_ hp_ q_=>q_.1) (fun p_ hp_ q_=>q_.2)
 have dj1:DnD deV (a3++a8) (l_l++items) (some g_l):=(DnD.append a6.1 (hap0 _ (List.Mem.head _)) (c1.inp hap2 (InP.mem (List.Mem.head _))))
 have dj2:DnD deV (a3++a8) (l_l++items) (blk h3):=(DnD.append a6.1 (RelD.app a6 (hap0 _ (List.Mem.tail _ (List.Mem.head _))) hk1) (RelD.app c1 (c1.inp hap2 (InP.mem (List.Mem.tail _ (List.Mem.head _)))) hk1))
 refine yp (h:=(zd rfl (zX (o:=0) (by kernel_rfl) rfl) (qp one27 rfl rfl rfl (hl.go hg1 hdj0_1) (by simp) (fun w2 hB2 hg2=>?_))))
 have hB1:Bl w2 g_l 166 [.slice h3 ((l_l++items).length) l5,.bool l_frozen,.int .i64 l_over]:=hB2
 have gr2:GrL [(some g_l),(blk a0)] w w2:=GrL.mod gr1 hg2 (InP.mem (List.Mem.head _))
 exact zh (qa rfl ⟨gr2,(l_l++items),h3,l5,(a3++a8),l_frozen,l_over,rfl,hB1,(hO1.go hg2 (Dj.app hdj0_1.symm hl.lt' hk1)),(InP.app (InP.mem (List.Mem.tail _ (List.Mem.head _))) hk1 (Nat.le_refl _)),(hr1.go hg2 dj1),(fun p_ hp_ v0_ v1_=>nd1 p_ hp_ ⟨v0_,v1_⟩),(Dj.app hdj0_1.symm hl.lt' hk1).symm,dj1,dj2,H⟩)
set_option maxHeartbeats 8000000 in
theorem W_val_items_List0 {w:World} {g_v:Nat} {v_l:List PV} {a1:Option Addr} {b8:Nat} {a4:List VH} {v_frozen:Bool} {v_over:Int} {c7:Nat} {K:(List PV)->Bool->Prop} (hv_l:Rd vv w a1 b8 a4) (d0:c7=v_l.length) (a9:RelD deV w a4 v_l) (hv:Bl w g_v 166 [.slice a1 c7 b8,.bool v_frozen,.int .i64 v_over]) (H:M_val_items_List0 v_l v_frozen v_over K):Fn Tryz.prog 95 ⟨[.iface 61 (.pointer (some ⟨g_v,0,none⟩))]⟩ w (fun v w'=>w.grownBy w' none/\∃ (r0:List PV),∃ (f0:Option Addr),∃ (h7:Nat),∃ (d6:List VH),∃ (r1:Bool),v=.tuple #[.slice f0 r0.length h7,.bool r1]/\Own vv w' w.heap.size 32 f0 h7 d6/\RelD deV w' d6 r0/\(∀ p:Option Nat,Lt p w.heap.size->DnD deV a4 v_l p->DnD deV d6 r0 p)/\DnD deV d6 r0 (blk f0)/\K r0 r1):=by
 subst d0
 unfold M_val_items_List0 at H
 refine Fn.enter (by kernel_rfl) Tryz.func95 rfl Tryz.ntmps95 rfl ?_
 replace H:=H (by rw [<-a9.1]; exact Nat.le_trans hv_l.cap hv_l.max)
 refine zg (zc (yp (h:=(yp (h:=(zh (za (zg (zg (zc (yp (h:=(zh (za (WC.block (zg (zc (zd rfl (jc (v:=⟨.iface 61 (.pointer (some ⟨g_v,0,none⟩)),rfl⟩) Tryz.underlying61 rfl rfl rfl) (yp (h:=(yp (h:=(zh (za (zE rfl (fun _=>zg (zc (yp (h:=(zh (za (zg (zc (yp (h:=(yp (h:=(zd rfl (zX (o:=0) (by kernel_rfl) rfl) (zd rfl (zH qH hv rfl rfl rfl) (zK rfl rfl (jq hv_l rfl a9 H) ?_))))))))))))))) (fun h=>by cases h))))))))))))))))))))))))))
 rintro _ w1 ⟨hg1,t2,o2,o3,o0,rfl,ht2,n9,ho1,dj1,H⟩
 have hb1:=ht2.ge'
 exact yp (h:=(yp (h:=(zh (za (zx (zn (zi (zW rfl rfl rfl ⟨hg1,t2,o2,o3,o0,true,rfl,(ht2.base (fun g hg=>Nat.le_trans (Nat.le_refl _) (hb1 g hg))),n9,(fun p_ hp_ v0_=>have q_:=v0_; ho1 p_ (fun g_ e_=>Nat.lt_of_lt_of_le (hp_ g_ e_) (Nat.le_refl _)) (q_)),dj1,H⟩)))))))))
set_option maxHeartbeats 8000000 in
theorem W_val_Items_List0 {w:World} {g_v:Nat} {v_l:List PV} {a1:Option Addr} {b8:Nat} {a4:List VH} {v_frozen:Bool} {v_over:Int} {c7:Nat} {K:(List PV)->Bool->Prop} (hv_l:Rd vv w a1 b8 a4) (d0:c7=v_l.length) (a9:RelD deV w a4 v_l) (hv:Bl w g_v 166 [.slice a1 c7 b8,.bool v_frozen,.int .i64 v_over]) (H:M_val_Items_List0 v_l v_frozen v_over K):Fn Tryz.prog 39 ⟨[.iface 61 (.pointer (some ⟨g_v,0,none⟩))]⟩ w (fun v w'=>w.grownBy w' none/\∃ (r0:List PV),∃ (f0:Option Addr),∃ (h7:Nat),∃ (d6:List VH),∃ (r1:Bool),v=.tuple #[.slice f0 r0.length h7,.bool r1]/\Own vv w' w.heap.size 32 f0 h7 d6/\RelD deV w' d6 r0/\(∀ p:Option Nat,Lt p w.heap.size->DnD deV a4 v_l p->DnD deV d6 r0 p)/\DnD deV d6 r0 (blk f0)/\K r0 r1):=by
 subst d0
 unfold M_val_Items_List0 at H
 refine Fn.enter (by kernel_rfl) Tryz.func39 rfl Tryz.ntmps39 rfl ?_
 replace H:=H (by rw [<-a9.1]; exact Nat.le_trans hv_l.cap hv_l.max)
 refine zg (zc (yp (h:=(yp (h:=(zh (za (zg (zc (yp (h:=(zK rfl rfl (W_val_items_List0 hv_l rfl a9 hv H) ?_))))))))))))
 rintro _ w1 ⟨hg1,t50,n4,n6,m9,t51,rfl,ht50,m7,ho1,dj1,H⟩
 have hb1:=ht50.ge'
 exact yp (h:=(yp (h:=(yp (h:=(yp (h:=(zh (za (zx (zW rfl rfl rfl ⟨hg1,t50,n4,n6,m9,t51,rfl,(ht50.base (fun g hg=>Nat.le_trans (Nat.le_refl _) (hb1 g hg))),m7,(fun p_ hp_ v0_=>have q_:=v0_; ho1 p_ (fun g_ e_=>Nat.lt_of_lt_of_le (hp_ g_ e_) (Nat.le_refl _)) (q_)),dj1,H⟩)))))))))))
set_option maxHeartbeats 8000000 in
theorem W_val_hold_List0 {w:World} {g_v:Nat} {v_l:List PV} {a1:Option Addr} {b8:Nat} {a4:List VH} {v_frozen:Bool} {v_over:Int} {by_:Int} {c7:Nat} {K:(List PV)->Bool->Int->Prop} (hv_l:Own vv w 0 32 a1 b8 a4) (d0:c7=v_l.length) (a9:RelD deV w a4 v_l) (hv:Bl w g_v 166 [.slice a1 c7 b8,.bool v_frozen,.int .i64 v_over]) (hdj0_1:Dj (some g_v) (blk a1)) (hap0:AllP (DnD deV a4 v_l) [(some g_v),(blk a1)]) (H:M_val_hold_List0 v_l v_frozen v_over by_ K):Fn Tryz.prog 152 ⟨[.iface 61 (.pointer (some ⟨g_v,0,none⟩)),.int .i64 by_]⟩ w (fun v w'=>GrL [(some g_v),(blk a1)] w w'/\∃ (v_l2:List PV),∃ (a5:Option Addr),∃ (c4:Nat),∃ (a2:List VH),∃ (v_frozen2:Bool),∃ (v_over2:Int),v=.tuple #[]/\Bl w' g_v 166 [.slice a5 v_l2.length c4,.bool v_frozen2,.int .i64 v_over2]/\Own vv w' 0 32 a5 c4 a2/\InP [(some g_v),(blk a1)] w.heap.size (blk a5)/\RelD deV w' a2 v_l2/\(∀ p:Option Nat,Lt p w.heap.size->DnD deV a4 v_l p->DnD deV a2 v_l2 p)/\Dj (some g_v) (blk a5)/\DnD deV a2 v_l2 (some g_v)/\DnD deV a2 v_l2 (blk a5)/\K v_l2 v_frozen2 v_over2):=by
 subst d0
 unfold M_val_hold_List0 at H
 refine Fn.enter (by kernel_rfl) Tryz.func152 rfl Tryz.ntmps152 rfl ?_
 replace H:=H (by rw [<-a9.1]; exact Nat.le_trans hv_l.rd.cap hv_l.rd.max)
 have hNoAt:AllP (NoAt w) [(some g_v),(blk a1)]:=(apC (NoAt.bl hv rfl) (apC (NoAt.own hv_l rfl) apN))
 refine zg (zc (yp (h:=(zh (za (WC.block (zg (zc (zd rfl (jc (v:=⟨.iface 61 (.pointer (some ⟨g_v,0,none⟩)),rfl⟩) Tryz.underlying61 rfl rfl rfl) (yp (h:=(yp (h:=(zh (za (zE rfl (fun _=>zg (zc (yp (h:=(zh (za (zc (yp (h:=(yp (h:=(zd rfl (zX (o:=2) (by kernel_rfl) rfl) (zd rfl (zH qH hv rfl rfl rfl) (yp (h:=?_))))))))))))))) (fun h=>by cases h)))))))))))))))))
 obtain ⟨h1,H⟩:=H
 refine zd rfl (Yld.add rfl rfl h1) (yp (h:=(zd rfl (zX (o:=2) (by kernel_rfl) rfl) (qp one3 rfl rfl rfl hv (by simp) (fun w1 hB2 hg1=>?_)))))
 have hB1:Bl w1 g_v 166 [.slice a1 v_l.length b8,.bool v_frozen,.int .i64 (v_over+by_)]:=hB2
 have gr1:GrL [(some g_v),(blk a1)] w w1:=GrL.mod (GrL.refl _) hg1 (InP.mem (List.Mem.head _))
 exact zh (zf (qa rfl ⟨gr1,v_l,a1,b8,a4,v_frozen,v_over+by_,rfl,hB1,(hv_l.go hg1 hdj0_1.symm),(InP.mem (List.Mem.tail _ (List.Mem.head _))),(a9.go hg1 (hap0 _ (List.Mem.head _))),(fun p_ hp_ v0_=>have q_:=v0_; q_),hdj0_1,(hap0 _ (List.Mem.head _)),(hap0 _ (List.Mem.tail _ (List.Mem.head _))),H⟩))
set_option maxHeartbeats 8000000 in
theorem W_val_Hold_List0 {w:World} {g_v:Nat} {v_l:List PV} {a1:Option Addr} {b8:Nat} {a4:List VH} {v_frozen:Bool} {v_over:Int} {by_:Int} {c7:Nat} {K:(List PV)->Bool->Int->Prop} (hv_l:Own vv w 0 32 a1 b8 a4) (d0:c7=v_l.length) (a9:RelD deV w a4 v_l) (hv:Bl w g_v 166 [.slice a1 c7 b8,.bool v_frozen,.int .i64 v_over]) (hdj0_1:Dj (some g_v) (blk a1)) (hap0:AllP (DnD deV a4 v_l) [(some g_v),(blk a1)]) (H:j3 v_l v_frozen v_over by_ K):Fn Tryz.prog 87 ⟨[.iface 61 (.pointer (some ⟨g_v,0,none⟩)),.int .i64 by_]⟩ w (fun v w'=>GrL [(some g_v),(blk a1)] w w'/\∃ (v_l2:List PV),∃ (a5:Option Addr),∃ (c4:Nat),∃ (a2:List VH),∃ (v_frozen2:Bool),∃ (v_over2:Int),v=.tuple #[]/\Bl w' g_v 166 [.slice a5 v_l2.length c4,.bool v_frozen2,.int .i64 v_over2]/\Own vv w' 0 32 a5 c4 a2/\InP [(some g_v),(blk a1)] w.heap.size (blk a5)/\RelD deV w' a2 v_l2/\(∀ p:Option Nat,Lt p w.heap.size->DnD deV a4 v_l p->DnD deV a2 v_l2 p)/\Dj (some g_v) (blk a5)/\DnD deV a2 v_l2 (some g_v)/\DnD deV a2 v_l2 (blk a5)/\K v_l2 v_frozen2 v_over2):=by
 subst d0
 unfold j3 at H
 refine Fn.enter (by kernel_rfl) Tryz.func87 rfl Tryz.ntmps87 rfl ?_
 replace H:=H (by rw [<-a9.1]; exact Nat.le_trans hv_l.rd.cap hv_l.rd.max)
 have hNoAt:AllP (NoAt w) [(some g_v),(blk a1)]:=(apC (NoAt.bl hv rfl) (apC (NoAt.own hv_l rfl) apN))
 refine zc (yp (h:=(yp (h:=(zK rfl rfl (W_val_hold_List0 hv_l rfl a9 hv hdj0_1 (apC (hap0 _ (List.Mem.head _)) (apC (hap0 _ (List.Mem.tail _ (List.Mem.head _))) apN)) H) ?_)))))
 rintro _ w1 ⟨hgl1,v_,h5,m3,i3,v_2,v_3,rfl,hB1,hO1,hi1,hr1,ho1,dj1,dj2,dj3,H⟩
 have hi2:InP [(some g_v),(blk a1)] w.heap.size (blk h5):=InP.trans hi1 (apC (InP.mem (List.Mem.head _)) (apC (InP.mem (List.Mem.tail _ (List.Mem.head _))) apN)) (Nat.le_refl _)
 have gr1:GrL [(some g_v),(blk a1)] w w1:=GrL.modL (GrL.refl _) hgl1 (apC (InP.mem (List.Mem.head _)) (apC (InP.mem (List.Mem.tail _ (List.Mem.head _))) apN))
 have k1:=a9.goL hgl1 (apC (hap0 _ (List.Mem.head _)) (apC (hap0 _ (List.Mem.tail _ (List.Mem.head _))) apN))
 exact zh (qa rfl ⟨gr1,v_,h5,m3,i3,v_2,v_3,rfl,hB1,hO1,hi2,hr1,(fun p_ hp_ v0_=>have q_:=v0_; ho1 p_ (fun g_ e_=>Nat.lt_of_lt_of_le (hp_ g_ e_) (Nat.le_refl _)) (q_)),dj1,dj2,dj3,H⟩)
set_option maxHeartbeats 8000000 in
theorem W_list_Each_List0 {S:List Nat} {B:Nat} {w:World} {g_v:Nat} {v_l:List PV} {a1:Option Addr} {b8:Nat} {a4:List VH} {v_frozen:Bool} {v_over:Int} {c7:Nat} {K0:Er->(List PV)->Bool->Int->Prop} {K:(List PV)->Int->Bool->Bool->Er->(List PV)->Bool->Int->Prop} (hG:GB S B w) (hB:B<=w.heap.size) (hP:AllP (fun p=>Ge p B) [(some g_v),(blk a1)]) (hS3:3∈S) (hv_l:Own vv w 0 32 a1 b8 a4) (d0:c7=v_l.length) (a9:RelD deV w a4 v_l) (hv:Bl w g_v 166 [.slice a1 c7 b8,.bool v_frozen,.int .i64 v_over]) (hdj0_1:Dj (some g_v) (blk a1)) (hap0:AllP (DnD deV a4 v_l) [(some g_v),(blk a1)]) (H:kc v_l v_frozen v_over K0 K):Fn Tryz.prog 30 ⟨[.iface 61 (.pointer (some ⟨g_v,0,none⟩))]⟩ w (fun v w'=>GrL [(some g_v),(blk a1)] w w'/\((∃ (v_r12:Value),∃ (r12:Er),∃ (v_l2:List PV),∃ (a5:Option Addr),∃ (c4:Nat),∃ (a2:List VH),∃ (v_frozen2:Bool),∃ (v_over2:Int),v=.tuple #[.pointer none,v_r12]/\ErrR S w' v_r12 r12/\Bl w' g_v 166 [.slice a5 v_l2.length c4,.bool v_frozen2,.int .i64 v_over2]/\Own vv w' 0 32 a5 c4 a2/\InP [(some g_v),(blk a1)] w.heap.size (blk a5)/\RelD deV w' a2 v_l2/\(∀ p:Option Nat,Lt p w.heap.size->DnD deV a4 v_l p->DnD deV a2 v_l2 p)/\Dj (some g_v) (blk a5)/\DnD deV a2 v_l2 (some g_v)/\DnD deV a2 v_l2 (blk a5)/\K0 r12 v_l2 v_frozen2 v_over2)∨(∃ (e8:Nat),∃ (e4:List PV),∃ (d2:Option Addr),∃ (h8:Nat),∃ (c5:List VH),∃ (l8:Int),∃ (e9:Bool),∃ (g5:Bool),∃ (v_r1:Value),∃ (r1:Er),∃ (v_l2:List PV),∃ (a5:Option Addr),∃ (c4:Nat),∃ (a2:List VH),∃ (v_frozen2:Bool),∃ (v_over2:Int),v=.tuple #[.pointer (some ⟨e8,0,none⟩),v_r1]/\Own vv w' w.heap.size 32 d2 h8 c5/\RelD deV w' c5 e4/\(∀ p:Option Nat,Lt p w.heap.size->DnD deV a4 v_l p->DnD deV c5 e4 p)/\DnD deV c5 e4 (blk d2)/\ErrR S w' v_r1 r1/\Bl w' e8 168 [.iface 61 (.pointer (some ⟨g_v,0,none⟩)),.slice d2 e4.length h8,.int .i64 l8,.bool e9,.bool g5]/\Ge (some e8) w.heap.size/\DnD deV c5 e4 (blk d2)/\DnD deV c5 e4 (some e8)/\Dj (blk d2) (some e8)/\Bl w' g_v 166 [.slice a5 v_l2.length c4,.bool v_frozen2,.int .i64 v_over2]/\Own vv w' 0 32 a5 c4 a2/\InP [(some g_v),(blk a1)] w.heap.size (blk a5)/\RelD deV w' a2 v_l2/\(∀ p:Option Nat,Lt p w.heap.size->DnD deV a4 v_l p->DnD deV a2 v_l2 p)/\Dj (some g_v) (blk a5)/\DnD deV a2 v_l2 (some g_v)/\DnD deV a2 v_l2 (blk a5)/\Dj (blk d2) (some g_v)/\Dj (blk d2) (blk a5)/\Dj (some e8) (some g_v)/\Dj (some e8) (blk a5)/\DnD deV c5 e4 (some g_v)/\DnD deV c5 e4 (blk a5)/\DnD deV a2 v_l2 (blk d2)/\DnD deV a2 v_l2 (some e8)/\K e4 l8 e9 g5 r1 v_l2 v_frozen2 v_over2))):=by
 subst d0
 unfold kc at H
 refine Fn.enter (by kernel_rfl) Tryz.func30 rfl Tryz.ntmps30 rfl ?_
 replace H:=H (by rw [<-a9.1]; exact Nat.le_trans hv_l.rd.cap hv_l.rd.max)
 have hNoAt:AllP (NoAt w) [(some g_v),(blk a1)]:=(apC (NoAt.bl hv rfl) (apC (NoAt.own hv_l rfl) apN))
 refine zg (zc (yp (h:=(yp (h:=(zh (za (zg (zc (yp (h:=?_)))))))))))
 have hv1:RelD deV w [(vnil,noF)] [PV.nil]:=j0
 refine zd rfl (z3 (us:=[.iface 61 (.pointer (some ⟨g_v,0,none⟩)),.slice none 0 0,.int .i64 (0:Int),.bool false,.bool false]) zero168 places168 rfl rfl) (z4 (us:=[.iface 61 (.pointer (some ⟨g_v,0,none⟩)),.slice none 0 0,.int .i64 (0:Int),.bool false,.bool false]) rfl rfl rfl (fun g1 w1 hB1 hg1 hl1=>?_))
 have gr1:=(GrL.of0 (ps:=[(some g_v),(blk a1)]) hg1)
 have k1:=hv_l.grown hg1
 have k2:=a9.grown hg1
 have k3:=hv.g0 hg1
 refine yp (h:=(zh (za (zg ?_))))
 obtain ⟨J1,H,hJ1⟩:=H
 refine qk (fun L' w'=>∃ (t71:List PV),∃ (d5:Option Addr),∃ (f6:Nat),∃ (i6:Nat),∃ (d1:List VH),L'=[(0,.iface 61 (.pointer (some ⟨g_v,0,none⟩))),(4,.pointer (some ⟨g1,0,none⟩))]/\J1 t71/\i6=t71.length/\GrL [(some g_v),(blk a1)] w w'/\Own vv w' 0 32 a1 b8 a4/\RelD deV w' a4 v_l/\Bl w' g_v 166 [.slice a1 v_l.length b8,.bool v_frozen,.int .i64 v_over]/\Bl w' g1 168 [.iface 61 (.pointer (some ⟨g_v,0,none⟩)),.slice d5 i6 f6,.int .i64 (0:Int),.bool false,.bool false]/\Own vv w' w.heap.size 32 d5 f6 d1/\RelD deV w' d1 t71/\Dj (blk a1) (blk d5)/\DnD deV a4 v_l (blk d5)/\Dj (some g_v) (blk d5)/\Dj (some g1) (blk d5)/\DnD deV d1 t71 (blk a1)/\DnD deV d1 t71 (some g_v)/\DnD deV d1 t71 (some g1)/\DnD deV d1 t71 (blk d5)/\OrD (fun p=>DnD deV a4 v_l p) deV d1 t71 w.heap.size) ?_ (fun hQ=>?_)
 ·clear H
  rintro _ w2 ⟨t71,d5,f6,i6,d1,rfl,H,rfl,gr2,k4,k5,k6,k7,k8,k9,dj1,dj2,dj3,dj4,dj5,dj6,dj7,dj8,or1⟩
  replace H:=hJ1 t71 H
  refine za (zg (zc (yp (h:=(zK rfl rfl (W_val_Hold_List0 k4 rfl k5 k6 hdj0_1 (apC (hap0 _ (List.Mem.head _)) (apC (hap0 _ (List.Mem.tail _ (List.Mem.head _))) apN)) H) ?_)))))
  rintro _ w3 ⟨hgl1,v_,h5,m3,i3,v_2,v_3,rfl,hB2,hO1,hi1,hr1,ho1,dj9,dj10,dj11,H⟩
  have hi2:InP [(some g_v),(blk a1)] w.heap.size (blk h5):=InP.trans hi1 (apC (InP.mem (List.Mem.head _)) (apC (InP.mem (List.Mem.tail _ (List.Mem.head _))) apN)) (GrL.sizeL gr2)
  have gr3:GrL [(some g_v),(blk a1)] w w3:=GrL.modL gr2 hgl1 (apC (InP.mem (List.Mem.head _)) (apC (InP.mem (List.Mem.tail _ (List.Mem.head _))) apN))
  have k10:=k5.goL hgl1 (apC (hap0 _ (List.Mem.head _)) (apC (hap0 _ (List.Mem.tail _ (List.Mem.head _))) apN))
  exact zh (za (zg (zc (yp (h:=(yp (h:=(yp (h:=(zh (za (zx (zW rfl rfl rfl ⟨gr3,Or.inr ⟨g1,t71,d5,f6,d1,(0:Int),false,false,.nilIface,Er.ok,v_,h5,m3,i3,v_2,v_3,rfl,(k8.goL hgl1 (apC dj3.symm (apC dj1.symm apN))),(k9.goL hgl1 (apC dj6 (apC dj5 apN))),(fun p_ hp_ v0_=>or1 p_ hp_ v0_),dj8,(ErrR.okR (S:=S) (w:=w3)),(k7.goL hgl1 (apC (Dj.new hv.lt' (Ge.box hl1)).symm (apC (Dj.new hv_l.lt' (Ge.box hl1)).symm apN))),(Ge.le (Ge.box hl1) (Nat.le_refl _)),dj8,dj7,dj4.symm,hB2,hO1,hi2,hr1,(fun p_ hp_ v0_=>have q_:=v0_; ho1 p_ (fun g_ e_=>Nat.lt_of_lt_of_le (hp_ g_ e_) (GrL.sizeL gr2)) (q_)),dj9,dj10,dj11,dj3.symm,(InP.dj hi1 k8.lt' (apC dj3.symm (apC dj1.symm apN))).symm,(Dj.new hv.lt' (Ge.box hl1)).symm,(InP.dj hi1 k7.lt' (apC (Dj.new hv.lt' (Ge.box hl1)).symm (apC (Dj.new hv_l.lt' (Ge.box hl1)).symm apN))).symm,dj6,(RelD.inp k9 (apC dj6 (apC dj5 apN)) hi1),(ho1 _ k8.lt' dj2),(ho1 _ k7.lt' (a9.new (Ge.box hl1))),H⟩⟩)))))))))))))
 ·clear hJ1
  refine zg (zc (yp (h:=(qy rfl rfl (fun w=>by kernel_rfl) rfl (W_pval_List_Kind k1.rd rfl k2 k3 H) ?_))))
  rintro _ _ ⟨rfl,t9,rfl,H⟩
  refine zh (za (WC.block (zg ?_)))
  obtain ⟨J2,H,hJ2⟩:=H
  refine qk (fun L' w'=>∃ (t11:Bool),L'=[(0,.iface 61 (.pointer (some ⟨g_v,0,none⟩))),(4,.pointer (some ⟨g1,0,none⟩)),(9,.int .i64 t9),(11,.bool t11)]/\J2 t11/\w1=w') ?_ (fun hQ1=>?_)
  ·clear H
   rintro _ _ ⟨t11,rfl,H,rfl⟩
   replace H:=hJ2 t11 H
   refine za (zE rfl (fun b1=>?_) (fun b1=>?_))
   ·replace H:=H.1 (b1)
    refine zc (yp (h:=(yp (h:=(zK rfl rfl (W_val_Items_List0 k1.rd rfl k2 k3 H) ?_)))))
    rintro _ w4 ⟨hg2,t180,h4,h9,l3,t181,rfl,ht180,l0,ho2,dj12,H⟩
    have hb1:=ht180.ge'
    refine yp (h:=(yp (h:=(yp (h:=(yp (h:=(yp (h:=(qp one27 rfl rfl rfl (hB1.g0 hg2) (by simp) (fun w5 hB4 hg3=>?_)))))))))))
    have hB3:Bl w5 g1 168 [.iface 61 (.pointer (some ⟨g_v,0,none⟩)),.slice h4 t180.length h9,.int .i64 (0:Int),.bool false,.bool false]:=hB4
    have gr5:GrL [(some g_v),(blk a1)] w w5:=GrL.mod (GrL.add0 gr1 hg2) hg3 (InP.ge (Ge.le (Ge.box hl1) (Nat.le_refl _)))
    exact zh (zf (WX.weaken sb (hQ _ _ ⟨t180,h4,h9,t180.length,l3,rfl,H,rfl,gr5,((k1.grown hg2).go hg3 (Dj.new hv_l.lt' (Ge.box hl1))),((k2.grown hg2).go hg3 (a9.new (Ge.box hl1))),((k3.g0 hg2).go hg3 (Dj.new hv.lt' (Ge.box hl1))),hB3,((ht180.base (fun g hg=>Nat.le_trans (GrL.sizeL gr1) (hb1 g hg))).go hg3 ((Dj.new hB1.lt' hb1).symm)),(l0.go hg3 (ho2 _ hB1.lt' (a9.new (Ge.box hl1)))),(Dj.new k1.lt' hb1),(k2.new hb1),(Dj.new k3.lt' hb1),(Dj.new hB1.lt' hb1),(ho2 _ k1.lt' (hap0 _ (List.Mem.tail _ (List.Mem.head _)))),(ho2 _ k3.lt' (hap0 _ (List.Mem.head _))),(ho2 _ hB1.lt' (a9.new (Ge.box hl1))),dj12,(fun p_ hp_ q_=>ho2 p_ (fun g_ e_=>Nat.lt_of_lt_of_le (hp_ g_ e_) (GrL.sizeL gr1)) (q_))⟩)))
   ·replace H:=H.2 (b1)
    refine zg (zc (yp (h:=(yp (h:=(zh (za (zE rfl (fun b2=>?_) (fun b2=>?_)))))))))
    ·replace H:=H.1 (of_decide_eq_true b2)
     exact zt (zf (WX.weaken sb (hQ _ _ ⟨[],none,0,0,[],rfl,H,rfl,gr1,k1,k2,k3,hB1,(Own.nil vv w1 w.heap.size 32),(RelD.nil (d:=deV) (w:=w1)),Dj.nr,(DnD.none k2),Dj.nr,Dj.nr,DnD.nil,DnD.nil,DnD.nil,DnD.nil,(fun p_ hp_ q_=>(DnD.nil (d:=deV)))⟩)))
    ·replace H:=H.2 (of_decide_eq_false b2)
     refine zg (ql jg (by kernel_rfl) ?_)
     obtain ⟨vE1,_,hE1⟩:=GOK.get (hG.goL gr1 hP).ok 3 0 hS3 rfl rfl
     exact z8 rfl (Yld.cell qH (ErrR.cell hE1 rfl) rfl rfl) (z8 rfl (ze qH rfl) (z8 rfl (ze qH rfl) (qu (za (zx (zn (zi (zW rfl rfl rfl ⟨gr1,Or.inl ⟨vE1,(Er.e 3),v_l,a1,b8,a4,v_frozen,v_over,rfl,hE1,k3,k1,(InP.mem (List.Mem.tail _ (List.Mem.head _))),k2,(fun p_ hp_ v0_=>have q_:=v0_; q_),hdj0_1,(hap0 _ (List.Mem.head _)),(hap0 _ (List.Mem.tail _ (List.Mem.head _))),H⟩⟩))))))))
  ·clear hJ2
   refine zg (zc (yp (h:=(yp (h:=(zh (za (zE rfl (fun b3=>?_) (fun b3=>?_)))))))))
   ·replace H:=H.1 (of_decide_eq_true b3)
    exact zt (WX.weaken sb (hQ1 _ _ ⟨decide (t9=(5:Int)),rfl,H,rfl⟩))
   ·replace H:=H.2 (of_decide_eq_false b3)
    refine zg (zc (yp (h:=(yp (h:=(zh (za (zE rfl (fun b4=>?_) (fun b4=>?_)))))))))
    ·replace H:=H.1 (of_decide_eq_true b4)
     exact zt (WX.weaken sb (hQ1 _ _ ⟨decide (t9=(6:Int)),rfl,H,rfl⟩))
    ·replace H:=H.2 (of_decide_eq_false b4)
     exact zc (yp (h:=(yp (h:=(zh (WX.weaken sb (hQ1 _ _ ⟨decide (t9=(7:Int)),rfl,H,rfl⟩)))))))
set_option maxHeartbeats 8000000 in
theorem W_plist_Over_End_List0 {w:World} {g_o:Nat} {b9:Nat} {o_v_l:List PV} {b0:Option Addr} {e3:Nat} {d4:List VH} {o_v_frozen:Bool} {o_v_over:Int} {o_l:List PV} {e5:Option Addr} {f5:Nat} {d9:List VH} {o_at:Int} {o_ended:Bool} {o_Paid:Bool} {g3:Nat} {l7:Nat} {K:Int->Bool->Bool->(List PV)->Bool->Int->Prop} (ho_v_l:Own vv w 0 32 b0 e3 d4) (i1:g3=o_v_l.length) (d8:RelD deV w d4 o_v_l) (ho_v:Bl w b9 166 [.slice b0 g3 e3,.bool o_v_frozen,.int .i64 o_v_over]) (ho_l:Rd vv w e5 f5 d9) (m5:l7=o_l.length) (m6:RelD deV w d9 o_l) (ho:Bl w g_o 168 [.iface 61 (.pointer (some ⟨b9,0,none⟩)),.slice e5 l7 f5,.int .i64 o_at,.bool o_ended,.bool o_Paid]) (hdj0_1:Dj (some g_o) (some b9)) (hdj0_2:Dj (some g_o) (blk b0)) (hdj1_2:Dj (some b9) (blk b0)) (hap0:AllP (DnD deV d4 o_v_l) [(some g_o),(some b9),(blk b0)]) (hap1:AllP (Dn d9 (blk e5)) [(some g_o),(some b9),(blk b0)]) (hap2:AllP (DnD deV d9 o_l) [(some g_o),(some b9),(blk b0)]) (H:jG o_v_l o_v_frozen o_v_over o_l o_at o_ended o_Paid K):Fn Tryz.prog 34 ⟨[.pointer (some ⟨g_o,0,none⟩)]⟩ w (fun v w'=>GrL [(some g_o),(some b9),(blk b0)] w w'/\∃ (o_at2:Int),∃ (o_ended2:Bool),∃ (o_Paid2:Bool),∃ (o_v_l2:List PV),∃ (c8:Option Addr),∃ (e7:Nat),∃ (c3:List VH),∃ (o_v_frozen2:Bool),∃ (o_v_over2:Int),v=.tuple #[]/\Bl w' g_o 168 [.iface 61 (.pointer (some ⟨b9,0,none⟩)),.slice e5 o_l.length f5,.int .i64 o_at2,.bool o_ended2,.bool o_Paid2]/\Bl w' b9 166 [.slice c8 o_v_l2.length e7,.bool o_v_frozen2,.int .i64 o_v_over2]/\Own vv w' 0 32 c8 e7 c3/\InP [(some g_o),(some b9),(blk b0)] w.heap.size (blk c8)/\RelD deV w' c3 o_v_l2/\(∀ p:Option Nat,Lt p w.heap.size->DnD deV d4 o_v_l p->DnD deV d9 o_l p->DnD deV c3 o_v_l2 p)/\Dj (some g_o) (some b9)/\Dj (some g_o) (blk c8)/\Dj (some b9) (blk c8)/\DnD deV c3 o_v_l2 (some g_o)/\DnD deV c3 o_v_l2 (some b9)/\DnD deV c3 o_v_l2 (blk c8)/\K o_at2 o_ended2 o_Paid2 o_v_l2 o_v_frozen2 o_v_over2):=by
 subst i1
 subst m5
 unfold jG at H
 refine Fn.enter (by kernel_rfl) Tryz.func34 rfl Tryz.ntmps34 rfl ?_
 replace H:=H (by rw [<-d8.1]; exact Nat.le_trans ho_v_l.rd.cap ho_v_l.rd.max)
 replace H:=H (by rw [<-m6.1]; exact Nat.le_trans ho_l.cap ho_l.max)
 have hNoAt:AllP (NoAt w) [(some g_o),(some b9),(blk b0)]:=(apC (NoAt.bl ho rfl) (apC (NoAt.bl ho_v rfl) (apC (NoAt.own ho_v_l rfl) apN)))
 refine zg (zc (yp (h:=(yp (h:=(yp (h:=(zd rfl (zH qH ho rfl rfl rfl) (yp (h:=(zh (za (zE rfl (fun b1=>?_) (fun b1=>?_))))))))))))))
 ·replace H:=H.1 (b1)
  refine zg (zc (yp (h:=(yp (h:=(yp (h:=(qp one4 rfl rfl rfl ho (by simp) (fun w1 hB2 hg1=>?_)))))))))
  have hB1:Bl w1 g_o 168 [.iface 61 (.pointer (some ⟨b9,0,none⟩)),.slice e5 o_l.length f5,.int .i64 o_at,.bool true,.bool o_Paid]:=hB2
  have gr1:GrL [(some g_o),(some b9),(blk b0)] w w1:=GrL.mod (GrL.refl _) hg1 (InP.mem (List.Mem.head _))
  have k2:=d8.go hg1 (hap0 _ (List.Mem.head _))
  refine zh (za (zc (yp (h:=(yp (h:=(yp (h:=(zd rfl (zH qH hB1 rfl rfl rfl) (zK rfl rfl (W_val_Hold_List0 (ho_v_l.go hg1 hdj0_2.symm) rfl k2 (ho_v.go hg1 hdj0_1.symm) hdj1_2 (apC (hap0 _ (List.Mem.tail _ (List.Mem.head _))) (apC (hap0 _ (List.Mem.tail _ (List.Mem.tail _ (List.Mem.head _)))) apN)) H) ?_))))))))))
  rintro _ w2 ⟨hgl1,o_v_,g9,m1,l2,o_v_2,o_v_3,rfl,hB3,hO1,hi1,hr1,ho1,dj1,dj2,dj3,H⟩
  have hi2:InP [(some g_o),(some b9),(blk b0)] w.heap.size (blk g9):=InP.trans hi1 (apC (InP.mem (List.Mem.tail _ (List.Mem.head _))) (apC (InP.mem (List.Mem.tail _ (List.Mem.tail _ (List.Mem.head _)))) apN)) (GrL.sizeL gr1)
  have gr2:GrL [(some g_o),(some b9),(blk b0)] w w2:=GrL.modL gr1 hgl1 (apC (InP.mem (List.Mem.tail _ (List.Mem.head _))) (apC (InP.mem (List.Mem.tail _ (List.Mem.tail _ (List.Mem.head _)))) apN))
  have k4:=k2.goL hgl1 (apC (hap0 _ (List.Mem.tail _ (List.Mem.head _))) (apC (hap0 _ (List.Mem.tail _ (List.Mem.tail _ (List.Mem.head _)))) apN))
  exact zh (qa rfl ⟨gr2,o_at,true,o_Paid,o_v_,g9,m1,l2,o_v_2,o_v_3,rfl,(hB1.goL hgl1 (apC hdj0_1 (apC hdj0_2 apN))),hB3,hO1,hi2,hr1,(fun p_ hp_ v0_ v1_=>have q_:=And.intro v0_ v1_; ho1 p_ (fun g_ e_=>Nat.lt_of_lt_of_le (hp_ g_ e_) (GrL.sizeL gr1)) (q_.1)),hdj0_1,(InP.dj hi1 hB1.lt' (apC hdj0_1 (apC hdj0_2 apN))).symm,dj1,(ho1 _ hB1.lt' (hap0 _ (List.Mem.head _))),dj2,dj3,H⟩)
 ·replace H:=H.2 (b1)
  exact zt (qa rfl ⟨(GrL.refl _),o_at,o_ended,o_Paid,o_v_l,b0,e3,d4,o_v_frozen,o_v_over,rfl,ho,ho_v,ho_v_l,(InP.mem (List.Mem.tail _ (List.Mem.tail _ (List.Mem.head _)))),d8,(fun p_ hp_ v0_ v1_=>have q_:=And.intro v0_ v1_; q_.1),hdj0_1,hdj0_2,hdj1_2,(hap0 _ (List.Mem.head _)),(hap0 _ (List.Mem.tail _ (List.Mem.head _))),(hap0 _ (List.Mem.tail _ (List.Mem.tail _ (List.Mem.head _)))),H⟩)
set_option maxHeartbeats 8000000 in
theorem W_list_Extend {S:List Nat} {B:Nat} {w:World} {g_l:Nat} {l_l:List PV} {a0:Option Addr} {c2:Nat} {a3:List VH} {l_frozen:Bool} {l_over:Int} {x:List PV} {A_x:Option Addr} {c_x:Nat} {i4:List VH} {c6:Nat} {n_x:Nat} {K:Er->(List PV)->Bool->Int->Prop} (hG:GB S B w) (hB:B<=w.heap.size) (hP:AllP (fun p=>Ge p B) [(some g_l),(blk a0)]) (hS3:3∈S) (hS7:7∈S) (hl_l:Own vv w 0 32 a0 c2 a3) (c9:c6=l_l.length) (a6:RelD deV w a3 l_l) (hl:Bl w g_l 166 [.slice a0 c6 c2,.bool l_frozen,.int .i64 l_over]) (hx:Rd vv w A_x c_x i4) (o5:n_x=x.length) (l1:RelD deV w i4 x) (hdj0_1:Dj (some g_l) (blk a0)) (hap0:AllP (DnD deV a3 l_l) [(some g_l),(blk a0)]) (hap1:AllP (Dn i4 (blk A_x)) [(some g_l),(blk a0)]) (hap2:AllP (DnD deV i4 x) [(some g_l),(blk a0)]) (H:M_list_Extend l_l l_frozen l_over x K):Fn Tryz.prog 40 ⟨[.pointer (some ⟨g_l,0,none⟩),.slice A_x n_x c_x]⟩ w (fun v w'=>GrL [(some g_l),(blk a0)] w w'/\∃ (v_r:Value),∃ (r:Er),∃ (l_l2:List PV),∃ (b7:Option Addr),∃ (d3:Nat),∃ (a7:List VH),∃ (l_frozen2:Bool),∃ (l_over2:Int),v=v_r/\ErrR S w' v_r r/\Bl w' g_l 166 [.slice b7 l_l2.length d3,.bool l_frozen2,.int .i64 l_over2]/\Own vv w' 0 32 b7 d3 a7/\InP [(some g_l),(blk a0)] w.heap.size (blk b7)/\RelD deV w' a7 l_l2/\(∀ p:Option Nat,Lt p w.heap.size->DnD deV a3 l_l p->DnD deV i4 x p->DnD deV a7 l_l2 p)/\Dj (some g_l) (blk b7)/\DnD deV a7 l_l2 (some g_l)/\DnD deV a7 l_l2 (blk b7)/\K r l_l2 l_frozen2 l_over2):=by
 subst c9
 subst o5
 unfold M_list_Extend at H
 refine Fn.enter (by kernel_rfl) Tryz.func40 rfl Tryz.ntmps40 rfl ?_
 replace H:=H (by rw [<-a6.1]; exact Nat.le_trans hl_l.rd.cap hl_l.rd.max)
 replace H:=H (by rw [<-l1.1]; exact Nat.le_trans hx.cap hx.max)
 have hNoAt:AllP (NoAt w) [(some g_l),(blk a0)]:=(apC (NoAt.bl hl rfl) (apC (NoAt.own hl_l rfl) apN))
 refine zg (zc (yp (h:=(zh (za (zg (zg (zc (yp (h:=(zK rfl rfl (W_pval_List_Loose hl_l.rd rfl a6 hl H) ?_)))))))))))
 rintro _ _ ⟨rfl,t6,rfl,H⟩
 refine yp (h:=(zh (za (zE rfl (fun b1=>?_) (fun b1=>?_)))))
 ·replace H:=H.1 (b1)
  refine zg (zc ?_)
  obtain ⟨vE1,_,hE1⟩:=GOK.get hG.ok 3 0 hS3 rfl rfl
  exact zd rfl (Yld.cell qH (ErrR.cell hE1 rfl) rfl rfl) (yp (h:=(zh (za (zx (zi (zM rfl rfl ⟨(GrL.refl _),vE1,(Er.e 3),l_l,a0,c2,a3,l_frozen,l_over,rfl,hE1,hl,hl_l,(InP.mem (List.Mem.tail _ (List.Mem.head _))),a6,(fun p_ hp_ v0_ v1_=>have q_:=And.intro v0_ v1_; q_.1),hdj0_1,(hap0 _ (List.Mem.head _)),(hap0 _ (List.Mem.tail _ (List.Mem.head _))),H⟩)))))))
 ·replace H:=H.2 (b1)
  refine zt (za (zg (zg (zc (yp (h:=(yp (h:=(yp (h:=(zK rfl rfl (W_pval_List_Len hl_l.rd rfl a6 hl H) ?_)))))))))))
  rintro _ _ ⟨rfl,t12,rfl,H⟩
  obtain ⟨h1,H⟩:=H
  refine zd rfl (Yld.sub rfl rfl h1) (yp (h:=(zh (za (zE rfl (fun b2=>?_) (fun b2=>?_))))))
  ·replace H:=H.1 (of_decide_eq_true b2)
   refine zg (zc ?_)
   obtain ⟨vE2,_,hE2⟩:=GOK.get hG.ok 7 1 hS7 rfl rfl
   exact zd rfl (Yld.cell qH (ErrR.cell hE2 rfl) rfl rfl) (yp (h:=(zh (za (zx (zi (zM rfl rfl ⟨(GrL.refl _),vE2,(Er.e 7),l_l,a0,c2,a3,l_frozen,l_over,rfl,hE2,hl,hl_l,(InP.mem (List.Mem.tail _ (List.Mem.head _))),a6,(fun p_ hp_ v0_ v1_=>have q_:=And.intro v0_ v1_; q_.1),hdj0_1,(hap0 _ (List.Mem.head _)),(hap0 _ (List.Mem.tail _ (List.Mem.head _))),H⟩)))))))
  ·replace H:=H.2 (of_decide_eq_false b2)
   refine zt (za (zg (zc (yp (h:=(yp (h:=(zK rfl rfl (W_pval_List_Add hl_l rfl a6 hl hx rfl l1 hdj0_1 (apC (hap0 _ (List.Mem.head _)) (apC (hap0 _ (List.Mem.tail _ (List.Mem.head _))) apN)) (apC (InP.dn (InP.mem (List.Mem.head _)) (fun hx_=>hx.lt' hx_) hap1) (apC (InP.dn (InP.mem (List.Mem.tail _ (List.Mem.head _))) (fun hx_=>hx.lt' hx_) hap1) apN)) (apC (l1.inp hap2 (InP.mem (List.Mem.head _))) (apC (l1.inp hap2 (InP.mem (List.Mem.tail _ (List.Mem.head _)))) apN)) H) ?_))))))))
   rintro _ w1 ⟨hgl1,l_,g8,m0,i2,l_2,l_3,rfl,hB1,hO1,hi1,hr1,ho1,dj1,dj2,dj3,H⟩
   have hi2:InP [(some g_l),(blk a0)] w.heap.size (blk g8):=InP.trans hi1 (apC (InP.mem (List.Mem.head _)) (apC (InP.mem (List.Mem.tail _ (List.Mem.head _))) apN)) (Nat.le_refl _)
   have gr1:GrL [(some g_l),(blk a0)] w w1:=GrL.modL (GrL.refl _) hgl1 (apC (InP.mem (List.Mem.head _)) (apC (InP.mem (List.Mem.tail _ (List.Mem.head _))) apN))
   have k1:=a6.goL hgl1 (apC (hap0 _ (List.Mem.head _)) (apC (hap0 _ (List.Mem.tail _ (List.Mem.head _))) apN))
   exact zh (za (zg (zc (yp (h:=(zh (za (zx (zM rfl rfl ⟨gr1,.nilIface,Er.ok,l_,g8,m0,i2,l_2,l_3,rfl,(ErrR.okR (S:=S) (w:=w1)),hB1,hO1,hi2,hr1,(fun p_ hp_ v0_ v1_=>have q_:=And.intro v0_ v1_; ho1 p_ (fun g_ e_=>Nat.lt_of_lt_of_le (hp_ g_ e_) (Nat.le_refl _)) (q_.1) (q_.2)),dj1,dj2,dj3,H⟩)))))))))
set_option maxHeartbeats 8000000 in
theorem W_list_Append {S:List Nat} {B:Nat} {w:World} {g_l:Nat} {l_l:List PV} {a0:Option Addr} {c2:Nat} {a3:List VH} {l_frozen:Bool} {l_over:Int} {v_x:OV} {F_x:Nat->Prop} {x:PV} {c6:Nat} {K:Er->(List PV)->Bool->Int->Prop} (hG:GB S B w) (hB:B<=w.heap.size) (hP:AllP (fun p=>Ge p B) [(some g_l),(blk a0)]) (hS3:3∈S) (hS7:7∈S) (hl_l:Own vv w 0 32 a0 c2 a3) (c9:c6=l_l.length) (a6:RelD deV w a3 l_l) (hl:Bl w g_l 166 [.slice a0 c6 c2,.bool l_frozen,.int .i64 l_over]) (hx:RelD deV w [(v_x,F_x)] [x]) (hdj0_1:Dj (some g_l) (blk a0)) (hap0:AllP (DnD deV a3 l_l) [(some g_l),(blk a0)]) (hap1:AllP (DnD deV [(v_x,F_x)] [x]) [(some g_l),(blk a0)]) (H:kb l_l l_frozen l_over x K):Fn Tryz.prog 32 ⟨[.pointer (some ⟨g_l,0,none⟩),v_x.1]⟩ w (fun v w'=>GrL [(some g_l),(blk a0)] w w'/\∃ (v_r:Value),∃ (r:Er),∃ (l_l2:List PV),∃ (b7:Option Addr),∃ (d3:Nat),∃ (a7:List VH),∃ (l_frozen2:Bool),∃ (l_over2:Int),v=v_r/\ErrR S w' v_r r/\Bl w' g_l 166 [.slice b7 l_l2.length d3,.bool l_frozen2,.int .i64 l_over2]/\Own vv w' 0 32 b7 d3 a7/\InP [(some g_l),(blk a0)] w.heap.size (blk b7)/\RelD deV w' a7 l_l2/\(∀ p:Option Nat,Lt p w.heap.size->DnD deV a3 l_l p->DnD deV [(v_x,F_x)] [x] p->DnD deV a7 l_l2 p)/\Dj (some g_l) (blk b7)/\DnD deV a7 l_l2 (some g_l)/\DnD deV a7 l_l2 (blk b7)/\K r l_l2 l_frozen2 l_over2):=by
 subst c9
 unfold kb at H
 refine Fn.enter (by kernel_rfl) Tryz.func32 rfl Tryz.ntmps32 rfl ?_
 replace H:=H (by rw [<-a6.1]; exact Nat.le_trans hl_l.rd.cap hl_l.rd.max)
 have hNoAt:AllP (NoAt w) [(some g_l),(blk a0)]:=(apC (NoAt.bl hl rfl) (apC (NoAt.own hl_l rfl) apN))
 refine zg (zc (yp (h:=(zh (za (zg (zc (yp (h:=(yp (h:=(qg (us:=[v_x.1]) qH rfl rfl rfl (qO v_x.2 jf) rfl (by omega) (fun g2 w2 hB2 hg2 hl2=>?_)))))))))))))
 have hO2:Own vv w2 w.heap.size 32 (some ⟨g2,0,none⟩) 1 ([(v_x,F_x)]:List VH):=Own.ofBl hB2 (Nat.le_trans (Nat.le_refl _) hl2) (by simp [maxLen]) rfl
 have gr1:=(GrL.of0 (ps:=[(some g_l),(blk a0)]) hg2)
 have k2:=a6.grown hg2
 have hr1:RelD deV w2 ([(v_x,F_x)]:List VH) ([x]:List PV):=(RelD.cons (RelD.one (hx.goL gr1 hap1)) RelD.nil)
 have nd1:OrD (fun p=>DnD deV a3 l_l p/\DnD deV [(v_x,F_x)] [x] p) deV ([(v_x,F_x)]:List VH) ([x]:List PV) w.heap.size:=(OrD.cons (d:=deV) (fun p_ hp_ q_=>(DnD.one (q_.2))) (fun _ _ _=>DnD.nil))
 have dj1:DnD deV ([(v_x,F_x)]:List VH) ([x]:List PV) (blk a0):=(DnD.cons (d:=deV) (DnD.one (hx.inp hap1 (InP.mem (List.Mem.tail _ (List.Mem.head _))))) DnD.nil)
 have dj2:DnD deV ([(v_x,F_x)]:List VH) ([x]:List PV) (some g_l):=(DnD.cons (d:=deV) (DnD.one (hx.inp hap1 (InP.mem (List.Mem.head _)))) DnD.nil)
 have dj3:DnD deV ([(v_x,F_x)]:List VH) ([x]:List PV) (blk (some ⟨g2,0,none⟩)):=(DnD.cons (d:=deV) (DnD.one (hx.inp hap1 (InP.ge hO2.ge'))) DnD.nil)
 refine zK rfl rfl (W_list_Extend (hG.goL gr1 hP) (Nat.le_trans hB (GrL.sizeL gr1)) (apC (InP.toGe (InP.mem (List.Mem.head _)) hP hB) (apC (InP.toGe (InP.mem (List.Mem.tail _ (List.Mem.head _))) hP hB) apN)) hS3 hS7 (hl_l.grown hg2) rfl k2 (hl.g0 hg2) hO2.rd (rfl.trans hr1.1) hr1 hdj0_1 (apC (hap0 _ (List.Mem.head _)) (apC (hap0 _ (List.Mem.tail _ (List.Mem.head _))) apN)) (apC (Dn.of (Dj.new hl.lt' (Ge.box hl2)).symm) (apC (Dn.of (Dj.new hl_l.lt' (Ge.box hl2)).symm) apN)) (apC dj2 (apC dj1 apN)) H) ?_
 rintro v_t4 w3 ⟨hgl1,_,t4,l_,g8,m0,i2,l_2,l_3,rfl,ht4,hB3,hO3,hi1,hr2,ho1,dj4,dj5,dj6,H⟩
 have hi2:InP [(some g_l),(blk a0)] w.heap.size (blk g8):=InP.trans hi1 (apC (InP.mem (List.Mem.head _)) (apC (InP.mem (List.Mem.tail _ (List.Mem.head _))) apN)) (GrL.sizeL gr1)
 have gr2:GrL [(some g_l),(blk a0)] w w3:=GrL.modL gr1 hgl1 (apC (InP.mem (List.Mem.head _)) (apC (InP.mem (List.Mem.tail _ (List.Mem.head _))) apN))
 have k4:=k2.goL hgl1 (apC (hap0 _ (List.Mem.head _)) (apC (hap0 _ (List.Mem.tail _ (List.Mem.head _))) apN))
 exact yp (h:=(zh (za (zx (zM rfl rfl ⟨gr2,v_t4,t4,l_,g8,m0,i2,l_2,l_3,rfl,ht4,hB3,hO3,hi2,hr2,(fun p_ hp_ v0_ v1_=>have q_:=And.intro v0_ v1_; ho1 p_ (fun g_ e_=>Nat.lt_of_lt_of_le (hp_ g_ e_) (GrL.sizeL gr1)) (q_.1) (nd1 p_ hp_ q_)),dj4,dj5,dj6,H⟩)))))
set_option maxHeartbeats 8000000 in
theorem W_smithylaw12_first {S:List Nat} {w:World} {K:Bool->Prop} (hG:GOK S w) (hS0:0∈S) (hS1:1∈S) (hS2:2∈S) (hS3:3∈S) (hS4:4∈S) (hS5:5∈S) (hS6:6∈S) (hS7:7∈S) (hS8:8∈S) (hS9:9∈S) (hS10:10∈S) (hS11:11∈S) (hS12:12∈S) (hS13:13∈S) (hS14:14∈S) (hS15:15∈S) (hS16:16∈S) (H:jZ  K):Fn Tryz.prog 27 ⟨[]⟩ w (fun v w'=>w.grownBy w' none/\∃ (r:Bool),v=.bool r/\K r):=by
 unfold jZ at H
 refine Fn.enter (by kernel_rfl) Tryz.func27 rfl Tryz.ntmps27 rfl ?_
 refine zg (zc (yp (h:=(zh (za (zg (zc (zK rfl rfl (jo H) ?_))))))))
 rintro _ w1 ⟨hg1,v_t8,F_t8,t8,rfl,ht8,ho1,H⟩
 have gr1:=hg1
 refine zK rfl rfl (jo H) ?_
 rintro _ w2 ⟨hg2,v_t9,F_t9,t9,rfl,ht9,ho2,H⟩
 have gr2:=qI gr1 hg2
 refine zK rfl rfl (jo H) ?_
 rintro _ w3 ⟨hg3,v_t10,F_t10,t10,rfl,ht10,ho3,H⟩
 have gr3:=qI gr2 hg3
 have k2:=(ht8.grown hg2).grown hg3
 have k3:=ht9.grown hg3
 refine qg (us:=[v_t8.1,v_t9.1,v_t10.1]) qH rfl rfl rfl (qO v_t8.2 (qO v_t9.2 (qO v_t10.2 jf))) rfl (by omega) (fun g2 w5 hB2 hg5 hl2=>?_)
 have hO2:Own vv w5 w.heap.size 32 (some ⟨g2,0,none⟩) 3 ([(v_t8,F_t8),(v_t9,F_t9),(v_t10,F_t10)]:List VH):=Own.ofBl hB2 (Nat.le_trans (qL gr3) hl2) (by simp [maxLen]) rfl
 have gr4:=qI gr3 hg5
 have hr1:RelD deV w5 ([(v_t8,F_t8),(v_t9,F_t9),(v_t10,F_t10)]:List VH) ([t8,t9,t10]:List PV):=(RelD.cons (RelD.one (k2.grown hg5)) (RelD.cons (RelD.one (k3.grown hg5)) (RelD.cons (RelD.one (ht10.grown hg5)) RelD.nil)))
 have nd1:NewD deV ([(v_t8,F_t8),(v_t9,F_t9),(v_t10,F_t10)]:List VH) ([t8,t9,t10]:List PV) w.heap.size:=(NewD.cons (d:=deV) (fun p_ hp_=>(DnD.one (ho1 p_ (fun g_ e_=>Nat.lt_of_lt_of_le (hp_ g_ e_) (Nat.le_refl _))))) (NewD.cons (d:=deV) (fun p_ hp_=>(DnD.one (ho2 p_ (fun g_ e_=>Nat.lt_of_lt_of_le (hp_ g_ e_) (qL gr1))))) (NewD.cons (d:=deV) (fun p_ hp_=>(DnD.one (ho3 p_ (fun g_ e_=>Nat.lt_of_lt_of_le (hp_ g_ e_) (qL gr2))))) NewD.nil)))
 have dj1:DnD deV ([(v_t8,F_t8),(v_t9,F_t9),(v_t10,F_t10)]:List VH) ([t8,t9,t10]:List PV) (blk (some ⟨g2,0,none⟩)):=(DnD.cons (d:=deV) (DnD.one (k2.new (Ge.box hl2))) (DnD.cons (d:=deV) (DnD.one (k3.new (Ge.box hl2))) (DnD.cons (d:=deV) (DnD.one (ht10.new (Ge.box hl2))) DnD.nil)))
 refine zK rfl rfl (W_list_Sorted (hG.grown gr4) hS3 hS7 hO2.rd (rfl.trans hr1.1) hr1 H) ?_
 rintro _ w6 ⟨hg6,t120,f1,f2,f8,v_t121,t121,rfl,ht120,c0,ho4,dj2,ht121,H⟩
 have hb1:=ht120.ge'
 have k7:=ht120.base (fun g hg=>Nat.le_trans (qL gr4) (hb1 g hg))
 have gr5:=qI gr4 hg6
 refine yp (h:=(yp (h:=(yp (h:=(yp (h:=(yp (h:=(zh (za (zg (zg (zc (yp (h:=(zd rfl (qb Tryz.underlying43 ht121 rfl) (yp (h:=(zV 4 (fun L' w'=>∃ q1:Bool,L'=[(21,.bool q1),(1,.slice f1 t120.length f2)]/\((!decide (t121=Er.ok)) || (!decide ((t120.length:Int)=(3:Int))))=q1/\w6=w') ?_ (fun hQ=>?_)))))))))))))))))))))
 ·rintro _ _ ⟨q1,rfl,rfl,rfl⟩
  refine yp (h:=?_)
  obtain ⟨J1,H,hJ1⟩:=H
  refine zV 6 (fun L' w'=>∃ q2:Bool,L'=[(28,.bool q2),(1,.slice f1 t120.length f2)]/\J1 q2/\w.grownBy w' none/\Own vv w' w.heap.size 32 f1 f2 f8/\RelD deV w' f8 t120) ?_ (fun hQ=>?_)
  ·clear H
   rintro _ w7 ⟨q2,rfl,H,gr6,k8,k9⟩
   replace H:=hJ1 q2 H
   refine yp (h:=?_)
   obtain ⟨J2,H,hJ2⟩:=H
   refine zV 6 (fun L' w'=>∃ q3:Bool,L'=[(35,.bool q3)]/\J2 q3/\w.grownBy w' none) ?_ (fun hQ=>?_)
   ·clear H
    rintro _ w8 ⟨q3,rfl,H,gr7⟩
    replace H:=hJ2 q3 H
    refine zh (za (zE rfl (fun b1=>?_) (fun b1=>?_)))
    ·replace H:=H.1 (b1)
     exact zg (zc (yp (h:=(zh (za (zx (zi (zM rfl rfl ⟨gr7,false,rfl,H⟩))))))))
    ·replace H:=H.2 (b1)
     refine zt (za (zg (zc (zK rfl rfl (jo H) ?_))))
     rintro _ w9 ⟨hg7,v_t36,F_t36,t36,rfl,ht36,ho5,H⟩
     have gr8:=qI gr7 hg7
     refine qg (us:=[v_t36.1]) qH rfl rfl rfl (qO v_t36.2 jf) rfl (by omega) (fun g4 w11 hB4 hg9 hl4=>?_)
     have hO4:Own vv w11 w.heap.size 32 (some ⟨g4,0,none⟩) 1 ([(v_t36,F_t36)]:List VH):=Own.ofBl hB4 (Nat.le_trans (qL gr8) hl4) (by simp [maxLen]) rfl
     have gr9:=qI gr8 hg9
     have hr2:RelD deV w11 ([(v_t36,F_t36)]:List VH) ([t36]:List PV):=(RelD.cons (RelD.one (ht36.grown hg9)) RelD.nil)
     have nd2:NewD deV ([(v_t36,F_t36)]:List VH) ([t36]:List PV) w.heap.size:=(NewD.cons (d:=deV) (fun p_ hp_=>(DnD.one (ho5 p_ (fun g_ e_=>Nat.lt_of_lt_of_le (hp_ g_ e_) (qL gr7))))) NewD.nil)
     have dj3:DnD deV ([(v_t36,F_t36)]:List VH) ([t36]:List PV) (blk (some ⟨g4,0,none⟩)):=(DnD.cons (d:=deV) (DnD.one (ht36.new (Ge.box hl4))) DnD.nil)
     refine zK rfl rfl (W_val_NewList hO4.rd (rfl.trans hr2.1) hr2 H) ?_
     rintro v_ w12 ⟨hg_,hc_ | hc_⟩
     ·obtain ⟨rfl,H⟩:=hc_
      have hg10:=hg_
      exact yp (h:=(zh (za (zg (zg (zc (yp (h:=(zd rfl (qB Tryz.underlying61 rfl rfl) (zh (za (zE rfl (fun _=>zg (zc (yp (h:=(zh (za (zx (zi (zM rfl rfl ⟨(qI gr9 hg10),false,rfl,H⟩))))))))) (fun h=>by cases h)))))))))))))
     ·obtain ⟨g_a,a_l,p5,r2,p0,a_frozen,a_over,rfl,ha_l,f3,ho6,dj4,ha,hge1,dj5,dj6,dj7,H⟩:=hc_
      have hg11:=hg_
      have hb2:=ha_l.ge'
      have k11:=ha_l.base (fun g hg=>Nat.le_trans (qL gr9) (hb2 g hg))
      have gr11:=qI gr9 hg11
      refine yp (h:=(zh (za (zg (zg (zc (yp (h:=(zd rfl (qB Tryz.underlying61 rfl rfl) (zh (za (zE rfl (fun h=>by cases h) (fun _=>zt (za (zg (zc (yp (h:=(zd rfl (Yld.mki Tryz.underlying61 rfl rfl) (zK rfl rfl (W_list_Each_List0 (GB.grown hG gr11) (qL gr11) (apC (Ge.le hge1 (qL gr9)) (apC k11.ge' apN)) hS3 (k11.base (fun _ _=>Nat.zero_le _)) rfl f3 ha dj7.symm (apC dj6 (apC dj5 apN)) H) ?_))))))))))))))))))))
      rintro v_ w15 ⟨hg_,hc_ | hc_⟩
      ·obtain ⟨v_t441,t441,a_,r4,r5,r3,a_2,a_3,rfl,ht441,hB5,hO5,hi1,hr3,ho7,dj8,dj9,dj10,H⟩:=hc_
       have hgl1:=hg_
       have hO6:=hO5.base (InP.toGe hi1 (apC (Ge.le hge1 (qL gr9)) (apC k11.ge' apN)) (qL gr11))
       have k12:=f3.goL hgl1 (apC dj6 (apC dj5 apN))
       refine yp (h:=(yp (h:=(yp (h:=(yp (h:=(yp (h:=(zh (za (zg (zg (zc (yp (h:=(zd rfl (qB Tryz.underlying64 rfl rfl) (yp (h:=(zV 3 (fun L' w'=>∃ q4:Bool,L'=[(52,.bool q4),(3,.pointer (some ⟨g_a,0,none⟩)),(4,.pointer none)]/\true=q4/\w15=w') ?_ (fun hQ=>?_)))))))))))))))))))))
       ·rintro _ _ ⟨q4,rfl,rfl,rfl⟩
        exact zh (za (zE rfl (fun _=>zg (zc (yp (h:=(zh (za (zx (zi (zM rfl rfl ⟨(gr_modL gr11 hgl1 (apC (Ge.le hge1 (qL gr9)) (apC k11.ge' apN))),false,rfl,H⟩))))))))) (fun h=>by cases h)))
       ·clear H
        exact zJ rfl rfl (rfl) rfl (zJ rfl rfl (rfl) rfl (zd rfl (zR (rfl) rfl) (wk (hQ _ _ ⟨true,rfl,rfl,rfl⟩))))
      ·obtain ⟨m4,i7,n3,n5,n2,g6,e0,e1,v_t4412,t4412,a_4,p1,p6,o6,a_5,a_6,rfl,ht440_l,g7,ho9,dj11,ht4412,ht440,hge2,dj12,dj13,dj14,hB6,hO7,hi2,hr4,ho8,dj15,dj16,dj17,dj18,dj19,dj20,dj21,dj22,dj23,dj24,dj25,H⟩:=hc_
       have hgl2:=hg_
       have hO8:=hO7.base (InP.toGe hi2 (apC (Ge.le hge1 (qL gr9)) (apC k11.ge' apN)) (qL gr11))
       have hb3:=ht440_l.ge'
       have gr13:=gr_modL gr11 hgl2 (apC (Ge.le hge1 (qL gr9)) (apC k11.ge' apN))
       have k14:=f3.goL hgl2 (apC dj6 (apC dj5 apN))
       refine yp (h:=(yp (h:=(yp (h:=(yp (h:=(yp (h:=(zh (za (zg (zg (zc (yp (h:=(zd rfl (qB Tryz.underlying64 rfl rfl) (yp (h:=(zV 3 (fun L' w'=>∃ q5:Bool,L'=[(52,.bool q5),(3,.pointer (some ⟨g_a,0,none⟩)),(4,.pointer (some ⟨m4,0,none⟩))]/\(!decide (t4412=Er.ok))=q5/\w15=w') ?_ (fun hQ=>?_)))))))))))))))))))))
       ·rintro _ _ ⟨q5,rfl,rfl,rfl⟩
        refine zh (za (zE rfl (fun b2=>?_) (fun b2=>?_)))
        ·replace H:=H.1 (j9 b2)
         exact zg (zc (yp (h:=(zh (za (zx (zi (zM rfl rfl ⟨gr13,false,rfl,H⟩))))))))
        ·replace H:=H.2 (jO b2)
         refine zt (za (zg (zc (yp (h:=(zK rfl rfl (jo H) ?_))))))
         rintro _ w18 ⟨hg12,v_t54,F_t54,t54,rfl,ht54,ho10,H⟩
         have gr14:=qI gr13 hg12
         have k15:=hB6.g0 hg12
         have k16:=hO8.grown hg12
         have k17:=hr4.grown hg12
         have k18:=(ht440_l.base (fun g hg=>Nat.le_trans (qL gr11) (hb3 g hg))).grown hg12
         have k19:=ht440.g0 hg12
         have k20:=g7.grown hg12
         refine zK rfl rfl (W_list_Append (GB.grown hG gr14) (qL gr14) (apC (Ge.le hge1 (qL gr9)) (apC k16.ge' apN)) hS3 hS7 (k16.base (fun _ _=>Nat.zero_le _)) rfl k17 k15 ht54 dj15 (apC dj16 (apC dj17 apN)) (apC (ho10 _ hB6.lt') (apC (ho10 _ hO8.lt') apN)) H) ?_
         rintro v_g w19 ⟨hgl3,_,g,a_7,p2,p7,o7,a_8,a_9,rfl,hg,hB7,hO9,hi3,hr5,ho11,dj26,dj27,dj28,H⟩
         have hO10:=hO9.base (InP.toGe hi3 (apC (Ge.le hge1 (qL gr9)) (apC k16.ge' apN)) (qL gr14))
         have gr15:=gr_modL gr14 hgl3 (apC (Ge.le hge1 (qL gr9)) (apC k16.ge' apN))
         have k21:=k17.goL hgl3 (apC dj16 (apC dj17 apN))
         have k22:=k18.goL hgl3 (apC dj18 (apC dj19 apN))
         have k23:=k19.goL hgl3 (apC dj20 (apC dj21 apN))
         have k24:=k20.goL hgl3 (apC dj22 (apC dj23 apN))
         refine yp (h:=(zh (za (zg (zc (yp (h:=(zK rfl rfl (W_plist_Over_End_List0 (hO10.base (fun _ _=>Nat.zero_le _)) rfl hr5 hB7 k22.rd rfl k24 k23 dj20 (InP.dj hi3 k19.lt' (apC dj20 (apC dj21 apN))).symm dj26 (apC (ho11 _ k19.lt' dj25 (ho10 _ ht440.lt')) (apC dj27 (apC dj28 apN))) (apC (Dn.of dj14) (apC (Dn.of dj18) (apC (Dn.of (InP.dj hi3 k18.lt' (apC dj18 (apC dj19 apN))).symm) apN))) (apC dj13 (apC dj22 (apC (RelD.inp k20 (apC dj22 (apC dj23 apN)) hi3) apN))) H) ?_))))))))
         rintro _ w20 ⟨hgl4,t440_,n0,n1,a_10,p3,p8,o8,a_11,a_12,rfl,hB8,hB9,hO11,hi4,hr6,ho12,dj29,dj30,dj31,dj32,dj33,dj34,H⟩
         have hO12:=hO11.base (InP.toGe hi4 (apC (Ge.le hge2 (qL gr11)) (apC (Ge.le hge1 (qL gr9)) (apC hO10.ge' apN))) (qL gr15))
         have gr16:=gr_modL gr15 hgl4 (apC (Ge.le hge2 (qL gr11)) (apC (Ge.le hge1 (qL gr9)) (apC hO10.ge' apN)))
         have k25:=hr5.goL hgl4 (apC (ho11 _ k19.lt' dj25 (ho10 _ ht440.lt')) (apC dj27 (apC dj28 apN)))
         refine zh (za (zg (zc (yp (h:=(zK rfl rfl (W_smithysee_Is (hG.grown gr16) hS0 hS1 hS2 hS3 hS4 hS5 hS6 hS7 hS8 hS9 hS10 hS11 hS12 hS13 hS14 hS15 hS16 (ErrR.goB hg (GB.grown hG gr15) hgl4 (apC (Ge.le hge2 (qL gr11)) (apC (Ge.le hge1 (qL gr9)) (apC hO10.ge' apN))) (apC (NoAt.bl k23 rfl) (apC (NoAt.bl hB7 rfl) (apC (NoAt.own hO10 rfl) apN)))) H) ?_))))))
         rintro _ w21 ⟨hg13,t59,rfl,H⟩
         have gr17:=qI gr16 hg13
         have k27:=hB9.g0 hg13
         have k28:=hO12.grown hg13
         refine yp (h:=?_)
         obtain ⟨J3,H,hJ3⟩:=H
         refine zV 5 (fun L' w'=>∃ q6:Bool,L'=[(65,.bool q6)]/\J3 q6/\w.grownBy w' none) ?_ (fun hQ=>?_)
         ·clear H
          rintro _ w22 ⟨q6,rfl,H,gr18⟩
          replace H:=hJ3 q6 H
          exact yp (h:=(zh (za (zx (zM rfl rfl ⟨gr18,q6,rfl,H⟩)))))
         ·clear hJ3
          rcases Bool.eq_false_or_eq_true (t59) with b3 | b3
          ·replace H:=H.1 b3
           refine gp b3 (h:=(qv (qM rfl rfl (okb b3)) rfl rfl (jo H) ?_))
           rintro _ w23 ⟨hg14,v_t62,F_t62,t62,rfl,ht62,ho13,H⟩
           have gr19:=qI gr17 hg14
           have k30:=k27.g0 hg14
           have k31:=k28.grown hg14
           have k32:=(hr6.grown hg13).grown hg14
           refine qv (qM rfl rfl (okb b3)) rfl rfl (W_list_Append (GB.grown hG gr19) (qL gr19) (apC (Ge.le hge1 (qL gr9)) (apC k31.ge' apN)) hS3 hS7 (k31.base (fun _ _=>Nat.zero_le _)) rfl k32 k30 ht62 dj31 (apC dj33 (apC dj34 apN)) (apC (ho13 _ k27.lt') (apC (ho13 _ k28.lt') apN)) H) ?_
           rintro v_t63 w24 ⟨hgl5,_,t63,a_13,p4,p9,o9,a_14,a_15,rfl,ht63,hB10,hO13,hi5,hr7,ho14,dj35,dj36,dj37,H⟩
           have hO14:=hO13.base (InP.toGe hi5 (apC (Ge.le hge1 (qL gr9)) (apC k31.ge' apN)) (qL gr19))
           have k33:=k32.goL hgl5 (apC dj33 (apC dj34 apN))
           have k34:=ht62.goL hgl5 (apC (ho13 _ k27.lt') (apC (ho13 _ k28.lt') apN))
           exact zb rfl rfl (okb b3) rfl (qq Tryz.underlying43 ht63 rfl) (zd rfl (zR (okb b3) rfl) (wk (hQ _ _ ⟨decide (t63=Er.ok),rfl,H,(gr_modL gr19 hgl5 (apC (Ge.le hge1 (qL gr9)) (apC k31.ge' apN)))⟩)))
          ·replace H:=H.2 b3
           exact gn b3 (h:=(gn b3 (h:=(gn b3 (h:=(gn b3 (h:=(zd rfl (zN (okb b3) rfl) (wk (hQ _ _ ⟨false,rfl,H,gr17⟩))))))))))
       ·clear H
        exact zb rfl rfl (rfl) rfl (ze qH rfl) (zb rfl rfl (rfl) rfl (qb Tryz.underlying43 ht4412 rfl) (zd rfl (zN (rfl) rfl) (wk (hQ _ _ ⟨!decide (t4412=Er.ok),rfl,rfl,rfl⟩))))
   ·clear hJ2
    rcases Bool.eq_false_or_eq_true (q2) with b4 | b4
    ·replace H:=H.1 b4
     exact gn b4 (h:=(gn b4 (h:=(gn b4 (h:=(gn b4 (h:=(gn b4 (h:=(zd rfl (zR (okb b4) rfl) (wk (hQ _ _ ⟨true,rfl,H,gr6⟩))))))))))))
    ·replace H:=H.2 b4
     refine gp b4 (h:=?_)
     obtain ⟨h1,H⟩:=H
     refine zb rfl rfl (okb b4) rfl (zP qH k8.rd rfl rfl c0.1.symm rfl h1.1 h1.2) ?_
     obtain ⟨⟨v_el,F_el⟩,eh1,hR1⟩:=RelD.at k9 vh0 PV.nil (j:=2) (Nat.lt_of_lt_of_eq (iltN h1 c0.1.symm) k9.1)
     have hv1:RelD deV w7 [(v_el,F_el)] [t120.getD 2 PV.nil]:=RelD.cons hR1 RelD.nil
     refine zb rfl rfl (okb b4) rfl (qd (v:=v_el.1) (zQ vh0 qH k8.rd rfl rfl (iltN h1 c0.1.symm)) (congrArg vv eh1)) (qv (qM rfl rfl (okb b4)) rfl rfl (W_val_Repr hv1 H) ?_)
     rintro _ w25 ⟨hg15,t33,rfl,H⟩
     have k35:=hv1.grown hg15
     exact gp b4 (h:=(zd rfl (zN (okb b4) rfl) (wk (hQ _ _ ⟨!decide (t33=([49]:List UInt8)),rfl,H,(qI gr6 hg15)⟩))))
  ·clear hJ1
   rcases Bool.eq_false_or_eq_true ((!decide (t121=Er.ok)) || (!decide ((t120.length:Int)=(3:Int)))) with b5 | b5
   ·replace H:=H.1 b5
    exact gn b5 (h:=(gn b5 (h:=(gn b5 (h:=(gn b5 (h:=(gn b5 (h:=(zd rfl (zR (okb b5) rfl) (wk (hQ _ _ ⟨true,rfl,H,gr5,k7,c0⟩))))))))))))
   ·replace H:=H.2 b5
    refine gp b5 (h:=?_)
    obtain ⟨h2,H⟩:=H
    refine zb rfl rfl (okb b5) rfl (zP qH k7.rd rfl rfl c0.1.symm rfl h2.1 h2.2) ?_
    obtain ⟨⟨v_el2,F_el2⟩,eh2,hR2⟩:=RelD.at c0 vh0 PV.nil (j:=0) (Nat.lt_of_lt_of_eq (iltN h2 c0.1.symm) c0.1)
    have hv2:RelD deV w6 [(v_el2,F_el2)] [t120.getD 0 PV.nil]:=RelD.cons hR2 RelD.nil
    refine zb rfl rfl (okb b5) rfl (qd (v:=v_el2.1) (zQ vh0 qH k7.rd rfl rfl (iltN h2 c0.1.symm)) (congrArg vv eh2)) (qv (qM rfl rfl (okb b5)) rfl rfl (W_val_Repr hv2 H) ?_)
    rintro _ w26 ⟨hg16,t26,rfl,H⟩
    have k38:=hv2.grown hg16
    exact gp b5 (h:=(zd rfl (zN (okb b5) rfl) (wk (hQ _ _ ⟨!decide (t26=([51]:List UInt8)),rfl,H,(qI gr5 hg16),(k7.grown hg16),(c0.grown hg16)⟩))))
 ·clear H
  rcases Bool.eq_false_or_eq_true (!decide (t121=Er.ok)) with b6 | b6
  ·exact gn b6 (h:=(gn b6 (h:=(gn b6 (h:=(zd rfl (zR (okb b6) rfl) (wk (hQ _ _ ⟨true,rfl,by rw [b6] <;> rfl,rfl⟩))))))))
  ·exact gp b6 (h:=(gp b6 (h:=(gp b6 (h:=(zd rfl (zN (okb b6) rfl) (wk (hQ _ _ ⟨!decide ((t120.length:Int)=(3:Int)),rfl,by rw [b6] <;> rfl,rfl⟩))))))))
end
 
section
open Go Go.RowKit
def isB:Er->Int->Bool
 | .ok,c=>decide (0=c)
 | .e n,c=>decide (101+(n:Int)=c)
 | .at_ _ _,_=>false
theorem is_M {e:Er} {code:Int} {K:Bool->Prop} (h:K (isB e code)):jL e code K:=by
 unfold jL jy km kg jK jP j8 jD jy j7 jK
 cases e with
 | ok=>refine ⟨fun _=>?_,fun h2=>absurd rfl h2⟩; exact (congrArg K (show isB .ok code=_ by simp [isB])).mp h
 | e n=>refine ⟨fun h2=>(by cases h2),fun _=>⟨fun p m h2=>(by cases h2),fun _=>?_⟩⟩; exact (congrArg K (show isB (.e n) code=_ by rw [Bool.eq_iff_iff]; simp [isB,sentV]; exact decide_eq_true_iff.symm)).mp h
 | at_ p n =>
  refine ⟨fun h2=>(by cases h2),fun _=>⟨fun p' m h2=>?_,fun h2=>absurd rfl (h2 p n)⟩⟩
  cases h2
  refine ⟨fun h2=>(by simp at h2),fun _=>⟨fun h2=>(by simp only [sentV] at h2; omega),fun _=>?_⟩⟩
  exact (congrArg K (show isB (.at_ p n) code=_ by simp [isB])).mp h
end
 
section
open Go Go.RowKit
theorem stable_M {t back:Bool} {data:List PV} {K:List PV->Prop} (hP:Okl t data) (hl:data.length<=40) (h:∀ d',SyM (ltP back) PV.nil data d' 0 data.length->K d') :
  ja data (data.length:Int) back false K:=by
 intro _
 refine ⟨fun a b d2=>b=a+20/\(a=0∨a=20∨a=40)/\a<=data.length/\SyO PV.nil data d2 0 data.length/\(20<=a->jw (ltP back) PV.nil d2 0 20)/\(40<=a->jw (ltP back) PV.nil d2 20 40),fun a _ _=>((data.length:Int)+20 - a).toNat,⟨by omega,.inl rfl,by omega,SyO.refl _ _ _ _,fun e=>by omega,fun e=>by omega⟩,?_⟩
 rintro a b d2 ⟨rfl,ha,h1,h2,h3,h4⟩ hlen
 have hP2:Okl t d2:=hP.perm h2.perm
 refine ⟨fun hb=>insertion_M hP2 (by omega) (by omega) (by omega) (by omega) fun d' k=>⟨by simp only [In]; omega,⟨by omega,by omega,by omega,h2.trans (k.1.wide (by omega) (by omega)),fun e=>?_,fun e=>?_⟩,by first | omega | (dsimp only; omega)⟩,fun hb=>insertion_M hP2 (by omega) (by omega) (by omega) (by omega) fun d' k=>?_⟩
 ·rcases ha with rfl | rfl | rfl
  ·exact k.2
  ·exact (h3 (by omega)).out k.1 (.inr (by omega))
  ·omega
 ·have:a=20:=by omega
  subst this; exact k.2
 ·have hP3:Okl t d':=hP2.perm k.1.perm
  have o3:=h2.trans (k.1.wide (a':=0) (b':=data.length) (by omega) (by omega))
  have hn:((data.length:Nat):Int).toNat=data.length:=by omega
  have s20:jw (ltP back) PV.nil d' 0 (min 20 data.length)/\jw (ltP back) PV.nil d' 20 data.length:=by
   rcases ha with rfl | rfl | rfl
   ·refine ⟨k.2.sub (by omega) (by omega),fun i j q1 q2 q3=>by omega⟩
   ·refine ⟨((h3 (by omega)).out k.1 (.inr (by omega))).sub (by omega) (by omega),k.2.sub (by omega) (by omega)⟩
   ·refine ⟨((h3 (by omega)).out k.1 (.inr (by omega))).sub (by omega) (by omega),((h4 (by omega)).out k.1 (.inr (by omega))).sub (by omega) (by omega)⟩
  refine ⟨fun bs d3=>(bs=20/\d3=d')∨(bs=40/\SyM (ltP back) PV.nil data d3 0 data.length),fun bs _=>(40 - bs).toNat,.inl ⟨rfl,rfl⟩,?_⟩
  rintro bs d3 (⟨rfl,rfl⟩ | ⟨rfl,h5⟩) hlen3
  ·refine ⟨fun hbs=>⟨by simp only [In]; omega,?_⟩,fun hbs=>?_⟩
   ·rw [show min 20 data.length=20 by omega] at s20
    refine ⟨fun a2 b2 d4=>(a2=0/\b2=40/\d4=d3)∨(a2=40/\b2=80/\data.length=40/\SyM (ltP back) PV.nil data d4 0 data.length),fun a2 _ _=>(40 - a2).toNat,.inl ⟨rfl,by omega,rfl⟩,?_⟩
    rintro a2 b2 d4 (⟨rfl,rfl,rfl⟩ | ⟨rfl,rfl,h40,h6⟩) hlen4
    ·refine ⟨fun hb2=>⟨by simp only [In]; omega,40,sym_M 40 (by omega) hP3 (by omega) (by omega) (by omega) (by omega) (by omega) s20.1 (s20.2.sub (by omega) (by omega)) fun d5 k5=>?_⟩,fun hb2=>?_⟩
     ·refine ⟨by simp only [In]; omega,by simp only [In]; omega,.inr ⟨rfl,by omega,by omega,?_⟩,by first | omega | (dsimp only; omega)⟩
      rw [show (40:Int).toNat=data.length by omega] at k5
      exact ⟨o3.trans k5.1,k5.2⟩
     ·refine ⟨fun xs=>SyM (ltP back) PV.nil data xs 0 data.length,⟨by simp only [In]; omega,fun hq=>?_,fun hq=>absurd (show (0:Int)+20<data.length by omega) hq⟩,fun xs hxs hlx=>⟨by simp only [In]; omega,.inr ⟨by omega,hxs⟩,by first | omega | (dsimp only; omega)⟩⟩
      refine ⟨40,sym_M 40 (by omega) hP3 (by omega) (by omega) (by omega) (by omega) (by omega) s20.1 (s20.2.sub (by omega) (by omega)) fun d5 k5=>?_⟩
      rw [hn] at k5
      exact ⟨o3.trans k5.1,k5.2⟩
    ·refine ⟨fun hb2=>by omega,fun hb2=>⟨fun xs=>SyM (ltP back) PV.nil data xs 0 data.length,⟨by simp only [In]; omega,fun hq=>by omega,fun hq=>h6⟩,fun xs hxs hlx=>⟨by simp only [In]; omega,.inr ⟨by omega,hxs⟩,by first | omega | (dsimp only; omega)⟩⟩⟩
   ·refine h _ ⟨o3,?_⟩
    rw [show min 20 data.length=data.length by omega] at s20
    exact s20.1
  ·exact ⟨fun hbs=>by omega,fun _=>h _ h5⟩
theorem sstable_M {t back:Bool} {l:List PV} {K:List PV->Prop} (hP:Okl t l) (hl:l.length<=40) (h:∀ d',SyM (ltP back) PV.nil l d' 0 l.length->K d'):qW l back false K:=fun _=>stable_M hP hl h
theorem weight0_M {z most:Int} {K:Int->Prop} (h:K 1):M_val_weight (.int z) most K:=by
 refine ⟨fun l=>l=[],⟨fun e=>(by cases e),fun _=>⟨fun l e=>(by cases e),fun _=>rfl⟩⟩,?_⟩
 rintro _ rfl
 exact ⟨fun n i=>n=1/\i=0,fun _ _=>0,⟨rfl,rfl⟩,by rintro n i ⟨rfl,rfl⟩; exact ⟨fun hi=>absurd hi (by simp),fun _=>h⟩⟩
def wgt:PV->Int
 | .tup l=>1+l.length
 | _=>1
theorem weightT_M {t:Bool} {x:PV} {most:Int} {K:Int->Prop} (hx:Okv t x) (hm:60<=most/\most<=5000) (h:K (wgt x)):M_val_weightT x most K:=by
 have key:∀ zs:List Int,zs.length<=50->K (1+zs.length)->Lp2 (fun (n:Int) (t63:Int) kont1=>((t63<((zs.map PV.int).length:Int)->(0<=t63/\t63<((zs.map PV.int).length:Nat))/\((most<n->K n)/\(¬ (most<n)->(In .i64 (most - n))/\M_val_weight ((zs.map PV.int).getD t63.toNat PV.nil) (most - n) (fun (t76:Int)=>(In .i64 (n+t76))/\(In .i64 (t63+(1:Int)))/\kont1 (n+t76) (t63+(1:Int))))))/\(¬ (t63<((zs.map PV.int).length:Int))->K n))) (1:Int) (0:Int):=fun zs hz hK=>by
  refine ⟨fun n i=>0<=i/\i<=zs.length/\n=1+i,fun _ i=>((zs.length:Int) - i).toNat,⟨by omega,by omega,by omega⟩,?_⟩
  rintro n i ⟨h0,h1,rfl⟩
  simp only [List.length_map]
  refine ⟨fun hi=>⟨⟨h0,hi⟩,fun hq=>by omega,fun hq=>⟨by simp only [In]; omega,?_⟩⟩,fun hi=>?_⟩
  ·rw [map_int (by omega)]
   exact weight0_M ⟨by simp only [In]; omega,by simp only [In]; omega,⟨by omega,by omega,by omega⟩,by first | omega | (dsimp only; omega)⟩
  ·have:i=zs.length:=by omega
   rw [this]; exact hK
 cases t with
 | false =>
  obtain ⟨z,rfl⟩:=hx
  refine ⟨fun l=>l=([]:List Int).map PV.int,⟨fun e=>(by cases e),fun _=>⟨fun l e=>(by cases e),fun _=>rfl⟩⟩,?_⟩
  rintro _ rfl
  exact key [] (by simp) h
 | true =>
  obtain ⟨zs,rfl,hz⟩:=hx
  refine ⟨fun l=>l=zs.map PV.int,⟨fun e=>(by cases e),fun _=>⟨fun l e=>?_,fun e=>absurd rfl (e zs)⟩⟩,?_⟩
  ·cases e; rfl
  ·rintro _ rfl
   exact key zs hz h
theorem wgt_le {t:Bool} {x:PV} (h:Okv t x):1<=wgt x/\wgt x<=51:=by
 cases t with
 | false=>obtain ⟨z,rfl⟩:=h; simp [wgt]
 | true=>obtain ⟨l,rfl,hl⟩:=h; simp only [wgt]; omega
theorem vlight_M {t:Bool} {l:List PV} {K:Bool->Prop} (hP:Okl t l) (hl:l.length<=40) (h:K true):M_val_Light 4096 l K:=by
 intro _
 refine ⟨fun m i=>0<=i/\i<=l.length/\4096 - 51*i<=m/\m<=4096,fun _ i=>((l.length:Int) - i).toNat,⟨by omega,by omega,by omega,by omega⟩,?_⟩
 rintro m i ⟨h0,h1,h2,h3⟩
 refine ⟨fun hi=>⟨⟨h0,hi⟩,?_⟩,fun _=>h⟩
 have hx:=hP.at (i:=i.toNat) (by omega)
 have hw:=wgt_le hx
 exact weightT_M hx (by omega) ⟨by simp only [In]; omega,fun hq=>by omega,fun _=>⟨by simp only [In]; omega,⟨by omega,by omega,by omega,by omega⟩,by first | omega | (dsimp only; omega)⟩⟩
theorem cloneV_M {l:List PV} {K:List PV->Prop} (hl:l.length<=1000000) (h:K l):qZ l K :=
 fun _=>⟨fun e=>e ▸ h,by simp; omega,by simpa using h⟩
theorem sorted_M {t back:Bool} {l:List PV} {K:List PV->Er->Prop} (hP:Okl t l) (hl:l.length<=40) (h:∀ d',SyM (ltP back) PV.nil l d' 0 l.length->K d' .ok):M_list_Sorted l back K:=by
 intro _
 exact vlight_M hP hl ⟨fun e=>(by cases e),fun _=>cloneV_M (by omega) (sstable_M hP hl h)⟩
theorem jw.uniq {lt:PV->PV->Bool} {l m:List PV} (h1:jw lt PV.nil l 0 l.length) (h2:jw lt PV.nil m 0 m.length) (hp:l.Perm m) (hs:∀ x∈l,∀ y∈l,lt x y=false->lt y x=false->x=y):l=m:=by
 have pw:∀ {q:List PV},jw lt PV.nil q 0 q.length->q.Pairwise fun x y=>lt y x=false:=fun {q} hq=>by
  rw [List.pairwise_iff_getElem]
  intro i j hi hj hij
  have:=hq i j (by omega) hij hj
  simpa [List.getD,hi,hj] using this
 exact List.Perm.eq_of_pairwise (le:=fun x y=>lt y x=false) (fun x y hx hy q1 q2=>hs x hx y (hp.mem_iff.2 hy) q2 q1) (pw h1) (pw h2) hp
end
 
section
open Go Go.RowKit
theorem lexB_eq:∀ {x y},lexB x y=false->lexB y x=false->x=y
 | [],[],_,_=>rfl
 | [],_ :: _,h,_=>by cases h
 | _ :: _,[],_,h=>by cases h
 | a :: l,b :: m,h1,h2=>by
  simp only [lexB,Bool.or_eq_false_iff,decide_eq_false_iff_not,Bool.and_eq_false_iff] at h1 h2
  have e:a=b:=by omega
  subst e
  rw [lexB_eq (x:=l) (y:=m) (by rcases h1.2 with h | h; exact absurd rfl h; exact h) (by rcases h2.2 with h | h; exact absurd rfl h; exact h)]
theorem ltP_eq {back t:Bool} {x y:PV} (hx:Okv t x) (hy:Okv t y) (h1:ltP back x y=false) (h2:ltP back y x=false):x=y:=by
 have e:keyQ x=keyQ y:=by
  cases back
  ·exact lexB_eq h1 h2
  ·exact lexB_eq h2 h1
 cases t with
 | false =>
  obtain ⟨a,rfl⟩:=hx
  obtain ⟨b,rfl⟩:=hy
  simp only [keyQ,List.cons.injEq,and_true] at e
  rw [e]
 | true =>
  obtain ⟨a,rfl,_⟩:=hx
  obtain ⟨b,rfl,_⟩:=hy
  rw [show a=b from e]
theorem jw.one {back t:Bool} {l m d':List PV} (hP:Okl t l) (h:SyM (ltP back) PV.nil l d' 0 l.length) (h2:jw (ltP back) PV.nil m 0 m.length) (hp:m.Perm l):d'=m:=by
 have hd:=hP.perm h.1.perm
 have hl:=h.1.len
 refine jw.uniq (by rw [hl]; exact h.2) h2 (h.1.perm.trans hp.symm) fun x hx y hy q1 q2=>ltP_eq (hd x hx) (hd y hy) q1 q2
theorem lsmall_M {n:Int} {K:PV->Prop} (h : -9223372036854775808<=n/\n<=9223372036854775807) (k:K (.int n)):jh n K:=⟨h,k⟩
theorem loose_M {l:List PV} {f:Bool} {o:Int} {K:Bool->Prop} (h:K (!f && decide (o=0))):ke l f o K:=fun _=>h
theorem append_no {l:List PV} {f:Bool} {o:Int} {x:PV} {K:Er->List PV->Bool->Int->Prop} (ho:o≠0) (h:K (.e 3) l f o):kb l f o x K :=
 fun _ _ _=>loose_M ⟨fun _=>h,fun e=>absurd e (by simp [ho])⟩
theorem append_yes {l:List PV} {x:PV} {K:Er->List PV->Bool->Int->Prop} (hl:l.length<1024) (h:K .ok (l++[x]) false 0):kb l false 0 x K :=
 fun _ _ _=>loose_M ⟨fun e=>(by cases e),fun _=>fun _=>⟨by simp only [In]; omega,fun e=>absurd e (by simp; omega),fun _=>fun _ _=>⟨by simp; omega,h⟩⟩⟩
theorem hold_M {l:List PV} {f:Bool} {o b:Int} {K:List PV->Bool->Int->Prop} (ho : -1000000<=o+b/\o+b<=1000000) (h:K l f (o+b)):j3 l f o b K :=
 fun _ _=>⟨by simp only [In]; omega,h⟩
theorem each_M {l:List PV} {f:Bool} {o:Int} {K0:Er->List PV->Bool->Int->Prop} {K:List PV->Int->Bool->Bool->Er->List PV->Bool->Int->Prop} (hl:l.length<=1000000) (ho : -100000<=o/\o<=100000) (h:K l 0 false false .ok l f (o+1)):kc l f o K0 K:=by
 intro _
 refine ⟨fun q=>q=l,fun _=>⟨fun b=>b=true,⟨fun _=>by simp,fun e=>absurd rfl e⟩,fun b hb=>⟨fun _=>fun _ _=>cloneV_M hl rfl,fun e=>absurd (hb.symm.trans e) (by simp)⟩⟩,fun q hq=>?_⟩
 subst hq
 exact hold_M (by omega) h
theorem over_end_M {l:List PV} {f:Bool} {o a:Int} {q:List PV} {p:Bool} {K:Int->Bool->Bool->List PV->Bool->Int->Prop} (ho : -100000<=o/\o<=100000) (h:K a true p l f (o + -1)):jG l f o q a false p K :=
 fun _ _=>⟨fun _=>hold_M (by omega) h,fun e=>(by cases e)⟩
theorem newlist_M {l:List PV} {K0:Prop} {K:List PV->Bool->Int->Prop} (hl:l.length<=1000000) (h:K l false 0):M_val_NewList l K0 K :=
 fun _=>cloneV_M hl h
theorem txt1:txt 1=[49]:=txt_dig (d:=1) (by omega) (by omega)
theorem txt3:txt 3=[51]:=txt_dig (d:=3) (by omega) (by omega)
theorem lfirst_M {K:Bool->Prop} (h:K true):jZ K:=by
 refine lsmall_M (by omega) (lsmall_M (by omega) (lsmall_M (by omega) ?_))
 have hP:Okl false [PV.int 3,PV.int 1,PV.int 2]:=fun x hx=>by
  simp only [List.mem_cons,List.not_mem_nil,or_false] at hx
  rcases hx with rfl | rfl | rfl <;> exact ⟨_,rfl⟩
 refine sorted_M hP (by simp) fun d' hd=>?_
 have e:d'=[PV.int 3,PV.int 2,PV.int 1]:=by
  refine jw.one hP hd (fun i j h1 h2 h3=>?_) (by decide)
  have h3:j<3:=h3
  have:(i=0/\j=1)∨(i=0/\j=2)∨(i=1/\j=2):=by omega
  rcases this with ⟨rfl,rfl⟩ | ⟨rfl,rfl⟩ | ⟨rfl,rfl⟩ <;> rfl
 subst e
 refine ⟨fun q=>q=false,⟨fun e=>absurd e (by simp),fun _=>⟨by simp,?_⟩⟩,?_⟩
 ·exact vrepr_int (by rw [txt3]; simp) (by rw [txt3]; rfl)
 rintro _ rfl
 refine ⟨fun q=>q=false,⟨fun e=>(by cases e),fun _=>⟨by simp,?_⟩⟩,?_⟩
 ·exact vrepr_int (by rw [txt1]; simp) (by rw [txt1]; rfl)
 rintro _ rfl
 refine ⟨fun e=>(by cases e),fun _=>lsmall_M (by omega) (newlist_M (by simp) (each_M (by simp) (by omega) ⟨fun e=>absurd rfl e,fun _=>lsmall_M (by omega) (append_no (by omega) (over_end_M (by omega) (is_M ?_)))⟩))⟩
 refine ⟨fun q=>q=true,⟨fun _=>lsmall_M (by omega) (append_yes (by simp) (by simp)),fun e=>absurd e (by decide)⟩,?_⟩
 rintro _ rfl
 exact h
end
 end Go.Proofs.YtjoepdjeekadcaaGreatDoor
