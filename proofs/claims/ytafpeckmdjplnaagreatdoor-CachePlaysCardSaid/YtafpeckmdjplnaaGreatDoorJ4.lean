/- Texts of this claim, joined by a program: GCa, GCl, KeyB, KeyH, Sha11, PathD, PathE, PathF, GPr, PathG, PathH, DiskL, DiskF, CacheP, CacheQ, CacheL, CacheF, ShaS, CacheR, CpB, Unr, Deep, One. -/
import Derived.Test.YtafpeckmdjplnaaGreatDoorJ3
namespace Go.Proofs.YtafpeckmdjplnaaGreatDoor

section
open Go Go.RowKit
attribute [local irreducible] WL WC WX WQ WK WJ Yld Eff Ef0 Fn
def kQ (e_Key:List UInt8) (e_Out:List UInt8) (K:(List UInt8)->Prop):Prop :=
 M_sha_Text e_Key (fun (k:List UInt8) =>
 M_sha_Text e_Out (fun (o:List UInt8) =>
 (k.length+([32]:List UInt8).length<=9223372036854775807) /\
 ((k++([32]:List UInt8)).length+o.length<=9223372036854775807) /\
 (((k++([32]:List UInt8))++o).length+([32]:List UInt8).length<=9223372036854775807) /\
 M_sha_Many ([k,o]:List (List UInt8)) (fun (t19:List UInt8) =>
 M_sha_Text t19 (fun (t20:List UInt8) =>
 ((((k++([32]:List UInt8))++o)++([32]:List UInt8)).length+t20.length<=9223372036854775807) /\
 (((((k++([32]:List UInt8))++o)++([32]:List UInt8))++t20).length+([10]:List UInt8).length<=9223372036854775807) /\
 K (((((k++([32]:List UInt8))++o)++([32]:List UInt8))++t20)++([10]:List UInt8))))))
def M_cache_one (s:List UInt8) (K:(List UInt8)->(List UInt8)->Bool->Prop):Prop :=
 (0<=(64:Int)/\(64:Int)<=s.length) /\
 M_sha_Parse (s.take 64) (fun (t120:List UInt8) (t121:Er) =>
 (0<=(65:Int)/\(65:Int)<=(129:Int)/\(129:Int)<=s.length) /\
 M_sha_Parse ((s.drop 65).take (129 - 65)) (fun (t180:List UInt8) (t181:Er) =>
 ∃ J1:Bool->Prop,(((((decide (t121=Er.ok)) && (decide (t181=Er.ok)))=true->kQ t120 t180 (fun (t33:List UInt8) =>
 J1 (decide (t33=s)))) /\
 (((decide (t121=Er.ok)) && (decide (t181=Er.ok)))=false->J1 false))) /\
 (∀ q2:Bool,J1 q2->K t120 t180 q2)))
def M_cache_Read (text:List UInt8) (K:(List (List UInt8 × List UInt8))->Int->Prop):Prop :=
 ∃ J1:(List (List UInt8 × List UInt8))->Int->Prop,(Lp2 (fun (l2:List (List UInt8 × List UInt8)) (n2:Int) kont1=>(In .i64 (n2+(195:Int))) /\
 (((n2+(195:Int))<=(text.length:Int)->(In .i64 (n2+(195:Int))) /\
 (0<=n2/\n2<=n2+(195:Int)/\n2+(195:Int)<=text.length) /\
 M_cache_one ((text.drop n2.toNat).take ((n2+(195:Int)).toNat - n2.toNat)) (fun (b7:List UInt8) (b8:List UInt8) (t191:Bool) =>
 (((!t191)=true->J1 l2 n2) /\
 ((!t191)=false->((l2.length+(([(b7,b8)]:List (List UInt8 × List UInt8))).length)*64<=140737488355328) /\
 (In .i64 (n2+(195:Int))) /\
 kont1 (l2++([(b7,b8)]:List (List UInt8 × List UInt8))) (n2+(195:Int)))))) /\
 (¬ ((n2+(195:Int))<=(text.length:Int))->J1 l2 n2))) [] (0:Int)) /\
 (∀ l:List (List UInt8 × List UInt8),∀ n:Int,J1 l n->K l n)
def km (d_files:List (List UInt8 × List UInt8 × Bool × List UInt8 × Bool × List (Int × List UInt8))) (d_ops:Int) (d_left:Int) (d_down:Bool) (p:List UInt8) (K0:Er->(List (List UInt8 × List UInt8 × Bool × List UInt8 × Bool × List (Int × List UInt8)))->Int->Int->Bool->Prop) (K:(List UInt8)->(List (List UInt8 × List UInt8))->Er->(List (List UInt8 × List UInt8 × Bool × List UInt8 × Bool × List (Int × List UInt8)))->Int->Int->Bool->Prop):Prop :=
 jU d_files d_ops d_left d_down p (fun (t190:List UInt8) (_:Bool) (t192:Er) (d_:List (List UInt8 × List UInt8 × Bool × List UInt8 × Bool × List (Int × List UInt8))) (d_2:Int) (d_3:Int) (d_4:Bool) =>
 ((¬ (t192=Er.ok)->K0 t192 d_ d_2 d_3 d_4) /\
 (t192=Er.ok->M_cache_Read t190 (fun (t280:List (List UInt8 × List UInt8)) (t281:Int) =>
 ∃ J1:(List (List UInt8 × List UInt8 × Bool × List UInt8 × Bool × List (Int × List UInt8)))->Int->Int->Bool->Prop,(((t281<(t190.length:Int)->(0<=t281/\t281<=t190.length) /\
 ZC d_ d_2 d_3 d_4 p (t190.take t281.toNat) (fun (err:Er) (d_5:List (List UInt8 × List UInt8 × Bool × List UInt8 × Bool × List (Int × List UInt8))) (d_6:Int) (d_7:Int) (d_8:Bool) =>
 ((¬ (err=Er.ok)->K0 err d_5 d_6 d_7 d_8) /\
 (err=Er.ok->jV d_5 d_6 d_7 d_8 p (fun (err2:Er) (d_9:List (List UInt8 × List UInt8 × Bool × List UInt8 × Bool × List (Int × List UInt8))) (d_10:Int) (d_11:Int) (d_12:Bool) =>
 ((¬ (err2=Er.ok)->K0 err2 d_9 d_10 d_11 d_12) /\
 (err2=Er.ok->J1 d_9 d_10 d_11 d_12))))))) /\
 (¬ (t281<(t190.length:Int))->J1 d_ d_2 d_3 d_4))) /\
 (∀ d0:List (List UInt8 × List UInt8 × Bool × List UInt8 × Bool × List (Int × List UInt8)),∀ d1:Int,∀ d2:Int,∀ d3:Bool,J1 d0 d1 d2 d3->Lp2 (fun (t57:Int) (t542:List (List UInt8 × List UInt8)) kont1=>((t57<(t280.length:Int)->(0<=t57/\t57<(t280.length:Nat)) /\
 (((t280.getD t57.toNat ([],[])).1).length=32/\t542.length<maxLen) /\
 (In .i64 (t57+(1:Int))) /\
 kont1 (t57+(1:Int)) (mput t542 ((t280.getD t57.toNat ([],[])).1) ((t280.getD t57.toNat ([],[])).2))) /\
 (¬ (t57<(t280.length:Int))->K p t542 Er.ok d0 d1 d2 d3))) (0:Int) ([]:List (List UInt8 × List UInt8)))))))
def ZB (_:List (List UInt8 × List UInt8 × Bool × List UInt8 × Bool × List (Int × List UInt8))) (_:Int) (_:Int) (_:Bool) (_:List UInt8) (c_l:List (List UInt8 × List UInt8)) (k:List UInt8) (K:(List UInt8)->Bool->Prop):Prop :=
 (k.length=32) /\
 K ((mget c_l k).getD (List.replicate 32 0)) ((mget c_l k).isSome)
def jQ (a7:List (List UInt8 × List UInt8 × Bool × List UInt8 × Bool × List (Int × List UInt8))) (b0:Int) (a9:Int) (a8:Bool) (c_p:List UInt8) (c_l:List (List UInt8 × List UInt8)) (k:List UInt8) (out:List UInt8) (K:Er->(List UInt8)->(List (List UInt8 × List UInt8))->(List (List UInt8 × List UInt8 × Bool × List UInt8 × Bool × List (Int × List UInt8)))->Int->Int->Bool->Prop):Prop :=
 (k.length=32) /\
 (((mget c_l k).isSome)=true->(((mget c_l k).getD (List.replicate 32 0)).length=32/\out.length=32)) /\
 (((((mget c_l k).isSome) && (decide (((mget c_l k).getD (List.replicate 32 0))=out)))=true->K Er.ok c_p c_l a7 b0 a9 a8) /\
 ((((mget c_l k).isSome) && (decide (((mget c_l k).getD (List.replicate 32 0))=out)))=false->kQ k out (fun (t36:List UInt8) =>
 kN a7 b0 a9 a8 c_p t36 (fun (err:Er) (d6:List (List UInt8 × List UInt8 × Bool × List UInt8 × Bool × List (Int × List UInt8))) (c6:Int) (c7:Int) (c8:Bool) =>
 ((¬ (err=Er.ok)->K err c_p c_l d6 c6 c7 c8) /\
 (err=Er.ok->(k.length=32/\c_l.length<maxLen) /\
 K Er.ok c_p (mput c_l k out) d6 c6 c7 c8))))))
def Zw (a7:List (List UInt8 × List UInt8 × Bool × List UInt8 × Bool × List (Int × List UInt8))) (b0:Int) (a9:Int) (a8:Bool) (c_p:List UInt8) (c_l:List (List UInt8 × List UInt8)) (K:Er->(List UInt8)->(List (List UInt8 × List UInt8))->(List (List UInt8 × List UInt8 × Bool × List UInt8 × Bool × List (Int × List UInt8)))->Int->Int->Bool->Prop):Prop :=
 jV a7 b0 a9 a8 c_p (fun (t2:Er) (d6:List (List UInt8 × List UInt8 × Bool × List UInt8 × Bool × List (Int × List UInt8))) (c6:Int) (c7:Int) (c8:Bool) =>
 K t2 c_p c_l d6 c6 c7 c8)
def kY (_:List (List UInt8 × List UInt8 × Bool × List UInt8 × Bool × List (Int × List UInt8))) (_:Int) (_:Int) (_:Bool) (_:List UInt8) (c_l:List (List UInt8 × List UInt8)) (K:Int->Prop):Prop :=
 K (c_l.length:Int)
set_option maxHeartbeats 8000000 in
theorem W_cache_Record {w:World} {e_Key:List UInt8} {e_Out:List UInt8} {K:(List UInt8)->Prop} (H:kQ e_Key e_Out K):Fn Tryz.prog 47 ⟨[.agg ⟨(a32 e_Key++a32 e_Out)⟩]⟩ w (fun v w'=>w.grownBy w' none/\∃ (r:List UInt8),v=vs r/\K r):=by
 unfold kQ at H
 refine Fn.enter (by kernel_rfl) Tryz.func47 rfl Tryz.ntmps47 rfl ?_
 refine zd (zb (qm (us:=(a32 e_Key++a32 e_Out)) rfl rfl rfl (fun g1 w1 hB1 hg1 hl1=>yp (h:=(zf (za (zd (zO (fun k => !(Nat.beq k 2 || Nat.beq k 5)) (LD [1,4] (fun w'=>Bl w' g1 97 (a32 e_Key++a32 e_Out))) mixed (by kernel_rfl) (fun k w' h _=>(ji h hB1)) (zl rfl rfl (fun w' hw'=>zc qY rfl) (zl rfl rfl (fun w' hw'=>zQ (vs:=(a32 e_Key)) qY (hw' rfl) rfl rfl rfl rfl) (WJ.call rfl (je) rfl rfl (W_sha_Text H) (fun v w' h w2 e=>DD.keep (Bl.g0 hB1 (jg h.1 e))) ?_)))))))))))
 rintro _ w2 ⟨hg2,k,rfl,H⟩
 have k1:=hB1.g0 hg2
 refine zl rfl rfl (fun w' hw'=>zc qY rfl) (zl rfl rfl (fun w' hw'=>zQ (vs:=(a32 e_Out)) qY (hw' rfl) rfl rfl rfl rfl) (WJ.call rfl (je) rfl rfl (W_sha_Text H) (fun v w' h w2 e=>DD.keep (Bl.g0 k1 (jg h.1 e))) ?_))
 rintro _ w3 ⟨hg3,o,rfl,H⟩
 have gr3:=ja (ja hg1 hg2) hg3
 have k2:=k1.g0 hg3
 refine zl rfl rfl (fun w' hw'=>zc qY rfl) (zl rfl rfl (fun w' hw'=>zc qY rfl) (z8 (za (zd (zb (yp (h:=?_)))))))
 obtain ⟨h1,H⟩:=H
 refine zg rfl (qn rfl rfl h1) (yp (h:=?_))
 obtain ⟨h2,H⟩:=H
 refine zg rfl (qn rfl rfl h2) ?_
 obtain ⟨h3,H⟩:=H
 refine zg rfl (qn rfl rfl h3) (yp (h:=(yp (h:=(qD qY rfl rfl rfl (jd rfl (jd rfl kg)) rfl (by omega) (fun g2 w4 hB2 hg4 hl2=>?_))))))
 have hO1:Own vs w4 w.heap.size 9 (some ⟨g2,0,none⟩) 2 ([k,o]:List (List UInt8)):=Own.ofBl hB2 (Nat.le_trans (qZ gr3) hl2) (by simp [maxLen]) rfl
 refine WL.call rfl rfl (W_sha_Many hO1.rd rfl H) ?_
 rintro _ w5 ⟨hg5,t19,rfl,H⟩
 refine WL.call rfl rfl (W_sha_Text H) ?_
 rintro _ w6 ⟨hg6,t20,rfl,H⟩
 obtain ⟨h4,H⟩:=H
 refine zg rfl (qn rfl rfl h4) ?_
 obtain ⟨h5,H⟩:=H
 exact zg rfl (qn rfl rfl h5) (yp (h:=(zf (za (zq (zw rfl rfl ⟨(ja (ja (ja gr3 hg4) hg5) hg6),((((k++([32]:List UInt8))++o)++([32]:List UInt8))++t20)++([10]:List UInt8),rfl,H⟩))))))
set_option maxHeartbeats 8000000 in
theorem W_cache_one {S:List Nat} {w:World} {s:List UInt8} {K:(List UInt8)->(List UInt8)->Bool->Prop} (hG:GOK S w) (hS12:12∈S) (H:M_cache_one s K):Fn Tryz.prog 72 ⟨[vs s]⟩ w (fun v w'=>w.grownBy w' none/\∃ (e3:List UInt8),∃ (e4:List UInt8),∃ (r1:Bool),v=.tuple #[.agg ⟨(a32 e3++a32 e4)⟩,.bool r1]/\K e3 e4 r1):=by
 unfold M_cache_one at H
 refine Fn.enter (by kernel_rfl) Tryz.func72 rfl Tryz.ntmps72 rfl ?_
 refine zd (zb (WL.alloc rfl zero97 (fun g1 w1 hB1 hg1 hl1=>?_)))
 have gr1:=hg1
 refine yp (h:=(zf (za (zd (zb (yp (h:=?_)))))))
 obtain ⟨h1,H⟩:=H
 refine zg rfl (qB qY rfl rfl rfl rfl (Int.le_refl 0) h1.1 h1.2) (WL.call rfl rfl (W_sha_Parse (hG.grown gr1) hS12 H) ?_)
 rintro _ w2 ⟨hg2,t120,v_t121,t121,rfl,ht121,H⟩
 have gr2:=ja gr1 hg2
 have k1:=hB1.g0 hg2
 refine yp (h:=(yp (h:=(yp (h:=(WL.alloc rfl zero45 (fun g2 w3 hB2 hg3 hl2=>?_)))))))
 rw [kc] at hB2
 have gr3:=ja gr2 hg3
 refine zP (vs:=(a32 t120)) qY rfl rfl rfl (jq _) hB2 rfl rfl (fun w4 hB3 hg4=>?_)
 have gr4:=jk gr3 hg4 (Ge.le (Ge.box hl2) (qZ gr2))
 refine yp (h:=(zf (za (zd (zb (yp (h:=?_)))))))
 obtain ⟨h2,H⟩:=H
 refine zg rfl (qB qY rfl rfl rfl rfl h2.1 h2.2.1 h2.2.2) (WL.call rfl rfl (W_sha_Parse (hG.grown gr4) hS12 H) ?_)
 rintro _ w5 ⟨hg5,t180,v_t181,t181,rfl,ht181,H⟩
 have gr5:=ja gr4 hg5
 have k6:=((k1.g0 hg3).go hg4 (Dj.new k1.lt' (Ge.box hl2))).g0 hg5
 have k8:=hB3.g0 hg5
 refine yp (h:=(yp (h:=(yp (h:=(WL.alloc rfl zero45 (fun g3 w6 hB4 hg6 hl3=>?_)))))))
 rw [kc] at hB4
 have gr6:=ja gr5 hg6
 refine zP (vs:=(a32 t180)) qY rfl rfl rfl (jq _) hB4 rfl rfl (fun w7 hB5 hg7=>?_)
 have gr7:=jk gr6 hg7 (Ge.le (Ge.box hl3) (qZ gr5))
 have k13:=(k6.g0 hg6).go hg7 (Dj.new k6.lt' (Ge.box hl3))
 refine yp (h:=(zf (za (zd (zb (zg rfl (zQ (vs:=(a32 t120)) qY ((k8.g0 hg6).go hg7 (Dj.new k8.lt' (Ge.box hl3))) rfl rfl rfl rfl) (zg rfl (zQ (vs:=(a32 t180)) qY hB5 rfl rfl rfl rfl) (zg rfl (z6 (us:=(a32 t120++a32 t180)) zero97 places97 rfl rfl) (WL.alloc rfl zero97 (fun g4 w8 hB6 hg8 hl4=>?_))))))))))
 have gr8:=ja gr7 hg8
 refine zP (vs:=(a32 t120++a32 t180)) qY rfl rfl rfl (all1a (jq _) (jq _)) hB6 rfl rfl (fun w9 hB7 hg9=>?_)
 have gr9:=jk gr8 hg9 (Ge.le (Ge.box hl4) (qZ gr7))
 have k20:=(k13.g0 hg8).go hg9 (Dj.new k13.lt' (Ge.box hl4))
 have k21:=ErrR.go ((ErrR.go (((ErrR.go (ht121.grown hg3) hG gr3 hg4 gr4 hB2 rfl).grown hg5).grown hg6) hG gr6 hg7 gr7 hB4 rfl).grown hg8) hG gr8 hg9 gr9 hB6 rfl
 have k22:=ErrR.go ((ErrR.go (ht181.grown hg6) hG gr6 hg7 gr7 hB4 rfl).grown hg8) hG gr8 hg9 gr9 hB6 rfl
 refine zf (za (zd (zO (fun k => !(Nat.beq k 9 || Nat.beq k 13)) (LD [0,8] (fun w'=>Bl w' g4 97 (a32 t120++a32 t180))) mixed (by kernel_rfl) (fun k w' h _=>(ji h hB7)) (zl rfl rfl (fun w' hw'=>zQ (vs:=(a32 t120++a32 t180)) qY (hw' rfl) rfl rfl rfl rfl) (zl rfl rfl (fun w' hw'=>zc qY rfl) (zl rfl rfl (fun w' hw'=>qq Tryz.underlying26 k21 rfl) (zl rfl rfl (fun w' hw'=>zc qY rfl) (qH 3 (fun L' w'=>∃ q1:Bool,L'=[(30,.bool q1),(0,vs s),(2,.pointer (some ⟨g1,0,none⟩)),(8,.pointer (some ⟨g4,0,none⟩)),(24,.agg ⟨(a32 t120++a32 t180)⟩)]/\((decide (t121=Er.ok)) && (decide (t181=Er.ok)))=q1/\w9=w') ?_ (fun hQ=>?_)))))))))
 ·rintro _ _ ⟨q1,rfl,rfl,rfl⟩
  refine zl rfl rfl (fun w' hw'=>zc qY rfl) ?_
  obtain ⟨J1,H,hJ1⟩:=H
  refine qH 5 (fun L' w'=>∃ q2:Bool,L'=[(36,.bool q2),(2,.pointer (some ⟨g1,0,none⟩)),(24,.agg ⟨(a32 t120++a32 t180)⟩)]/\J1 q2/\w.grownBy w' none/\Bl w' g1 97 (a32 (List.replicate 32 0:List UInt8)++a32 (List.replicate 32 0:List UInt8))/\Bl w' g4 97 (a32 t120++a32 t180)) ?_ (fun hQ=>?_)
  ·clear H
   rintro _ w10 ⟨q2,rfl,H,gr10,k23,k24⟩
   replace H:=hJ1 q2 H
   refine qh rfl (qI (vs:=(a32 t120++a32 t180)) qY rfl rfl rfl (all1a (jq _) (jq _)) k23 rfl rfl) (fun w' h=>DD.keep (Bl.go k24 (jg h.2 (Eqv.refl _)) (Dj.new k13.lt' (Ge.box hl4)).symm)) ?_
   rintro w11 ⟨hB8,hg10⟩
   have k25:=k24.go hg10 ((Dj.new k13.lt' (Ge.box hl4)).symm)
   exact zl rfl rfl (fun w' hw'=>zc qY rfl) (z8 (za (zq (qE qY rfl rfl rfl hB8 rfl rfl ⟨(jk gr10 hg10 (Ge.le (Ge.box hl1) (Nat.le_refl _))),t120,t180,q2,rfl,H⟩))))
  ·clear hJ1
   rcases Bool.eq_false_or_eq_true ((decide (t121=Er.ok)) && (decide (t181=Er.ok))) with b1 | b1
   ·replace H:=H.1 b1
    refine zY rfl (jb rfl rfl (okb b1)) rfl (fun w' hw'=>zQ (vs:=(a32 t120++a32 t180)) qY (hw' rfl) rfl rfl rfl rfl) (WJ.call rfl (jb rfl rfl (okb b1)) rfl rfl (W_cache_Record H) (fun v w' h w2 e=>DD.keep (Bl.g0 hB7 (jg h.1 e))) ?_)
    rintro _ w12 ⟨hg11,t33,rfl,H⟩
    exact zY rfl (jb rfl rfl (okb b1)) rfl (fun w' hw'=>zc qY rfl) (zY rfl (jb rfl rfl (okb b1)) rfl (fun w' hw'=>zc qY rfl) (zl rfl rfl (fun w' hw'=>zt (okb b1) rfl) (WJ.weaken sb (hQ _ _ ⟨decide (t33=s),rfl,H,(ja gr9 hg11),(k20.g0 hg11),(hB7.g0 hg11)⟩))))
   ·replace H:=H.2 b1
    exact zX rfl rfl (okb b1) rfl (zX rfl rfl (okb b1) rfl (zX rfl rfl (okb b1) rfl (zX rfl rfl (okb b1) rfl (zl rfl rfl (fun w' hw'=>zr (okb b1) rfl) (WJ.weaken sb (hQ _ _ ⟨false,rfl,H,gr9,k20,hB7⟩))))))
 ·clear H
  rcases Bool.eq_false_or_eq_true (decide (t121=Er.ok)) with b2 | b2
  ·exact zY rfl (jb rfl rfl (okb b2)) rfl (fun w' hw'=>zc qY rfl) (zY rfl (jb rfl rfl (okb b2)) rfl (fun w' hw'=>qq Tryz.underlying26 k22 rfl) (zl rfl rfl (fun w' hw'=>zt (okb b2) rfl) (WJ.weaken sb (hQ _ _ ⟨decide (t181=Er.ok),rfl,by rw [b2] <;> rfl,rfl⟩))))
  ·exact zX rfl rfl (okb b2) rfl (zX rfl rfl (okb b2) rfl (zl rfl rfl (fun w' hw'=>zr (okb b2) rfl) (WJ.weaken sb (hQ _ _ ⟨false,rfl,by rw [b2] <;> rfl,rfl⟩))))
set_option maxHeartbeats 8000000 in
theorem W_cache_Read {S:List Nat} {w:World} {text:List UInt8} {K:(List (List UInt8 × List UInt8))->Int->Prop} (hG:GOK S w) (hS12:12∈S) (H:M_cache_Read text K):Fn Tryz.prog 41 ⟨[vs text]⟩ w (fun v w'=>w.grownBy w' none/\∃ (r0:List (List UInt8 × List UInt8)),∃ (e8:Option Addr),∃ (e9:Nat),∃ (r1:Int),v=.tuple #[.slice e8 r0.length e9,.int .i64 r1]/\OwnK 64 enc97 w' w.heap.size 97 e8 e9 r0/\K r0 r1):=by
 unfold M_cache_Read at H
 refine Fn.enter (by kernel_rfl) Tryz.func41 rfl Tryz.ntmps41 rfl ?_
 refine zd (zb (yp (h:=(yp (h:=(zf (za (zd (zb (yp (h:=(zf (za (zd (zb (yp (h:=(zf (za (zd ?_))))))))))))))))))))
 obtain ⟨J1,H,hJ1⟩:=H
 refine qd (fun L' w'=>∃ (l:List (List UInt8 × List UInt8)),∃ (A_l:Option Addr),∃ (c_l:Nat),∃ (n_l:Nat),∃ (n:Int),L'=[(4,.slice A_l n_l c_l),(5,.int .i64 n)]/\J1 l n/\n_l=l.length/\w.grownBy w' none/\OwnK 64 enc97 w' w.heap.size 97 A_l c_l l) ?_ (fun hQ=>?_)
 ·clear H
  rintro _ w1 ⟨l,A_l,c_l,n_l,n,rfl,H,rfl,gr1,k1⟩
  replace H:=hJ1 l n H
  exact za (zd (zb (yp (h:=(yp (h:=(yp (h:=(yp (h:=(zf (za (zq (qg rfl rfl rfl ⟨gr1,l,A_l,c_l,n,rfl,k1,H⟩))))))))))))))
 ·clear hJ1
  refine WC.block ?_
  obtain ⟨I1,mu1,e1,HR1⟩:=H
  refine zW (fun n' L' w'=>∃ (l2:List (List UInt8 × List UInt8)),∃ (d9:Option Addr),∃ (d5:Nat),∃ (e7:Nat),∃ (n2:Int),n'=mu1 l2 n2/\L'=[(0,vs text),(4,.slice d9 e7 d5),(5,.int .i64 n2)]/\I1 l2 n2/\e7=l2.length/\w.grownBy w' none/\OwnK 64 enc97 w' w.heap.size 97 d9 d5 l2) _ _ ⟨[],none,0,0,(0:Int),rfl,rfl,e1,rfl,(jr _ _),(OwnK.nil enc97_ok w w.heap.size 97)⟩ sb ?_
  clear e1
  rintro _ _ w2 ⟨l2,d9,d5,e7,n2,rfl,rfl,hI1,rfl,gr2,k2⟩
  have H:=HR1 l2 n2 hI1
  refine zd (zd (zb (yp (h:=?_))))
  obtain ⟨h1,H⟩:=H
  refine zg rfl (Yld.add rfl rfl h1) (yp (h:=(yp (h:=(yp (h:=(zf (za (zp rfl (fun b1=>?_) (fun b1=>?_))))))))))
  ·replace H:=H.1 (of_decide_eq_true b1)
   refine zo (za (WC.block (zd (zb (yp (h:=(yp (h:=(yp (h:=?_))))))))))
   obtain ⟨h2,H⟩:=H
   refine zg rfl (Yld.add rfl rfl h2) ?_
   obtain ⟨h3,H⟩:=H
   refine zg rfl (qB qY rfl rfl rfl rfl h3.1 h3.2.1 h3.2.2) (WL.call rfl rfl (W_cache_one (hG.grown gr2) hS12 H) ?_)
   rintro _ w3 ⟨hg1,b7,b8,t191,rfl,H⟩
   have gr3:=ja gr2 hg1
   have k3:=k2.grown hg1
   refine yp (h:=(yp (h:=(yp (h:=(WL.alloc rfl zero97 (fun g1 w4 hB1 hg2 hl1=>zP (vs:=(a32 b7++a32 b8)) qY rfl rfl rfl (all1a (jq _) (jq _)) hB1 rfl rfl (fun w5 hB2 hg3=>?_))))))))
   have gr5:=jk (ja gr3 hg2) hg3 (Ge.le (Ge.box hl1) (qZ gr3))
   have k5:=(k3.grown hg2).go hg3 (Dj.new k3.lt' (Ge.box hl1))
   refine yp (h:=(zf (za (zd (zd (zb (yp (h:=(yp (h:=(zf (za (zp rfl (fun b2=>?_) (fun b2=>?_))))))))))))))
   ·replace H:=H.1 (b2)
    exact zD (zj (zy rfl (zj (zm (WX.weaken sb (hQ _ _ ⟨l2,d9,d5,l2.length,n2,rfl,H,rfl,gr5,k5⟩))))))
   ·replace H:=H.2 (b2)
    refine zo (za (zd (zb (yp (h:=(zg rfl (zQ (vs:=(a32 b7++a32 b8)) qY hB2 rfl rfl rfl rfl) (qO (f:=enc97) ([(b7,b8)]:List (List UInt8 × List UInt8)) enc97_ok rfl ow68 rfl rfl rfl (fun g2 w6 hB3 hg4 hl2=>?_))))))))
    have hO1:OwnK 64 enc97 w6 w.heap.size 97 (some ⟨g2,0,none⟩) 1 ([(b7,b8)]:List (List UInt8 × List UInt8)):=OwnK.ofBl enc97_ok hB3 (Nat.le_trans (qZ gr5) hl2) (by simp [maxLen]) rfl
    have gr6:=ja gr5 hg4
    have k6:=k5.grown hg4
    obtain ⟨h4,H⟩:=H
    refine qL rfl ow68 k6 rfl rfl hO1.rd rfl rfl h4 (kF h4) (qZ gr6) (fun f2 f3 w7 hO2 hg5 hk1=>yp (h:=(zf (za (zb (yp (h:=?_)))))))
    obtain ⟨h5,H⟩:=H
    exact zg rfl (Yld.add rfl rfl h5) (yp (h:=(zf (zi (zS _ ⟨l2++([(b7,b8)]:List (List UInt8 × List UInt8)),f2,f3,(l2++([(b7,b8)]:List (List UInt8 × List UInt8))).length,n2+(195:Int),rfl,rfl,H.1,rfl,(jk gr6 hg5 k6.ge'),hO2⟩ sb H.2)))))
  ·replace H:=H.2 (of_decide_eq_false b1)
   exact zD (zj (zj (zm (WX.weaken sb (hQ _ _ ⟨l2,d9,d5,l2.length,n2,rfl,H,rfl,gr2,k2⟩)))))
set_option maxHeartbeats 8000000 in
theorem W_cache_Open {S:List Nat} {B:Nat} {w:World} {g_d:Nat} {a1:Nat} {a5:List (List UInt8 × PH)} {d_files:List (List UInt8 × List UInt8 × Bool × List UInt8 × Bool × List (Int × List UInt8))} {d_ops:Int} {d_left:Int} {d_down:Bool} {p:List UInt8} {K0:Er->(List (List UInt8 × List UInt8 × Bool × List UInt8 × Bool × List (Int × List UInt8)))->Int->Int->Bool->Prop} {K:(List UInt8)->(List (List UInt8 × List UInt8))->Er->(List (List UInt8 × List UInt8 × Bool × List UInt8 × Bool × List (Int × List UInt8)))->Int->Int->Bool->Prop} (hG:GB S B w) (hB:B<=w.heap.size) (hP:AllP (fun p=>Ge p B) ((some g_d) :: (FP a1 a5 none))) (hS9:9∈S) (hS11:11∈S) (hS12:12∈S) (hS15:15∈S) (hS100:100∈S) (hd_files:jc pe86 w a1 a5 d_files none) (hd:Bl w g_d 81 [.map (some a1),.int .i64 d_ops,.int .i64 d_left,.bool d_down]) (hdj0_1:AllP (Dj (some g_d)) (FP a1 a5 none)) (H:km d_files d_ops d_left d_down p K0 K):Fn Tryz.prog 7 ⟨[.pointer (some ⟨g_d,0,none⟩),vs p]⟩ w (fun v w'=>GrL ((some g_d) :: (FP a1 a5 none)) w w'/\((∃ (v_r12:Value),∃ (r12:Er),∃ (b6:List (List UInt8 × PH)),∃ (d_files2:List (List UInt8 × List UInt8 × Bool × List UInt8 × Bool × List (Int × List UInt8))),∃ (d_ops2:Int),∃ (d_left2:Int),∃ (d_down2:Bool),v=.tuple #[.pointer none,v_r12]/\ErrR S w' v_r12 r12/\Bl w' g_d 81 [.map (some a1),.int .i64 d_ops2,.int .i64 d_left2,.bool d_down2]/\jc pe86 w' a1 b6 d_files2 none/\AllP (InP ((some g_d) :: (FP a1 a5 none)) w.heap.size) (FP a1 b6 none)/\AllP (Dj (some g_d)) (FP a1 b6 none)/\K0 r12 d_files2 d_ops2 d_left2 d_down2)∨(∃ (d8:Nat),∃ (f1:List UInt8),∃ (c9:Nat),∃ (f0:List (List UInt8 × List UInt8)),∃ (v_r1:Value),∃ (r1:Er),∃ (b6:List (List UInt8 × PH)),∃ (d_files2:List (List UInt8 × List UInt8 × Bool × List UInt8 × Bool × List (Int × List UInt8))),∃ (d_ops2:Int),∃ (d_left2:Int),∃ (d_down2:Bool),v=.tuple #[.pointer (some ⟨d8,0,none⟩),v_r1]/\ErrR S w' v_r1 r1/\MapB vA okA vA w' c9 f0/\Ge (some c9) w.heap.size/\Bl w' d8 95 [.pointer (some ⟨g_d,0,none⟩),vs f1,.map (some c9)]/\Ge (some d8) w.heap.size/\Dj (some c9) (some d8)/\Bl w' g_d 81 [.map (some a1),.int .i64 d_ops2,.int .i64 d_left2,.bool d_down2]/\jc pe86 w' a1 b6 d_files2 none/\AllP (InP ((some g_d) :: (FP a1 a5 none)) w.heap.size) (FP a1 b6 none)/\AllP (Dj (some g_d)) (FP a1 b6 none)/\Dj (some c9) (some g_d)/\AllP (Dj (some c9)) (FP a1 b6 none)/\Dj (some d8) (some g_d)/\AllP (Dj (some d8)) (FP a1 b6 none)/\K f1 f0 r1 d_files2 d_ops2 d_left2 d_down2))):=by
 unfold km at H
 refine Fn.enter (by kernel_rfl) Tryz.func7 rfl Tryz.ntmps7 rfl ?_
 have hNoAt:AllP (NoAt w) ((some g_d) :: (FP a1 a5 none)):=(apC (NoAt.bl hd rfl) hd_files.noats)
 refine zd (zb (yp (h:=(yp (h:=(zf (za (zd (zb (yp (h:=(yp (h:=(WL.call rfl rfl (W_pdisk_Disk_Read hG (Nat.le_trans hB (Nat.le_refl _)) (apC (InP.toGe (InP.mem (List.Mem.head _)) hP hB) (InA.toGe (InA.mem (fun _ hp=>List.Mem.tail _ (hp))) hP hB)) hS15 hd_files hd hdj0_1 H) ?_))))))))))))))
 rintro _ w1 ⟨hgl1,t190,t191,v_t192,t192,e5,d_,d_2,d_3,d_4,rfl,ht192,hB1,hM1,hi1,dj1,H⟩
 have gr1:GrL ((some g_d) :: (FP a1 a5 none)) w w1:=GrL.modL (GrL.refl _) hgl1 (apC (InP.mem (List.Mem.head _)) (InA.mem (fun _ hp=>List.Mem.tail _ (hp))))
 refine yp (h:=(yp (h:=(yp (h:=(yp (h:=(yp (h:=(yp (h:=(yp (h:=(zf (za (zd (zd (zb (yp (h:=(zg rfl (qj Tryz.underlying26 ht192 rfl) (zf (za (zp rfl (fun b1=>?_) (fun b1=>?_)))))))))))))))))))))))))
 ·replace H:=H.1 (Zp b1)
  exact zd (zb (yp (h:=(yp (h:=(yp (h:=(zf (za (zq (zh (qg rfl rfl rfl ⟨gr1,Or.inl ⟨v_t192,t192,e5,d_,d_2,d_3,d_4,rfl,ht192,hB1,hM1,(InA.trans hi1 (apC (InP.mem (List.Mem.head _)) (InA.mem (fun _ hp=>List.Mem.tail _ (hp)))) (Nat.le_refl _)),dj1,H⟩⟩))))))))))))
 ·replace H:=H.2 (kL b1)
  refine zo (za (zd (zb (yp (h:=(WL.call rfl rfl (W_cache_Read (hG.goL gr1 hP).ok hS12 H) ?_))))))
  rintro _ w2 ⟨hg1,t280,c5,d7,t281,rfl,ht280,H⟩
  have hb1:=ht280.ge'
  have k1:=ht280.base (fun g hg=>Nat.le_trans (GrL.sizeL gr1) (hb1 g hg))
  have gr2:=GrL.add0 gr1 hg1
  have k2:=hM1.g0 hg1
  have k3:=hB1.g0 hg1
  refine yp (h:=(yp (h:=(yp (h:=(yp (h:=(yp (h:=(zf (za (zd ?_))))))))))))
  obtain ⟨J1,H,hJ1⟩:=H
  refine qd (fun L' w'=>∃ (d0:List (List UInt8 × List UInt8 × Bool × List UInt8 × Bool × List (Int × List UInt8))),∃ (c2:List (List UInt8 × PH)),∃ (d1:Int),∃ (d2:Int),∃ (d3:Bool),L'=[(0,.pointer (some ⟨g_d,0,none⟩)),(1,vs p),(9,.slice c5 t280.length d7)]/\J1 d0 d1 d2 d3/\GrL ((some g_d) :: (FP a1 a5 none)) w w'/\Bl w' g_d 81 [.map (some a1),.int .i64 d1,.int .i64 d2,.bool d3]/\OwnK 64 enc97 w' w.heap.size 97 c5 d7 t280/\jc pe86 w' a1 c2 d0 none/\AllP (Dj (some g_d)) (FP a1 c2 none)/\AllP (Dj (blk c5)) (FP a1 c2 none)/\AllP (InP ((some g_d) :: (FP a1 a5 none)) w.heap.size) (FP a1 c2 none)) ?_ (fun hQ=>?_)
  ·clear H
   rintro _ w3 ⟨d0,c2,d1,d2,d3,rfl,H,gr3,k4,k5,k6,dj2,dj3,hi2⟩
   replace H:=hJ1 d0 d1 d2 d3 H
   refine za (zd (zb (yp (h:=(yp (h:=(qQ je rfl (Eff.makeMap vA okA vA) ?_)))))))
   rintro _ w4 ⟨rfl,hB2,hg2⟩
   obtain ⟨c4,hl1⟩:∃ g,g=w3.heap.size:=⟨_,rfl⟩
   rw [<-hl1] at hB2
   rw [<-hl1]
   have gr4:=GrL.add0 gr3 hg2
   have k7:=k4.g0 hg2
   have k9:=k6.g0 hg2
   refine zg rfl (z6 (us:=[.pointer (some ⟨g_d,0,none⟩),vs p,.map (some c4)]) zero95 places95 rfl rfl) (qm (us:=[.pointer (some ⟨g_d,0,none⟩),vs p,.map (some c4)]) rfl rfl rfl (fun g1 w5 hB3 hg3 hl2=>yp (h:=(zf (za (zd (zd (zb (yp (h:=(yp (h:=(yp (h:=(zf (za (WC.block ?_)))))))))))))))))
   obtain ⟨I1,mu1,e1,HR1⟩:=H
   refine zW (fun n' L' w'=>∃ (t57:Int),∃ (t542:List (List UInt8 × List UInt8)),n'=mu1 t57 t542/\L'=[(13,.pointer (some ⟨g1,0,none⟩)),(55,.slice c5 t280.length d7),(56,.int .i64 (t280.length:Int)),(57,.int .i64 t57)]/\I1 t57 t542/\GrL ((some g_d) :: (FP a1 a5 none)) w w'/\Bl w' g_d 81 [.map (some a1),.int .i64 d1,.int .i64 d2,.bool d3]/\OwnK 64 enc97 w' w.heap.size 97 c5 d7 t280/\jc pe86 w' a1 c2 d0 none/\Bl w' g1 95 [.pointer (some ⟨g_d,0,none⟩),vs p,.map (some c4)]/\MapB vA okA vA w' c4 t542/\AllP (Dj (some g_d)) (FP a1 c2 none)/\Dj (some g_d) (some c4)/\AllP (Dj (blk c5)) (FP a1 c2 none)/\Dj (blk c5) (some c4)/\AllP (Dj (some g1)) (FP a1 c2 none)/\AllP (Dj (some c4)) (FP a1 c2 none)/\Dj (some g1) (some c4)/\AllP (InP ((some g_d) :: (FP a1 a5 none)) w.heap.size) (FP a1 c2 none)) _ _ ⟨(0:Int),([]:List (List UInt8 × List UInt8)),rfl,rfl,e1,(GrL.add0 gr4 hg3),(k7.g0 hg3),((k5.grown hg2).grown hg3),(k9.g0 hg3),hB3,(hB2.g0 hg3),dj2,(Dj.new k4.lt' (Ge.box (Nat.le_of_eq hl1.symm))),dj3,(Dj.new k5.lt' (Ge.box (Nat.le_of_eq hl1.symm))),(k9.new (Ge.box hl2)),(k6.new (Ge.box (Nat.le_of_eq hl1.symm))),(Dj.new hB2.lt' (Ge.box hl2)).symm,hi2⟩ sb ?_
   clear e1
   rintro _ _ w6 ⟨t57,t542,rfl,rfl,hI1,gr6,k14,k15,k16,k17,k18,dj4,dj5,dj6,dj7,dj8,dj9,dj10,hi3⟩
   have H:=HR1 t57 t542 hI1
   refine zd (zb (yp (h:=(zf (za (zd (zp rfl (fun b2=>?_) (fun b2=>?_))))))))
   ·replace H:=H.1 (of_decide_eq_true b2)
    refine zo (za (zd (WC.block (zd (zb ?_)))))
    obtain ⟨h1,H⟩:=H
    refine zg rfl (qa qY k15.rd rfl rfl rfl rfl h1.1 h1.2) (zg rfl (qt ([],[]) qY k15.rd rfl rfl (iltN h1 rfl)) (WL.alloc rfl zero97 (fun g2 w7 hB4 hg4 hl3=>zP (vs:=(a32 ((t280.getD t57.toNat ([],[])).1)++a32 ((t280.getD t57.toNat ([],[])).2))) qY rfl rfl rfl (all1a (jq _) (jq _)) hB4 rfl rfl (fun w8 hB5 hg5=>?_))))
    have gr8:GrL ((some g_d) :: (FP a1 a5 none)) w w8:=GrL.mod (GrL.add0 gr6 hg4) hg5 (InP.ge (Ge.le (Ge.box hl3) (GrL.sizeL gr6)))
    have k27:=(k17.g0 hg4).go hg5 (Dj.new k17.lt' (Ge.box hl3))
    refine zf (za (zO (fun k => !(Nat.beq k 8)) (LD [3,5,7] (fun w'=>Bl w' g1 95 [.pointer (some ⟨g_d,0,none⟩),vs p,.map (some c4)]/\Bl w' g2 97 (a32 ((t280.getD t57.toNat ([],[])).1)++a32 ((t280.getD t57.toNat ([],[])).2)))) mixed (by kernel_rfl) (fun k w' h _=>⟨(ji h k27),(ji h hB5)⟩) (zl rfl rfl (fun w' hw'=>zc qY rfl) (zl rfl rfl (fun w' hw'=>zc qY rfl) (zl rfl rfl (fun w' hw'=>zc qY rfl) (zl rfl rfl (fun w' hw'=>zk qY (hw' rfl).1 rfl rfl rfl) (zl rfl rfl (fun w' hw'=>zc qY rfl) (zl rfl rfl (fun w' hw'=>zQ (vs:=(a32 ((t280.getD t57.toNat ([],[])).1))) qY (hw' rfl).2 rfl rfl rfl rfl) (zl rfl rfl (fun w' hw'=>zc qY rfl) (zl rfl rfl (fun w' hw'=>zQ (vs:=(a32 ((t280.getD t57.toNat ([],[])).2))) qY (hw' rfl).2 rfl rfl rfl rfl) ?_))))))))))
    obtain ⟨h2,H⟩:=H
    refine qh rfl (Ef0.mapPut keyF_a Tryz.underlying93 ((k18.g0 hg4).go hg5 (Dj.new k18.lt' (Ge.box hl3))) h2.2 rfl rfl h2.1 rfl) (fun w' h=>DD.keep (⟨(Bl.go k27 (jg h.2 (Eqv.refl _)) dj10),(Bl.go hB5 (jg h.2 (Eqv.refl _)) (Dj.new k18.lt' (Ge.box hl3)).symm)⟩)) ?_
    rintro w9 ⟨hB6,hg6⟩
    have gr9:GrL ((some g_d) :: (FP a1 a5 none)) w w9:=GrL.mod gr8 hg6 (InP.ge (Ge.le (Ge.box (Nat.le_of_eq hl1.symm)) (GrL.sizeL gr3)))
    have k33:=hB5.go hg6 ((Dj.new k18.lt' (Ge.box hl3)).symm)
    refine z8 (zi (za (zb ?_)))
    obtain ⟨h3,H⟩:=H
    exact zg rfl (Yld.add rfl rfl h3) (yp (h:=(zf (zS _ ⟨t57+(1:Int),mput t542 ((t280.getD t57.toNat ([],[])).1) ((t280.getD t57.toNat ([],[])).2),rfl,rfl,H.1,gr9,(((k14.g0 hg4).go hg5 (Dj.new k14.lt' (Ge.box hl3))).go hg6 dj5),(((k15.grown hg4).go hg5 (Dj.new k15.lt' (Ge.box hl3))).go hg6 dj7),(((k16.g0 hg4).go hg5 (k16.new (Ge.box hl3))).go hg6 dj9),(k27.go hg6 dj10),hB6,dj4,dj5,dj6,dj7,dj8,dj9,dj10,hi3⟩ sb H.2))))
   ·replace H:=H.2 (of_decide_eq_false b2)
    exact zD (zj (zj (zm (za (zd (zb (yp (h:=(yp (h:=(yp (h:=(zf (za (zq (qg rfl rfl rfl ⟨gr6,Or.inr ⟨g1,p,c4,t542,.nilIface,Er.ok,c2,d0,d1,d2,d3,rfl,(ErrR.okR (S:=S) (w:=w6)),k18,(Ge.le (Ge.box (Nat.le_of_eq hl1.symm)) (GrL.sizeL gr3)),k17,(Ge.le (Ge.box hl2) (GrL.sizeL gr4)),dj10.symm,k14,k16,hi3,dj4,dj5.symm,dj9,(Dj.new k7.lt' (Ge.box hl2)).symm,dj8,H⟩⟩))))))))))))))))
  ·clear hJ1
   refine zd (zb (yp (h:=(yp (h:=(yp (h:=(yp (h:=(zf (za (zp rfl (fun b3=>?_) (fun b3=>?_)))))))))))))
   ·replace H:=H.1 (of_decide_eq_true b3)
    refine zd (zd (zb (yp (h:=(yp (h:=(yp (h:=(yp (h:=?_))))))))))
    obtain ⟨h4,H⟩:=H
    refine zg rfl (qB qY rfl rfl rfl rfl (Int.le_refl 0) h4.1 h4.2) (WL.call rfl rfl (W_pdisk_Disk_Write (hG.goL gr2 hP) (Nat.le_trans hB (GrL.sizeL gr2)) (apC (InP.toGe (InP.mem (List.Mem.head _)) hP hB) (InA.toGe (InA.trans hi1 (apC (InP.mem (List.Mem.head _)) (InA.mem (fun _ hp=>List.Mem.tail _ (hp)))) (Nat.le_refl _)) hP hB)) hS9 hS11 hS15 hS100 k2 k3 dj1 H) ?_)
    rintro v_err w10 ⟨hgl2,_,err,e6,d_5,d_6,d_7,d_8,rfl,herr,hB7,hM2,hi4,dj11,H⟩
    have gr10:GrL ((some g_d) :: (FP a1 a5 none)) w w10:=GrL.modL gr2 hgl2 (apC (InP.mem (List.Mem.head _)) (InA.trans hi1 (apC (InP.mem (List.Mem.head _)) (InA.mem (fun _ hp=>List.Mem.tail _ (hp)))) (Nat.le_refl _)))
    have k34:=k1.goL hgl2 (apC (Dj.new hB1.lt' hb1).symm (hM1.new hb1))
    refine yp (h:=(zf (za (zd (zb (yp (h:=(zg rfl (qj Tryz.underlying26 herr rfl) (zf (za (zp rfl (fun b4=>?_) (fun b4=>?_))))))))))))
    ·replace H:=H.1 (Zp b4)
     exact zd (zb (yp (h:=(yp (h:=(yp (h:=(zf (za (zq (zh (zh (qg rfl rfl rfl ⟨gr10,Or.inl ⟨v_err,err,e6,d_5,d_6,d_7,d_8,rfl,herr,hB7,hM2,(InA.trans hi4 (apC (InP.mem (List.Mem.head _)) (InA.trans hi1 (apC (InP.mem (List.Mem.head _)) (InA.mem (fun _ hp=>List.Mem.tail _ (hp)))) (Nat.le_refl _))) (GrL.sizeL gr2)),dj11,H⟩⟩)))))))))))))
    ·replace H:=H.2 (kL b4)
     refine zo (za (zd (zb (yp (h:=(yp (h:=(WL.call rfl rfl (W_pdisk_Disk_Sync (hG.goL gr10 hP) (Nat.le_trans hB (GrL.sizeL gr10)) (apC (InP.toGe (InP.mem (List.Mem.head _)) hP hB) (InA.toGe (InA.trans hi4 (apC (InP.mem (List.Mem.head _)) (InA.trans hi1 (apC (InP.mem (List.Mem.head _)) (InA.mem (fun _ hp=>List.Mem.tail _ (hp)))) (Nat.le_refl _))) (GrL.sizeL gr2)) hP hB)) hS11 hS15 hS100 hM2 hB7 dj11 H) ?_))))))))
     rintro v_err2 w11 ⟨hgl3,_,err2,e2,d_9,d_10,d_11,d_12,rfl,herr2,hB8,hM3,hi5,dj12,H⟩
     have gr11:GrL ((some g_d) :: (FP a1 a5 none)) w w11:=GrL.modL gr10 hgl3 (apC (InP.mem (List.Mem.head _)) (InA.trans hi4 (apC (InP.mem (List.Mem.head _)) (InA.trans hi1 (apC (InP.mem (List.Mem.head _)) (InA.mem (fun _ hp=>List.Mem.tail _ (hp)))) (Nat.le_refl _))) (GrL.sizeL gr2)))
     refine yp (h:=(zf (za (zd (zb (yp (h:=(zg rfl (qj Tryz.underlying26 herr2 rfl) (zf (za (zp rfl (fun b5=>?_) (fun b5=>?_))))))))))))
     ·replace H:=H.1 (Zp b5)
      exact zd (zb (yp (h:=(yp (h:=(yp (h:=(zf (za (zq (zh (qg rfl rfl rfl ⟨gr11,Or.inl ⟨v_err2,err2,e2,d_9,d_10,d_11,d_12,rfl,herr2,hB8,hM3,(InA.trans hi5 (apC (InP.mem (List.Mem.head _)) (InA.trans hi4 (apC (InP.mem (List.Mem.head _)) (InA.trans hi1 (apC (InP.mem (List.Mem.head _)) (InA.mem (fun _ hp=>List.Mem.tail _ (hp)))) (Nat.le_refl _))) (GrL.sizeL gr2))) (GrL.sizeL gr10)),dj12,H⟩⟩))))))))))))
     ·replace H:=H.2 (kL b5)
      exact zo (WX.weaken sb (hQ _ _ ⟨d_9,e2,d_10,d_11,d_12,rfl,H,gr11,hB8,(k34.goL hgl3 (apC (Dj.new hB1.lt' hb1).symm (InA.dj hi4 k1.lt' (apC (Dj.new hB1.lt' hb1).symm (hM1.new hb1))))),hM3,dj12,(InA.dj hi5 k34.lt' (apC (Dj.new hB1.lt' hb1).symm (InA.dj hi4 k1.lt' (apC (Dj.new hB1.lt' hb1).symm (hM1.new hb1))))),(InA.trans hi5 (apC (InP.mem (List.Mem.head _)) (InA.trans hi4 (apC (InP.mem (List.Mem.head _)) (InA.trans hi1 (apC (InP.mem (List.Mem.head _)) (InA.mem (fun _ hp=>List.Mem.tail _ (hp)))) (Nat.le_refl _))) (GrL.sizeL gr2))) (GrL.sizeL gr10))⟩))
   ·replace H:=H.2 (of_decide_eq_false b3)
    exact zo (WX.weaken sb (hQ _ _ ⟨d_,e5,d_2,d_3,d_4,rfl,H,gr2,k3,k1,k2,dj1,(hM1.new hb1),(InA.trans hi1 (apC (InP.mem (List.Mem.head _)) (InA.mem (fun _ hp=>List.Mem.tail _ (hp)))) (Nat.le_refl _))⟩))
set_option maxHeartbeats 8000000 in
theorem W_pcache_Cache_Get {w:World} {g_c:Nat} {a4:Nat} {a0:Nat} {a2:List (List UInt8 × PH)} {a7:List (List UInt8 × List UInt8 × Bool × List UInt8 × Bool × List (Int × List UInt8))} {b0:Int} {a9:Int} {a8:Bool} {c_p:List UInt8} {a3:Nat} {c_l:List (List UInt8 × List UInt8)} {k:List UInt8} {K:(List UInt8)->Bool->Prop} (hc_d_files:jc pe86 w a0 a2 a7 none) (hc_d:Bl w a4 81 [.map (some a0),.int .i64 b0,.int .i64 a9,.bool a8]) (hc_l:MapB vA okA vA w a3 c_l) (hc:Bl w g_c 95 [.pointer (some ⟨a4,0,none⟩),vs c_p,.map (some a3)]) (H:ZB a7 b0 a9 a8 c_p c_l k K):Fn Tryz.prog 17 ⟨[.pointer (some ⟨g_c,0,none⟩),.agg ⟨a32 k⟩]⟩ w (fun v w'=>w.grownBy w' none/\∃ (r0:List UInt8),∃ (r1:Bool),v=.tuple #[.agg ⟨a32 r0⟩,.bool r1]/\K r0 r1):=by
 unfold ZB at H
 refine Fn.enter (by kernel_rfl) Tryz.func17 rfl Tryz.ntmps17 rfl ?_
 refine zd (zb (qm (us:=(a32 k)) rfl rfl rfl (fun g1 w1 hB1 hg1 hl1=>?_)))
 have gr1:=hg1
 refine WL.alloc rfl zero45 (fun g2 w2 hB2 hg2 hl2=>?_)
 rw [kc] at hB2
 have gr2:=ja gr1 hg2
 have k1:=hB1.g0 hg2
 refine yp (h:=(zf (za (zd (zO (fun k => !(Nat.beq k 9 || Nat.beq k 10)) (LD [3,4,5] (fun w'=>Bl w' g_c 95 [.pointer (some ⟨a4,0,none⟩),vs c_p,.map (some a3)]/\Bl w' g1 45 (a32 k)/\MapB vA okA vA w' a3 c_l)) mixed (by kernel_rfl) (fun k w' h _=>⟨(ji h (hc.g0 gr2)),(ji h k1),(MapB.eqv h (hc_l.g0 gr2))⟩) (zl rfl rfl (fun w' hw'=>zc qY rfl) (zl rfl rfl (fun w' hw'=>zc qY rfl) (zl rfl rfl (fun w' hw'=>zc qY rfl) (zl rfl rfl (fun w' hw'=>zk qY (hw' rfl).1 rfl rfl rfl) (zl rfl rfl (fun w' hw'=>zQ (vs:=(a32 k)) qY (hw' rfl).2.1 rfl rfl rfl rfl) ?_))))))))))
 obtain ⟨h1,H⟩:=H
 refine zl rfl rfl (fun w' hw'=>Yld.lookOk (z:=(List.replicate 32 0)) keyF_a Tryz.underlying93 (fun _=>by kernel_rfl) (hw' rfl).2.2 rfl rfl h1) (zl rfl rfl (fun w' hw'=>zc qY rfl) (zl rfl rfl (fun w' hw'=>zc qY rfl) (zl rfl rfl (fun w' hw'=>zc qY rfl) (qr rfl je rfl (Eff.alloc zero45) (fun v w' h=>DD.keep (⟨(Bl.g0 (hc.g0 gr2) (jg h.2.2 (Eqv.refl _))),(Bl.g0 k1 (jg h.2.2 (Eqv.refl _))),(MapB.g0 (hc_l.g0 gr2) (jg h.2.2 (Eqv.refl _)))⟩)) ?_))))
 rintro _ w3 ⟨rfl,hB3,hg3⟩
 have gr3:=ja gr2 hg3
 have k2:=k1.g0 hg3
 refine qh rfl (qI (vs:=(a32 ((mget c_l k).getD (List.replicate 32 0)))) qY rfl rfl rfl (jq _) hB3 rfl rfl) (fun w' h=>DD.keep (⟨(Bl.go (hc.g0 gr3) (jg h.2 (Eqv.refl _)) (Dj.new hc.lt' (Ge.le (Ge.box (Nat.le_refl _)) (qZ gr2)))),(Bl.go k2 (jg h.2 (Eqv.refl _)) (Dj.new k1.lt' (Ge.box (Nat.le_refl _)))),(MapB.go (hc_l.g0 gr3) (jg h.2 (Eqv.refl _)) (Dj.new hc_l.lt' (Ge.le (Ge.box (Nat.le_refl _)) (qZ gr2))))⟩)) ?_
 rintro w4 ⟨hB4,hg4⟩
 have k4:=k2.go hg4 (Dj.new k1.lt' (Ge.box (Nat.le_refl _)))
 exact zl rfl rfl (fun w' hw'=>zc qY rfl) (z8 (za (zd (zb (zg rfl (zQ (vs:=(a32 ((mget c_l k).getD (List.replicate 32 0)))) qY hB4 rfl rfl rfl rfl) (yp (h:=(zP (vs:=(a32 ((mget c_l k).getD (List.replicate 32 0)))) qY rfl rfl rfl (jq _) ((hB2.g0 hg3).go hg4 (Dj.new hB2.lt' (Ge.box (Nat.le_refl _)))) rfl rfl (fun w5 hB5 hg5=>yp (h:=(zf (za (zq (qE qY rfl rfl rfl hB5 rfl rfl ⟨(jk (jk gr3 hg4 (Ge.le (Ge.box (Nat.le_refl _)) (qZ gr2))) hg5 (Ge.le (Ge.box hl2) (qZ gr1))),(mget c_l k).getD (List.replicate 32 0),(mget c_l k).isSome,rfl,H⟩))))))))))))))
set_option maxHeartbeats 8000000 in
theorem ZD {S:List Nat} {B:Nat} {w:World} {g_c:Nat} {a4:Nat} {a0:Nat} {a2:List (List UInt8 × PH)} {a7:List (List UInt8 × List UInt8 × Bool × List UInt8 × Bool × List (Int × List UInt8))} {b0:Int} {a9:Int} {a8:Bool} {c_p:List UInt8} {a3:Nat} {c_l:List (List UInt8 × List UInt8)} {k:List UInt8} {out:List UInt8} {K:Er->(List UInt8)->(List (List UInt8 × List UInt8))->(List (List UInt8 × List UInt8 × Bool × List UInt8 × Bool × List (Int × List UInt8)))->Int->Int->Bool->Prop} (hG:GB S B w) (hB:B<=w.heap.size) (hP:AllP (fun p=>Ge p B) ((some g_c) :: (some a3) :: (some a4) :: (FP a0 a2 none))) (hS9:9∈S) (hS11:11∈S) (hS15:15∈S) (hS100:100∈S) (hc_d_files:jc pe86 w a0 a2 a7 none) (hc_d:Bl w a4 81 [.map (some a0),.int .i64 b0,.int .i64 a9,.bool a8]) (hc_l:MapB vA okA vA w a3 c_l) (hc:Bl w g_c 95 [.pointer (some ⟨a4,0,none⟩),vs c_p,.map (some a3)]) (hdj0_1:Dj (some g_c) (some a3)) (hdj0_2:Dj (some g_c) (some a4)) (hdj0_3:AllP (Dj (some g_c)) (FP a0 a2 none)) (hdj1_2:Dj (some a3) (some a4)) (hdj1_3:AllP (Dj (some a3)) (FP a0 a2 none)) (hdj2_3:AllP (Dj (some a4)) (FP a0 a2 none)) (H:jQ a7 b0 a9 a8 c_p c_l k out K):Fn Tryz.prog 9 ⟨[.pointer (some ⟨g_c,0,none⟩),.agg ⟨a32 k⟩,.agg ⟨a32 out⟩]⟩ w (fun v w'=>GrL ((some g_c) :: (some a3) :: (some a4) :: (FP a0 a2 none)) w w'/\∃ (v_r:Value),∃ (r:Er),∃ (e0:List UInt8),∃ (d5:List (List UInt8 × List UInt8)),∃ (a6:List (List UInt8 × PH)),∃ (b9:List (List UInt8 × List UInt8 × Bool × List UInt8 × Bool × List (Int × List UInt8))),∃ (c3:Int),∃ (c1:Int),∃ (c0:Bool),v=v_r/\ErrR S w' v_r r/\Bl w' g_c 95 [.pointer (some ⟨a4,0,none⟩),vs e0,.map (some a3)]/\MapB vA okA vA w' a3 d5/\Bl w' a4 81 [.map (some a0),.int .i64 c3,.int .i64 c1,.bool c0]/\jc pe86 w' a0 a6 b9 none/\AllP (InP ((some g_c) :: (some a3) :: (some a4) :: (FP a0 a2 none)) w.heap.size) (FP a0 a6 none)/\Dj (some g_c) (some a3)/\Dj (some g_c) (some a4)/\AllP (Dj (some g_c)) (FP a0 a6 none)/\Dj (some a3) (some a4)/\AllP (Dj (some a3)) (FP a0 a6 none)/\AllP (Dj (some a4)) (FP a0 a6 none)/\K r e0 d5 b9 c3 c1 c0):=by
 unfold jQ at H
 refine Fn.enter (by kernel_rfl) Tryz.func9 rfl Tryz.ntmps9 rfl ?_
 have hNoAt:AllP (NoAt w) ((some g_c) :: (some a3) :: (some a4) :: (FP a0 a2 none)):=(apC (NoAt.bl hc rfl) (apC (NoAt.map hc_l) (apC (NoAt.bl hc_d rfl) hc_d_files.noats)))
 refine zd (zb (qm (us:=(a32 k)) rfl rfl rfl (fun g1 w1 hB1 hg1 hl1=>?_)))
 have k1:=hc_d_files.g0 hg1
 have k2:=hc_d.g0 hg1
 have k3:=hc_l.g0 hg1
 refine qm (us:=(a32 out)) rfl rfl rfl (fun g2 w2 hB2 hg2 hl2=>?_)
 have gr2:=GrL.add0 ((GrL.of0 (ps:=((some g_c) :: (some a3) :: (some a4) :: (FP a0 a2 none))) hg1)) hg2
 have k5:=k1.g0 hg2
 have k6:=k2.g0 hg2
 have k7:=k3.g0 hg2
 have k8:=(hc.g0 hg1).g0 hg2
 have k9:=hB1.g0 hg2
 refine yp (h:=(zf (za (zd (zd (zO (fun k => !(Nat.beq k 9 || Nat.beq k 10)) (LD [3,4,5] (fun w'=>Bl w' g_c 95 [.pointer (some ⟨a4,0,none⟩),vs c_p,.map (some a3)]/\Bl w' g1 45 (a32 k)/\MapB vA okA vA w' a3 c_l)) mixed (by kernel_rfl) (fun k w' h _=>⟨(ji h k8),(ji h k9),(MapB.eqv h k7)⟩) (zl rfl rfl (fun w' hw'=>zc qY rfl) (zl rfl rfl (fun w' hw'=>zc qY rfl) (zl rfl rfl (fun w' hw'=>zc qY rfl) (zl rfl rfl (fun w' hw'=>zk qY (hw' rfl).1 rfl rfl rfl) (zl rfl rfl (fun w' hw'=>zQ (vs:=(a32 k)) qY (hw' rfl).2.1 rfl rfl rfl rfl) ?_)))))))))))
 obtain ⟨h1,H⟩:=H
 refine zl rfl rfl (fun w' hw'=>Yld.lookOk (z:=(List.replicate 32 0)) keyF_a Tryz.underlying93 (fun _=>by kernel_rfl) (hw' rfl).2.2 rfl rfl h1) (zl rfl rfl (fun w' hw'=>zc qY rfl) (zl rfl rfl (fun w' hw'=>zc qY rfl) (zl rfl rfl (fun w' hw'=>zc qY rfl) (qr rfl je rfl (Eff.alloc zero45) (fun v w' h=>DD.keep (⟨(Bl.g0 k8 (jg h.2.2 (Eqv.refl _))),(Bl.g0 k9 (jg h.2.2 (Eqv.refl _))),(MapB.g0 k7 (jg h.2.2 (Eqv.refl _)))⟩)) ?_))))
 rintro _ w3 ⟨rfl,hB3,hg3⟩
 have k12:=k7.g0 hg3
 have k13:=k8.g0 hg3
 have k14:=k9.g0 hg3
 refine qh rfl (qI (vs:=(a32 ((mget c_l k).getD (List.replicate 32 0)))) qY rfl rfl rfl (jq _) hB3 rfl rfl) (fun w' h=>DD.keep (⟨(Bl.go k13 (jg h.2 (Eqv.refl _)) (Dj.new k8.lt' (Ge.box (Nat.le_refl _)))),(Bl.go k14 (jg h.2 (Eqv.refl _)) (Dj.new k9.lt' (Ge.box (Nat.le_refl _)))),(MapB.go k12 (jg h.2 (Eqv.refl _)) (Dj.new k7.lt' (Ge.box (Nat.le_refl _))))⟩)) ?_
 rintro w4 ⟨hB4,hg4⟩
 have gr4:GrL ((some g_c) :: (some a3) :: (some a4) :: (FP a0 a2 none)) w w4:=GrL.mod (GrL.add0 gr2 hg3) hg4 (InP.ge (Ge.le (Ge.box (Nat.le_refl _)) (GrL.sizeL gr2)))
 have k16:=(k5.g0 hg3).go hg4 (k5.new (Ge.box (Nat.le_refl _)))
 have k17:=(k6.g0 hg3).go hg4 (Dj.new k6.lt' (Ge.box (Nat.le_refl _)))
 have k18:=k12.go hg4 (Dj.new k7.lt' (Ge.box (Nat.le_refl _)))
 have k19:=k13.go hg4 (Dj.new k8.lt' (Ge.box (Nat.le_refl _)))
 have k20:=k14.go hg4 (Dj.new k9.lt' (Ge.box (Nat.le_refl _)))
 have k21:=(hB2.g0 hg3).go hg4 (Dj.new hB2.lt' (Ge.box (Nat.le_refl _)))
 refine zl rfl rfl (fun w' hw'=>zc qY rfl) (z8 (za (zd (zb (yp (h:=(yp (h:=?_))))))))
 obtain ⟨h2,H⟩:=H
 refine zL 4 (fun L' w'=>∃ q1:Bool,L'=[(24,.bool q1),(0,.pointer (some ⟨g_c,0,none⟩)),(4,.pointer (some ⟨g1,0,none⟩)),(5,.pointer (some ⟨g2,0,none⟩))]/\(((mget c_l k).isSome) && (decide (((mget c_l k).getD (List.replicate 32 0))=out)))=q1/\w4=w') ?_ (fun hQ=>?_)
 ·rintro _ _ ⟨q1,rfl,rfl,rfl⟩
  refine zf (za (zp rfl (fun b1=>?_) (fun b1=>?_)))
  ·replace H:=H.1 (b1)
   exact zd (zb (yp (h:=(zf (za (zq (zh (zw rfl rfl ⟨gr4,.nilIface,Er.ok,c_p,c_l,a2,a7,b0,a9,a8,rfl,(ErrR.okR (S:=S) (w:=w4)),k19,k18,k17,k16,(InA.mem (fun _ hp=>List.Mem.tail _ (List.Mem.tail _ (List.Mem.tail _ (hp))))),hdj0_1,hdj0_2,hdj0_3,hdj1_2,hdj1_3,hdj2_3,H⟩))))))))
  ·replace H:=H.2 (b1)
   refine zo (za (zd (zd (zO (fun k => !(Nat.beq k 11 || Nat.beq k 12)) (LD [3,7,8,9] (fun w'=>Bl w' g_c 95 [.pointer (some ⟨a4,0,none⟩),vs c_p,.map (some a3)]/\Bl w' g1 45 (a32 k)/\Bl w' g2 45 (a32 out))) mixed (by kernel_rfl) (fun k w' h _=>⟨(ji h k19),(ji h k20),(ji h k21)⟩) (zl rfl rfl (fun w' hw'=>zc qY rfl) (zl rfl rfl (fun w' hw'=>zc qY rfl) (zl rfl rfl (fun w' hw'=>zc qY rfl) (zl rfl rfl (fun w' hw'=>zk qY (hw' rfl).1 rfl rfl rfl) (zl rfl rfl (fun w' hw'=>zc qY rfl) (zl rfl rfl (fun w' hw'=>zc qY rfl) (zl rfl rfl (fun w' hw'=>zc qY rfl) (zl rfl rfl (fun w' hw'=>zk qY (hw' rfl).1 rfl rfl rfl) (zl rfl rfl (fun w' hw'=>zQ (vs:=(a32 k)) qY (hw' rfl).2.1 rfl rfl rfl rfl) (zl rfl rfl (fun w' hw'=>zQ (vs:=(a32 out)) qY (hw' rfl).2.2 rfl rfl rfl rfl) (zl rfl rfl (fun w' hw'=>z6 (us:=(a32 k++a32 out)) zero97 places97 rfl rfl) (WJ.call rfl (je) rfl rfl (W_cache_Record H) (fun v w' h w2 e=>DD.keep (⟨(Bl.g0 k19 (jg h.1 e)),(Bl.g0 k20 (jg h.1 e)),(Bl.g0 k21 (jg h.1 e))⟩)) ?_))))))))))))))))
   rintro _ w5 ⟨hg5,t36,rfl,H⟩
   have gr5:=GrL.add0 gr4 hg5
   have k24:=k18.g0 hg5
   have k25:=k19.g0 hg5
   refine WJ.call rfl je rfl rfl (W_pdisk_Disk_Append (hG.goL gr5 hP) (Nat.le_trans hB (GrL.sizeL gr5)) (apC (InP.toGe (InP.mem (List.Mem.tail _ (List.Mem.tail _ (List.Mem.head _)))) hP hB) (InA.toGe (InA.mem (fun _ hp=>List.Mem.tail _ (List.Mem.tail _ (List.Mem.tail _ (hp))))) hP hB)) hS9 hS11 hS15 hS100 (k16.g0 hg5) (k17.g0 hg5) hdj2_3 H) (fun v w' h w2 e=>qf (by kernel_rfl)) ?_
   rintro v_err w6 ⟨hgl1,_,err,d4,d6,c6,c7,c8,rfl,herr,hB5,hM1,hi1,dj1,H⟩
   have gr6:GrL ((some g_c) :: (some a3) :: (some a4) :: (FP a0 a2 none)) w w6:=GrL.modL gr5 hgl1 (apC (InP.mem (List.Mem.tail _ (List.Mem.tail _ (List.Mem.head _)))) (InA.mem (fun _ hp=>List.Mem.tail _ (List.Mem.tail _ (List.Mem.tail _ (hp))))))
   have k28:=k24.goL hgl1 (apC hdj1_2 hdj1_3)
   have k29:=k25.goL hgl1 (apC hdj0_2 hdj0_3)
   have k30:=(k20.g0 hg5).goL hgl1 (apC (Dj.new hc_d.lt' (Ge.box hl1)).symm (hc_d_files.new (Ge.box hl1)))
   have k31:=(k21.g0 hg5).goL hgl1 (apC (Dj.new k2.lt' (Ge.box hl2)).symm (k1.new (Ge.box hl2)))
   refine zl rfl rfl (fun w' hw'=>zc qY rfl) (z8 (za (zd (zb (yp (h:=(zg rfl (qj Tryz.underlying26 herr rfl) (zf (za (zp rfl (fun b2=>?_) (fun b2=>?_)))))))))))
   ·replace H:=H.1 (Zp b2)
    exact zd (zb (yp (h:=(yp (h:=(zf (za (zq (zh (zw rfl rfl ⟨gr6,v_err,err,c_p,c_l,d4,d6,c6,c7,c8,rfl,herr,k29,k28,hB5,hM1,(InA.trans hi1 (apC (InP.mem (List.Mem.tail _ (List.Mem.tail _ (List.Mem.head _)))) (InA.mem (fun _ hp=>List.Mem.tail _ (List.Mem.tail _ (List.Mem.tail _ (hp)))))) (GrL.sizeL gr5)),hdj0_1,hdj0_2,(InA.dj hi1 k25.lt' (apC hdj0_2 hdj0_3)),hdj1_2,(InA.dj hi1 k24.lt' (apC hdj1_2 hdj1_3)),dj1,H⟩))))))))))
   ·replace H:=H.2 (kL b2)
    refine zo (za (zd (zO (fun k => !(Nat.beq k 6)) (LD [3,4,5] (fun w'=>Bl w' g_c 95 [.pointer (some ⟨a4,0,none⟩),vs c_p,.map (some a3)]/\Bl w' g1 45 (a32 k)/\Bl w' g2 45 (a32 out))) mixed (by kernel_rfl) (fun k w' h _=>⟨(ji h k29),(ji h k30),(ji h k31)⟩) (zl rfl rfl (fun w' hw'=>zc qY rfl) (zl rfl rfl (fun w' hw'=>zc qY rfl) (zl rfl rfl (fun w' hw'=>zc qY rfl) (zl rfl rfl (fun w' hw'=>zk qY (hw' rfl).1 rfl rfl rfl) (zl rfl rfl (fun w' hw'=>zQ (vs:=(a32 k)) qY (hw' rfl).2.1 rfl rfl rfl rfl) (zl rfl rfl (fun w' hw'=>zQ (vs:=(a32 out)) qY (hw' rfl).2.2 rfl rfl rfl rfl) ?_)))))))))
    obtain ⟨h3,H⟩:=H
    refine qh rfl (Ef0.mapPut keyF_a Tryz.underlying93 k28 h3.2 rfl rfl h3.1 rfl) (fun w' h=>DD.keep (⟨(Bl.go k29 (jg h.2 (Eqv.refl _)) hdj0_1),(Bl.go k30 (jg h.2 (Eqv.refl _)) (Dj.new hc_l.lt' (Ge.box hl1)).symm),(Bl.go k31 (jg h.2 (Eqv.refl _)) (Dj.new k3.lt' (Ge.box hl2)).symm)⟩)) ?_
    rintro w7 ⟨hB6,hg6⟩
    have gr7:GrL ((some g_c) :: (some a3) :: (some a4) :: (FP a0 a2 none)) w w7:=GrL.mod gr6 hg6 (InP.mem (List.Mem.tail _ (List.Mem.head _)))
    have k35:=k30.go hg6 ((Dj.new hc_l.lt' (Ge.box hl1)).symm)
    have k36:=k31.go hg6 ((Dj.new k3.lt' (Ge.box hl2)).symm)
    exact z8 (za (zd (zb (yp (h:=(zf (za (zq (zw rfl rfl ⟨gr7,.nilIface,Er.ok,c_p,mput c_l k out,d4,d6,c6,c7,c8,rfl,(ErrR.okR (S:=S) (w:=w7)),(k29.go hg6 hdj0_1),hB6,(hB5.go hg6 hdj1_2.symm),(hM1.go hg6 (InA.dj hi1 k24.lt' (apC hdj1_2 hdj1_3))),(InA.trans hi1 (apC (InP.mem (List.Mem.tail _ (List.Mem.tail _ (List.Mem.head _)))) (InA.mem (fun _ hp=>List.Mem.tail _ (List.Mem.tail _ (List.Mem.tail _ (hp)))))) (GrL.sizeL gr5)),hdj0_1,hdj0_2,(InA.dj hi1 k25.lt' (apC hdj0_2 hdj0_3)),hdj1_2,(InA.dj hi1 k24.lt' (apC hdj1_2 hdj1_3)),dj1,H⟩)))))))))
 ·clear H
  rcases Bool.eq_false_or_eq_true ((mget c_l k).isSome) with b3 | b3
  ·exact ze rfl rfl (okb b3) rfl (zQ (vs:=(a32 ((mget c_l k).getD (List.replicate 32 0)))) qY hB4 rfl rfl rfl rfl) (ze rfl rfl (okb b3) rfl (zQ (vs:=(a32 out)) qY k21 rfl rfl rfl rfl) (ze rfl rfl (okb b3) rfl (Yld.arreq Tryz.underlying45 Tryz.underlying5 (fun _=>by kernel_rfl) (by kernel_rfl) rfl rfl (h2 b3).1 (h2 b3).2) (zg rfl (zt (okb b3) rfl) (wk (hQ _ _ ⟨decide (((mget c_l k).getD (List.replicate 32 0))=out),rfl,by rw [b3] <;> rfl,rfl⟩)))))
  ·exact gn b3 (h:=(gn b3 (h:=(gn b3 (h:=(zg rfl (zr (okb b3) rfl) (wk (hQ _ _ ⟨false,rfl,by rw [b3] <;> rfl,rfl⟩))))))))
set_option maxHeartbeats 8000000 in
theorem W_pcache_Cache_Sync {S:List Nat} {B:Nat} {w:World} {g_c:Nat} {a4:Nat} {a0:Nat} {a2:List (List UInt8 × PH)} {a7:List (List UInt8 × List UInt8 × Bool × List UInt8 × Bool × List (Int × List UInt8))} {b0:Int} {a9:Int} {a8:Bool} {c_p:List UInt8} {a3:Nat} {c_l:List (List UInt8 × List UInt8)} {K:Er->(List UInt8)->(List (List UInt8 × List UInt8))->(List (List UInt8 × List UInt8 × Bool × List UInt8 × Bool × List (Int × List UInt8)))->Int->Int->Bool->Prop} (hG:GB S B w) (hB:B<=w.heap.size) (hP:AllP (fun p=>Ge p B) ((some g_c) :: (some a3) :: (some a4) :: (FP a0 a2 none))) (hS11:11∈S) (hS15:15∈S) (hS100:100∈S) (hc_d_files:jc pe86 w a0 a2 a7 none) (hc_d:Bl w a4 81 [.map (some a0),.int .i64 b0,.int .i64 a9,.bool a8]) (hc_l:MapB vA okA vA w a3 c_l) (hc:Bl w g_c 95 [.pointer (some ⟨a4,0,none⟩),vs c_p,.map (some a3)]) (hdj0_1:Dj (some g_c) (some a3)) (hdj0_2:Dj (some g_c) (some a4)) (hdj0_3:AllP (Dj (some g_c)) (FP a0 a2 none)) (hdj1_2:Dj (some a3) (some a4)) (hdj1_3:AllP (Dj (some a3)) (FP a0 a2 none)) (hdj2_3:AllP (Dj (some a4)) (FP a0 a2 none)) (H:Zw a7 b0 a9 a8 c_p c_l K):Fn Tryz.prog 15 ⟨[.pointer (some ⟨g_c,0,none⟩)]⟩ w (fun v w'=>GrL ((some g_c) :: (some a3) :: (some a4) :: (FP a0 a2 none)) w w'/\∃ (v_r:Value),∃ (r:Er),∃ (e0:List UInt8),∃ (d5:List (List UInt8 × List UInt8)),∃ (a6:List (List UInt8 × PH)),∃ (b9:List (List UInt8 × List UInt8 × Bool × List UInt8 × Bool × List (Int × List UInt8))),∃ (c3:Int),∃ (c1:Int),∃ (c0:Bool),v=v_r/\ErrR S w' v_r r/\Bl w' g_c 95 [.pointer (some ⟨a4,0,none⟩),vs e0,.map (some a3)]/\MapB vA okA vA w' a3 d5/\Bl w' a4 81 [.map (some a0),.int .i64 c3,.int .i64 c1,.bool c0]/\jc pe86 w' a0 a6 b9 none/\AllP (InP ((some g_c) :: (some a3) :: (some a4) :: (FP a0 a2 none)) w.heap.size) (FP a0 a6 none)/\Dj (some g_c) (some a3)/\Dj (some g_c) (some a4)/\AllP (Dj (some g_c)) (FP a0 a6 none)/\Dj (some a3) (some a4)/\AllP (Dj (some a3)) (FP a0 a6 none)/\AllP (Dj (some a4)) (FP a0 a6 none)/\K r e0 d5 b9 c3 c1 c0):=by
 unfold Zw at H
 refine Fn.enter (by kernel_rfl) Tryz.func15 rfl Tryz.ntmps15 rfl ?_
 have hNoAt:AllP (NoAt w) ((some g_c) :: (some a3) :: (some a4) :: (FP a0 a2 none)):=(apC (NoAt.bl hc rfl) (apC (NoAt.map hc_l) (apC (NoAt.bl hc_d rfl) hc_d_files.noats)))
 refine zd (zb (yp (h:=(zf (za (zd (zO (fun k => !(Nat.beq k 8)) (LD [3,7] (fun w'=>Bl w' g_c 95 [.pointer (some ⟨a4,0,none⟩),vs c_p,.map (some a3)])) mixed (by kernel_rfl) (fun k w' h _=>(ji h hc)) (zl rfl rfl (fun w' hw'=>zc qY rfl) (zl rfl rfl (fun w' hw'=>zc qY rfl) (zl rfl rfl (fun w' hw'=>zc qY rfl) (zl rfl rfl (fun w' hw'=>zk qY (hw' rfl) rfl rfl rfl) (zl rfl rfl (fun w' hw'=>zc qY rfl) (zl rfl rfl (fun w' hw'=>zc qY rfl) (zl rfl rfl (fun w' hw'=>zc qY rfl) (zl rfl rfl (fun w' hw'=>zk qY (hw' rfl) rfl rfl rfl) (WJ.call rfl je rfl rfl (W_pdisk_Disk_Sync hG (Nat.le_trans hB (Nat.le_refl _)) (apC (InP.toGe (InP.mem (List.Mem.tail _ (List.Mem.tail _ (List.Mem.head _)))) hP hB) (InA.toGe (InA.mem (fun _ hp=>List.Mem.tail _ (List.Mem.tail _ (List.Mem.tail _ (hp))))) hP hB)) hS11 hS15 hS100 hc_d_files hc_d hdj2_3 H) (fun v w' h w2 e=>qf (by kernel_rfl)) ?_))))))))))))))))
 rintro v_t2 w1 ⟨hgl1,_,t2,d4,d6,c6,c7,c8,rfl,ht2,hB1,hM1,hi1,dj1,H⟩
 have gr1:GrL ((some g_c) :: (some a3) :: (some a4) :: (FP a0 a2 none)) w w1:=GrL.modL (GrL.refl _) hgl1 (apC (InP.mem (List.Mem.tail _ (List.Mem.tail _ (List.Mem.head _)))) (InA.mem (fun _ hp=>List.Mem.tail _ (List.Mem.tail _ (List.Mem.tail _ (hp))))))
 exact zl rfl rfl (fun w' hw'=>zc qY rfl) (z8 (za (zq (zw rfl rfl ⟨gr1,v_t2,t2,c_p,c_l,d4,d6,c6,c7,c8,rfl,ht2,(hc.goL hgl1 (apC hdj0_2 hdj0_3)),(hc_l.goL hgl1 (apC hdj1_2 hdj1_3)),hB1,hM1,(InA.trans hi1 (apC (InP.mem (List.Mem.tail _ (List.Mem.tail _ (List.Mem.head _)))) (InA.mem (fun _ hp=>List.Mem.tail _ (List.Mem.tail _ (List.Mem.tail _ (hp)))))) (Nat.le_refl _)),hdj0_1,hdj0_2,(InA.dj hi1 hc.lt' (apC hdj0_2 hdj0_3)),hdj1_2,(InA.dj hi1 hc_l.lt' (apC hdj1_2 hdj1_3)),dj1,H⟩))))
set_option maxHeartbeats 8000000 in
theorem W_pcache_Cache_Len {w:World} {g_c:Nat} {a4:Nat} {a0:Nat} {a2:List (List UInt8 × PH)} {a7:List (List UInt8 × List UInt8 × Bool × List UInt8 × Bool × List (Int × List UInt8))} {b0:Int} {a9:Int} {a8:Bool} {c_p:List UInt8} {a3:Nat} {c_l:List (List UInt8 × List UInt8)} {K:Int->Prop} (hc_d_files:jc pe86 w a0 a2 a7 none) (hc_d:Bl w a4 81 [.map (some a0),.int .i64 b0,.int .i64 a9,.bool a8]) (hc_l:MapB vA okA vA w a3 c_l) (hc:Bl w g_c 95 [.pointer (some ⟨a4,0,none⟩),vs c_p,.map (some a3)]) (H:kY a7 b0 a9 a8 c_p c_l K):Fn Tryz.prog 27 ⟨[.pointer (some ⟨g_c,0,none⟩)]⟩ w (fun v w'=>w=w'/\∃ (r:Int),v=.int .i64 r/\K r):=by
 unfold kY at H
 refine Fn.enter (by kernel_rfl) Tryz.func27 rfl Tryz.ntmps27 rfl ?_
 exact zd (zb (yp (h:=(zf (za (zd (zb (yp (h:=(yp (h:=(yp (h:=(zg rfl (zk qY hc rfl rfl rfl) (zg rfl (Yld.maplen Tryz.underlying93 hc_l rfl) (yp (h:=(zf (za (zq (zw rfl rfl ⟨rfl,(c_l.length:Int),rfl,H⟩)))))))))))))))))))))
end
 
section
open Go Go.RowKit
attribute [local irreducible] WL WC WX WQ WK WJ Yld Eff Ef0 Fn
def ki (s:List UInt8) (K:(List UInt8)->Bool->Prop):Prop :=
 ((¬ ((s.length:Int)=(64:Int))->K (List.replicate 32 0:List UInt8) false) /\
 ((s.length:Int)=(64:Int)->Lp3 (fun (i:Int) (t20:List UInt8) (out0:List UInt8) kont1=>((i<(64:Int)->(0<=i/\i<s.length) /\
 ∃ J1:Int->Prop,(((((decide ((48:Int)<=((s.getD i.toNat 0).toNat:Int))) && (decide (((s.getD i.toNat 0).toNat:Int)<=(57:Int))))=true->(In .u8 (((s.getD i.toNat 0).toNat:Int) - (48:Int))) /\
 J1 (((s.getD i.toNat 0).toNat:Int) - (48:Int))) /\
 (((decide ((48:Int)<=((s.getD i.toNat 0).toNat:Int))) && (decide (((s.getD i.toNat 0).toNat:Int)<=(57:Int))))=false->((((decide ((97:Int)<=((s.getD i.toNat 0).toNat:Int))) && (decide (((s.getD i.toNat 0).toNat:Int)<=(102:Int))))=true->(In .u8 (((s.getD i.toNat 0).toNat:Int) - (97:Int))) /\
 (In .u8 ((((s.getD i.toNat 0).toNat:Int) - (97:Int))+(10:Int))) /\
 J1 ((((s.getD i.toNat 0).toNat:Int) - (97:Int))+(10:Int))) /\
 (((decide ((97:Int)<=((s.getD i.toNat 0).toNat:Int))) && (decide (((s.getD i.toNat 0).toNat:Int)<=(102:Int))))=false->K (List.replicate 32 0:List UInt8) false))))) /\
 (∀ d:Int,J1 d->(0<=i/\0<(2:Int)/\In .i64 i) /\
 (0<=i/\0<(2:Int)/\In .i64 i) /\
 (0<=i / (2:Int)/\i / (2:Int)<32) /\
 (0<=i / (2:Int)/\i / (2:Int)<32) /\
 (0<=bits .or .u8 (shlV .u8 ((out0.getD ((i / (2:Int)).toNat) 0).toNat:Int) 4) d/\bits .or .u8 (shlV .u8 ((out0.getD ((i / (2:Int)).toNat) 0).toNat:Int) 4) d<=255) /\
 (out0.length=32) /\
 (In .i64 (i+(1:Int))) /\
 kont1 (i+(1:Int)) t20 (out0.set ((i / (2:Int)).toNat) (UInt8.ofNat (bits .or .u8 (shlV .u8 ((out0.getD ((i / (2:Int)).toNat) 0).toNat:Int) 4) d).toNat)))) /\
 (¬ (i<(64:Int))->K out0 true))) (0:Int) (List.replicate 32 0:List UInt8) (List.replicate 32 0:List UInt8)))
def ka (e_Key:List UInt8) (e_Out:List UInt8) (K:(List UInt8)->Prop):Prop :=
 jF e_Key (fun (k:List UInt8) =>
 jF e_Out (fun (o:List UInt8) =>
 (k.length+([32]:List UInt8).length<=9223372036854775807) /\
 ((k++([32]:List UInt8)).length+o.length<=9223372036854775807) /\
 (((k++([32]:List UInt8))++o).length+([32]:List UInt8).length<=9223372036854775807) /\
 Zl ([k,o]:List (List UInt8)) (fun (t19:List UInt8) =>
 jF t19 (fun (t20:List UInt8) =>
 ((((k++([32]:List UInt8))++o)++([32]:List UInt8)).length+t20.length<=9223372036854775807) /\
 (((((k++([32]:List UInt8))++o)++([32]:List UInt8))++t20).length+([10]:List UInt8).length<=9223372036854775807) /\
 K (((((k++([32]:List UInt8))++o)++([32]:List UInt8))++t20)++([10]:List UInt8))))))
def jZ (text:List UInt8) (K:(List (List UInt8 × List UInt8))->Int->Prop):Prop :=
 ∃ J1:(List (List UInt8 × List UInt8))->Int->Prop,(Lp2 (fun (l2:List (List UInt8 × List UInt8)) (at_2:Int) kont1=>(In .i64 ((text.length:Int) - at_2)) /\
 (((195:Int)<=((text.length:Int) - at_2)->(In .i64 (at_2+(64:Int))) /\
 (0<=at_2/\at_2<=at_2+(64:Int)/\at_2+(64:Int)<=text.length) /\
 ki ((text.drop at_2.toNat).take ((at_2+(64:Int)).toNat - at_2.toNat)) (fun (t220:List UInt8) (t221:Bool) =>
 (In .i64 (at_2+(65:Int))) /\
 (In .i64 (at_2+(129:Int))) /\
 (0<=at_2+(65:Int)/\at_2+(65:Int)<=at_2+(129:Int)/\at_2+(129:Int)<=text.length) /\
 ki ((text.drop (at_2+(65:Int)).toNat).take ((at_2+(129:Int)).toNat - (at_2+(65:Int)).toNat)) (fun (t320:List UInt8) (t321:Bool) =>
 ∃ J2:Bool->Prop,(((((!t221) || (!t321))=true->J2 true) /\
 (((!t221) || (!t321))=false->ka t220 t320 (fun (t46:List UInt8) =>
 (In .i64 (at_2+(195:Int))) /\
 (0<=at_2/\at_2<=at_2+(195:Int)/\at_2+(195:Int)<=text.length) /\
 J2 (!decide (t46=((text.drop at_2.toNat).take ((at_2+(195:Int)).toNat - at_2.toNat)))))))) /\
 (∀ q2:Bool,J2 q2->((q2=true->J1 l2 at_2) /\
 (q2=false->((l2.length+(([(t220,t320)]:List (List UInt8 × List UInt8))).length)*64<=140737488355328) /\
 (In .i64 (at_2+(195:Int))) /\
 kont1 (l2++([(t220,t320)]:List (List UInt8 × List UInt8))) (at_2+(195:Int)))))))) /\
 (¬ ((195:Int)<=((text.length:Int) - at_2))->J1 l2 at_2))) [] (0:Int)) /\
 (∀ l:List (List UInt8 × List UInt8),∀ at_:Int,J1 l at_->K l at_)
def jA (n:Int) (K:(List UInt8)->Prop):Prop :=
 jz n (12:Int) (fun (t4:Int) =>
 jz n (12:Int) (fun (t6:Int) =>
 (In .i64 (t6+(1:Int))) /\
 (0<=t4/\t4<=t6+(1:Int)/\t6+(1:Int)<=([97,98,99,100,101,102,103,104,105,106,107,108]:List UInt8).length) /\
 (([110]:List UInt8).length+((([97,98,99,100,101,102,103,104,105,106,107,108]:List UInt8).drop t4.toNat).take ((t6+(1:Int)).toNat - t4.toNat)).length<=9223372036854775807) /\
 K (([110]:List UInt8)++((([97,98,99,100,101,102,103,104,105,106,107,108]:List UInt8).drop t4.toNat).take ((t6+(1:Int)).toNat - t4.toNat)))))
def kP (K:Bool->Prop):Prop :=
 M_disk_New [] (fun (_:Er) =>
 K false) (fun (a1:List (List UInt8 × List UInt8 × Bool × List UInt8 × Bool × List (Int × List UInt8))) (a7:Int) (a3:Int) (a2:Bool) (t1112:Er) =>
 ((¬ (t1112=Er.ok)->K false) /\
 (t1112=Er.ok->km a1 a7 a3 a2 ([106]:List UInt8) (fun (_:Er) (_:List (List UInt8 × List UInt8 × Bool × List UInt8 × Bool × List (Int × List UInt8))) (_:Int) (_:Int) (_:Bool) =>
 K false) (fun (d6:List UInt8) (d5:List (List UInt8 × List UInt8)) (t2212:Er) (c7:List (List UInt8 × List UInt8 × Bool × List UInt8 × Bool × List (Int × List UInt8))) (c8:Int) (c9:Int) (d0:Bool) =>
 ((¬ (t2212=Er.ok)->K false) /\
 (t2212=Er.ok->jT ([97]:List UInt8) (fun (t32:List UInt8) =>
 jT ([98]:List UInt8) (fun (t33:List UInt8) =>
 jQ c7 c8 c9 d0 d6 d5 t32 t33 (fun (a:Er) (t220_:List UInt8) (d2:List (List UInt8 × List UInt8)) (d1:List (List UInt8 × List UInt8 × Bool × List UInt8 × Bool × List (Int × List UInt8))) (a9:Int) (b0:Int) (b8:Bool) =>
 jT ([97]:List UInt8) (fun (t36:List UInt8) =>
 jT ([98]:List UInt8) (fun (t37:List UInt8) =>
 jQ d1 a9 b0 b8 t220_ d2 t36 t37 (fun (b:Er) (d3:List UInt8) (d4:List (List UInt8 × List UInt8)) (b9:List (List UInt8 × List UInt8 × Bool × List UInt8 × Bool × List (Int × List UInt8))) (c0:Int) (c1:Int) (c2:Bool) =>
 jU b9 c0 c1 c2 ([106]:List UInt8) (fun (t410:List UInt8) (t411:Bool) (t412:Er) (c3:List (List UInt8 × List UInt8 × Bool × List UInt8 × Bool × List (Int × List UInt8))) (c4:Int) (c5:Int) (c6:Bool) =>
 ∃ J1:Bool->Prop,((((((((decide (a=Er.ok)) && (decide (b=Er.ok))) && t411) && (decide (t412=Er.ok))) && (decide ((t410.length:Int)=(195:Int))))=true->kY c3 c4 c5 c6 d3 d4 (fun (t65:Int) =>
 J1 (decide (t65=(1:Int))))) /\
 ((((((decide (a=Er.ok)) && (decide (b=Er.ok))) && t411) && (decide (t412=Er.ok))) && (decide ((t410.length:Int)=(195:Int))))=false->J1 false))) /\
 (∀ q9:Bool,J1 q9->K q9))))))))))))))
def Zb (a:List (List UInt8 × List UInt8)) (b:List (List UInt8 × List UInt8)) (K:Bool->Prop):Prop :=
 (a.length<=maxLen ->
 (b.length<=maxLen ->
 ((¬ ((a.length:Int)=(b.length:Int))->K false) /\
 ((a.length:Int)=(b.length:Int)->Lp1 (fun (i:Int) kont1=>((i<(a.length:Int)->(0<=i/\i<(a.length:Nat)) /\
 (0<=i/\i<(b.length:Nat)) /\
 jl ((a.getD i.toNat ([],[])).1) ((b.getD i.toNat ([],[])).1) (fun (t27:Bool) =>
 ∃ J1:Bool->Prop,((((!t27)=true->J1 true) /\
 ((!t27)=false->(0<=i/\i<(a.length:Nat)) /\
 (0<=i/\i<(b.length:Nat)) /\
 jl ((a.getD i.toNat ([],[])).2) ((b.getD i.toNat ([],[])).2) (fun (t40:Bool) =>
 J1 (!t40))))) /\
 (∀ q1:Bool,J1 q1->((q1=true->K false) /\
 (q1=false->(In .i64 (i+(1:Int))) /\
 kont1 (i+(1:Int))))))) /\
 (¬ (i<(a.length:Int))->K true))) (0:Int)))))
set_option maxHeartbeats 8000000 in
theorem W_smithyref17_unhex {w:World} {s:List UInt8} {K:(List UInt8)->Bool->Prop} (H:ki s K):Fn Tryz.prog 73 ⟨[vs s]⟩ w (fun v w'=>w.grownBy w' none/\∃ (r0:List UInt8),∃ (r1:Bool),v=.tuple #[.agg ⟨a32 r0⟩,.bool r1]/\K r0 r1):=by
 unfold ki at H
 refine Fn.enter (by kernel_rfl) Tryz.func73 rfl Tryz.ntmps73 rfl ?_
 refine zd (zb (WL.alloc rfl zero44 (fun g1 w1 hB1 hg1 hl1=>?_)))
 rw [kc] at hB1
 have gr1:=hg1
 refine yp (h:=(zf (za (zd (zb (WL.alloc rfl zero44 (fun g2 w2 hB2 hg2 hl2=>?_)))))))
 rw [kc] at hB2
 have gr2:=ja gr1 hg2
 have k1:=hB1.g0 hg2
 refine zf (za (zd (zd (zb (yp (h:=(yp (h:=(yp (h:=(zf (za (zp rfl (fun b1=>?_) (fun b1=>?_))))))))))))))
 ·replace H:=H.1 (Zp b1)
  exact zd (zb (zg rfl (zQ (vs:=(a32 (List.replicate 32 0:List UInt8))) qY hB2 rfl rfl rfl rfl) (zP (vs:=(a32 (List.replicate 32 0:List UInt8))) qY rfl rfl rfl (jq _) k1 rfl rfl (fun w3 hB3 hg3=>yp (h:=(zf (za (zq (zh (qE qY rfl rfl rfl hB3 rfl rfl ⟨(jk gr2 hg3 (Ge.le (Ge.box hl1) (Nat.le_refl _))),(List.replicate 32 0:List UInt8),false,rfl,H⟩))))))))))
 ·replace H:=H.2 (kL b1)
  refine zo (za (zd (zd (zb (yp (h:=(zf (za (WC.block ?_)))))))))
  obtain ⟨I1,mu1,a6,HR1⟩:=H
  refine zW (fun n' L' w'=>∃ (i:Int),∃ (t20:List UInt8),∃ (out0:List UInt8),n'=mu1 i t20 out0/\L'=[(0,vs s),(2,.pointer (some ⟨g1,0,none⟩)),(4,.pointer (some ⟨g2,0,none⟩)),(5,.int .i64 i)]/\I1 i t20 out0/\w.grownBy w' none/\Bl w' g1 44 (a32 t20)/\Bl w' g2 44 (a32 out0)) _ _ ⟨(0:Int),(List.replicate 32 0:List UInt8),(List.replicate 32 0:List UInt8),rfl,rfl,a6,gr2,k1,hB2⟩ sb ?_
  clear a6
  rintro _ _ w4 ⟨i,t20,out0,rfl,rfl,hI1,gr4,k2,k3⟩
  have H:=HR1 i t20 out0 hI1
  refine zd (zd (zb (yp (h:=(yp (h:=(zf (za (zp rfl (fun b2=>?_) (fun b2=>?_))))))))))
  ·replace H:=H.1 (of_decide_eq_true b2)
   refine zo (za (zd (WC.block (zd (zb (yp (h:=(yp (h:=?_)))))))))
   obtain ⟨h1,H⟩:=H
   refine zg rfl (qF qY rfl rfl rfl h1.1 h1.2) (yp (h:=(zf (za (zd (zb (yp (h:=(zf (za (zd ?_)))))))))))
   obtain ⟨J1,H,hJ1⟩:=H
   refine qd (fun L' w'=>∃ (d:Int),L'=[(0,vs s),(2,.pointer (some ⟨g1,0,none⟩)),(4,.pointer (some ⟨g2,0,none⟩)),(5,.int .i64 i),(7,.int .u8 d)]/\J1 d/\w4=w') ?_ (fun hQ=>?_)
   ·clear H
    rintro _ _ ⟨d,rfl,H,rfl⟩
    replace H:=hJ1 d H
    refine za (zb (yp (h:=?_)))
    obtain ⟨h2,H⟩:=H
    refine zg rfl (zH rfl rfl h2.1 h2.2.1 h2.2.2) (yp (h:=?_))
    obtain ⟨h3,H⟩:=H
    refine zg rfl (zH rfl rfl h3.1 h3.2.1 h3.2.2) ?_
    obtain ⟨h4,H⟩:=H
    refine zg rfl (qi qY rfl rfl rfl h4.1 h4.2) (zg rfl (zk qY k3 rfl rfl (a32_getO _ _ (lt32 h4))) (zg rfl (zG rfl rfl (by omega)) (yp (h:=(yp (h:=?_))))))
    obtain ⟨h5,H⟩:=H
    refine zg rfl (qi qY rfl rfl rfl h5.1 h5.2) ?_
    obtain ⟨h6,H⟩:=H
    obtain ⟨h7,H⟩:=H
    refine zR (u:=vb (UInt8.ofNat (bits .or .u8 (shlV .u8 ((out0.getD ((i / (2:Int)).toNat) 0).toNat:Int) 4) d).toNat)) one5 rfl (byte_eq h6) rfl k3 (a32_lt (lt32 h5)) (fun w5 hB4 hg4=>?_)
    have hB5:Bl w5 g2 44 (a32 (out0.set ((i / (2:Int)).toNat) (UInt8.ofNat (bits .or .u8 (shlV .u8 ((out0.getD ((i / (2:Int)).toNat) 0).toNat:Int) 4) d).toNat))):=a32_setO h7 ▸ hB4
    refine zf (zi (za (zb (yp (h:=?_)))))
    obtain ⟨h8,H⟩:=H
    exact zg rfl (Yld.add rfl rfl h8) (yp (h:=(zf (zS _ ⟨i+(1:Int),t20,out0.set ((i / (2:Int)).toNat) (UInt8.ofNat (bits .or .u8 (shlV .u8 ((out0.getD ((i / (2:Int)).toNat) 0).toNat:Int) 4) d).toNat),rfl,rfl,H.1,(jk gr4 hg4 (Ge.le (Ge.box hl2) (qZ gr1))),(k2.go hg4 (Dj.new hB1.lt' (Ge.box hl2))),hB5⟩ sb H.2))))
   ·clear hJ1
    refine WC.block (zd (zb (yp (h:=(yp (h:=(yp (h:=(zL 3 (fun L' w'=>∃ q1:Bool,L'=[(26,.bool q1),(0,vs s),(2,.pointer (some ⟨g1,0,none⟩)),(4,.pointer (some ⟨g2,0,none⟩)),(5,.int .i64 i),(6,.int .u8 ((s.getD i.toNat 0).toNat:Int))]/\((decide ((48:Int)<=((s.getD i.toNat 0).toNat:Int))) && (decide (((s.getD i.toNat 0).toNat:Int)<=(57:Int))))=q1/\w4=w') ?_ (fun hQ=>?_))))))))))
    ·rintro _ _ ⟨q1,rfl,rfl,rfl⟩
     refine yp (h:=(zf (za (zp rfl (fun b3=>?_) (fun b3=>?_)))))
     ·replace H:=H.1 (b3)
      refine zb (yp (h:=?_))
      obtain ⟨h9,H⟩:=H
      exact zg rfl (Yld.sub rfl rfl h9) (yp (h:=(zf (zi (WX.weaken sb (hQ _ _ ⟨((s.getD i.toNat 0).toNat:Int) - (48:Int),rfl,H,rfl⟩))))))
     ·replace H:=H.2 (b3)
      refine zd (zb (yp (h:=(yp (h:=(yp (h:=(zL 3 (fun L' w'=>∃ q2:Bool,L'=[(35,.bool q2),(0,vs s),(2,.pointer (some ⟨g1,0,none⟩)),(4,.pointer (some ⟨g2,0,none⟩)),(5,.int .i64 i),(6,.int .u8 ((s.getD i.toNat 0).toNat:Int))]/\((decide ((97:Int)<=((s.getD i.toNat 0).toNat:Int))) && (decide (((s.getD i.toNat 0).toNat:Int)<=(102:Int))))=q2/\w4=w') ?_ (fun hQ=>?_)))))))))
      ·rintro _ _ ⟨q2,rfl,rfl,rfl⟩
       refine yp (h:=(zf (za (zp rfl (fun b4=>?_) (fun b4=>?_)))))
       ·replace H:=H.1 (b4)
        refine zb (yp (h:=?_))
        obtain ⟨h10,H⟩:=H
        refine zg rfl (Yld.sub rfl rfl h10) ?_
        obtain ⟨h11,H⟩:=H
        exact zg rfl (Yld.add rfl rfl h11) (yp (h:=(zf (zi (WX.weaken sb (hQ _ _ ⟨(((s.getD i.toNat 0).toNat:Int) - (97:Int))+(10:Int),rfl,H,rfl⟩))))))
       ·replace H:=H.2 (b4)
        exact zd (zb (zg rfl (Yld.zarr qY rfl zero44) (zP (vs:=(a32 (List.replicate 32 0:List UInt8))) qY rfl rfl rfl (jq _) k2 rfl rfl (fun w6 hB6 hg5=>yp (h:=(zf (za (zq (zn (zh (zn (zh (zh (zn (zh (qE qY rfl rfl rfl hB6 rfl rfl ⟨(jk gr4 hg5 (Ge.le (Ge.box hl1) (Nat.le_refl _))),(List.replicate 32 0:List UInt8),false,rfl,H⟩))))))))))))))))
      ·clear H
       rcases Bool.eq_false_or_eq_true (decide ((97:Int)<=((s.getD i.toNat 0).toNat:Int))) with b5 | b5
       ·exact gp b5 (h:=(gp b5 (h:=(zg rfl (zt (okb b5) rfl) (wk (hQ _ _ ⟨decide (((s.getD i.toNat 0).toNat:Int)<=(102:Int)),rfl,by rw [b5] <;> rfl,rfl⟩))))))
       ·exact gn b5 (h:=(gn b5 (h:=(zg rfl (zr (okb b5) rfl) (wk (hQ _ _ ⟨false,rfl,by rw [b5] <;> rfl,rfl⟩))))))
    ·clear H
     rcases Bool.eq_false_or_eq_true (decide ((48:Int)<=((s.getD i.toNat 0).toNat:Int))) with b6 | b6
     ·exact gp b6 (h:=(gp b6 (h:=(zg rfl (zt (okb b6) rfl) (wk (hQ _ _ ⟨decide (((s.getD i.toNat 0).toNat:Int)<=(57:Int)),rfl,by rw [b6] <;> rfl,rfl⟩))))))
     ·exact gn b6 (h:=(gn b6 (h:=(zg rfl (zr (okb b6) rfl) (wk (hQ _ _ ⟨false,rfl,by rw [b6] <;> rfl,rfl⟩))))))
  ·replace H:=H.2 (of_decide_eq_false b2)
   exact zD (zj (zj (zm (za (zd (zb (zg rfl (zQ (vs:=(a32 out0)) qY k3 rfl rfl rfl rfl) (zP (vs:=(a32 out0)) qY rfl rfl rfl (jq _) k2 rfl rfl (fun w7 hB7 hg6=>yp (h:=(zf (za (zq (qE qY rfl rfl rfl hB7 rfl rfl ⟨(jk gr4 hg6 (Ge.le (Ge.box hl1) (Nat.le_refl _))),out0,true,rfl,H⟩))))))))))))))
set_option maxHeartbeats 8000000 in
theorem W_smithyref17_Record {w:World} {e_Key:List UInt8} {e_Out:List UInt8} {K:(List UInt8)->Prop} (H:ka e_Key e_Out K):Fn Tryz.prog 51 ⟨[.agg ⟨(a32 e_Key++a32 e_Out)⟩]⟩ w (fun v w'=>w.grownBy w' none/\∃ (r:List UInt8),v=vs r/\K r):=by
 unfold ka at H
 refine Fn.enter (by kernel_rfl) Tryz.func51 rfl Tryz.ntmps51 rfl ?_
 refine zd (zb (qm (us:=(a32 e_Key++a32 e_Out)) rfl rfl rfl (fun g1 w1 hB1 hg1 hl1=>yp (h:=(zf (za (zd (zb (yp (h:=(zg rfl (zQ (vs:=(a32 e_Key)) qY hB1 rfl rfl rfl rfl) (WL.call rfl rfl (j7 H) ?_))))))))))))
 rintro _ w2 ⟨hg2,k,rfl,H⟩
 refine yp (h:=(zf (za (zd (zb (yp (h:=(zg rfl (zQ (vs:=(a32 e_Out)) qY (hB1.g0 hg2) rfl rfl rfl rfl) (WL.call rfl rfl (j7 H) ?_)))))))))
 rintro _ w3 ⟨hg3,o,rfl,H⟩
 have gr3:=ja (ja hg1 hg2) hg3
 refine yp (h:=(zf (za (zd (zb (yp (h:=?_)))))))
 obtain ⟨h1,H⟩:=H
 refine zg rfl (qn rfl rfl h1) (yp (h:=?_))
 obtain ⟨h2,H⟩:=H
 refine zg rfl (qn rfl rfl h2) ?_
 obtain ⟨h3,H⟩:=H
 refine zg rfl (qn rfl rfl h3) (yp (h:=(yp (h:=(qD qY rfl rfl rfl (jd rfl (jd rfl kg)) rfl (by omega) (fun g2 w4 hB2 hg4 hl2=>?_))))))
 have hO1:Own vs w4 w.heap.size 9 (some ⟨g2,0,none⟩) 2 ([k,o]:List (List UInt8)):=Own.ofBl hB2 (Nat.le_trans (qZ gr3) hl2) (by simp [maxLen]) rfl
 refine WL.call rfl rfl (W_smithyref1_Many hO1.rd rfl H) ?_
 rintro _ w5 ⟨hg5,t19,rfl,H⟩
 refine WL.call rfl rfl (j7 H) ?_
 rintro _ w6 ⟨hg6,t20,rfl,H⟩
 obtain ⟨h4,H⟩:=H
 refine zg rfl (qn rfl rfl h4) ?_
 obtain ⟨h5,H⟩:=H
 exact zg rfl (qn rfl rfl h5) (yp (h:=(zf (za (zq (zw rfl rfl ⟨(ja (ja (ja gr3 hg4) hg5) hg6),((((k++([32]:List UInt8))++o)++([32]:List UInt8))++t20)++([10]:List UInt8),rfl,H⟩))))))
set_option maxHeartbeats 8000000 in
theorem W_smithyref17_ReadJournal {w:World} {text:List UInt8} {K:(List (List UInt8 × List UInt8))->Int->Prop} (H:jZ text K):Fn Tryz.prog 45 ⟨[vs text]⟩ w (fun v w'=>w.grownBy w' none/\∃ (r0:List (List UInt8 × List UInt8)),∃ (e4:Option Addr),∃ (e5:Nat),∃ (r1:Int),v=.tuple #[.slice e4 r0.length e5,.int .i64 r1]/\OwnK 64 jv w' w.heap.size 104 e4 e5 r0/\K r0 r1):=by
 unfold jZ at H
 refine Fn.enter (by kernel_rfl) Tryz.func45 rfl Tryz.ntmps45 rfl ?_
 refine zd (zb (yp (h:=(yp (h:=(zf (za (zd (zb (yp (h:=(zf (za (zd (zb (yp (h:=(zf (za (zd ?_))))))))))))))))))))
 obtain ⟨J1,H,hJ1⟩:=H
 refine qd (fun L' w'=>∃ (l:List (List UInt8 × List UInt8)),∃ (A_l:Option Addr),∃ (c_l:Nat),∃ (n_l:Nat),∃ (at_:Int),L'=[(4,.slice A_l n_l c_l),(5,.int .i64 at_)]/\J1 l at_/\n_l=l.length/\w.grownBy w' none/\OwnK 64 jv w' w.heap.size 104 A_l c_l l) ?_ (fun hQ=>?_)
 ·clear H
  rintro _ w1 ⟨l,A_l,c_l,n_l,at_,rfl,H,rfl,gr1,k1⟩
  replace H:=hJ1 l at_ H
  exact za (zd (zb (yp (h:=(yp (h:=(yp (h:=(yp (h:=(zf (za (zq (qg rfl rfl rfl ⟨gr1,l,A_l,c_l,at_,rfl,k1,H⟩))))))))))))))
 ·clear hJ1
  refine WC.block ?_
  obtain ⟨I1,mu1,a6,HR1⟩:=H
  refine zW (fun n' L' w'=>∃ (l2:List (List UInt8 × List UInt8)),∃ (a4:Option Addr),∃ (a5:Nat),∃ (d9:Nat),∃ (at_2:Int),n'=mu1 l2 at_2/\L'=[(0,vs text),(4,.slice a4 d9 a5),(5,.int .i64 at_2)]/\I1 l2 at_2/\d9=l2.length/\w.grownBy w' none/\OwnK 64 jv w' w.heap.size 104 a4 a5 l2) _ _ ⟨[],none,0,0,(0:Int),rfl,rfl,a6,rfl,(jr _ _),(OwnK.nil Zi w w.heap.size 104)⟩ sb ?_
  clear a6
  rintro _ _ w2 ⟨l2,a4,a5,d9,at_2,rfl,rfl,hI1,rfl,gr2,k2⟩
  have H:=HR1 l2 at_2 hI1
  refine zd (zd (zb (yp (h:=(yp (h:=(yp (h:=?_))))))))
  obtain ⟨h1,H⟩:=H
  refine zg rfl (Yld.sub rfl rfl h1) (yp (h:=(zf (za (zp rfl (fun b1=>?_) (fun b1=>?_))))))
  ·replace H:=H.1 (of_decide_eq_true b1)
   refine zo (za (WC.block (zd (zb (yp (h:=(yp (h:=(yp (h:=?_))))))))))
   obtain ⟨h2,H⟩:=H
   refine zg rfl (Yld.add rfl rfl h2) ?_
   obtain ⟨h3,H⟩:=H
   refine zg rfl (qB qY rfl rfl rfl rfl h3.1 h3.2.1 h3.2.2) (WL.call rfl rfl (W_smithyref17_unhex H) ?_)
   rintro _ w3 ⟨hg1,t220,t221,rfl,H⟩
   have gr3:=ja gr2 hg1
   have k3:=k2.grown hg1
   refine yp (h:=(yp (h:=(yp (h:=(WL.alloc rfl zero44 (fun g1 w4 hB1 hg2 hl1=>?_)))))))
   rw [kc] at hB1
   refine zP (vs:=(a32 t220)) qY rfl rfl rfl (jq _) hB1 rfl rfl (fun w5 hB2 hg3=>yp (h:=(zf (za (zd (zb (yp (h:=(yp (h:=?_))))))))))
   obtain ⟨h4,H⟩:=H
   refine zg rfl (Yld.add rfl rfl h4) (yp (h:=?_))
   obtain ⟨h5,H⟩:=H
   refine zg rfl (Yld.add rfl rfl h5) ?_
   obtain ⟨h6,H⟩:=H
   refine zg rfl (qB qY rfl rfl rfl rfl h6.1 h6.2.1 h6.2.2) (WL.call rfl rfl (W_smithyref17_unhex H) ?_)
   rintro _ w6 ⟨hg4,t320,t321,rfl,H⟩
   have gr6:=ja (jk (ja gr3 hg2) hg3 (Ge.le (Ge.box hl1) (qZ gr3))) hg4
   have k6:=((k3.grown hg2).go hg3 (Dj.new k3.lt' (Ge.box hl1))).grown hg4
   have k7:=hB2.g0 hg4
   refine yp (h:=(yp (h:=(yp (h:=(WL.alloc rfl zero44 (fun g2 w7 hB3 hg5 hl2=>?_)))))))
   rw [kc] at hB3
   refine zP (vs:=(a32 t320)) qY rfl rfl rfl (jq _) hB3 rfl rfl (fun w8 hB4 hg6=>?_)
   have gr8:=jk (ja gr6 hg5) hg6 (Ge.le (Ge.box hl2) (qZ gr6))
   have k10:=(k6.grown hg5).go hg6 (Dj.new k6.lt' (Ge.box hl2))
   refine yp (h:=(zf (za (zd (zb (zg rfl (zQ (vs:=(a32 t220)) qY ((k7.g0 hg5).go hg6 (Dj.new k7.lt' (Ge.box hl2))) rfl rfl rfl rfl) (zg rfl (zQ (vs:=(a32 t320)) qY hB4 rfl rfl rfl rfl) (zg rfl (z6 (us:=(a32 t220++a32 t320)) zero104 places104 rfl rfl) (WL.alloc rfl zero104 (fun g3 w9 hB5 hg7 hl3=>zP (vs:=(a32 t220++a32 t320)) qY rfl rfl rfl (all1a (jq _) (jq _)) hB5 rfl rfl (fun w10 hB6 hg8=>?_)))))))))))
   have gr10:=jk (ja gr8 hg7) hg8 (Ge.le (Ge.box hl3) (qZ gr8))
   have k13:=(k10.grown hg7).go hg8 (Dj.new k10.lt' (Ge.box hl3))
   refine zf (za (zd (zd (zO (fun k => !(Nat.beq k 8)) (LD [7] (fun w'=>Bl w' g3 104 (a32 t220++a32 t320))) mixed (by kernel_rfl) (fun k w' h _=>(ji h hB6)) (zl rfl rfl (fun w' hw'=>zc qY rfl) (zl rfl rfl (fun w' hw'=>zc qY rfl) (zl rfl rfl (fun w' hw'=>zc qY rfl) (qH 3 (fun L' w'=>∃ q1:Bool,L'=[(43,.bool q1),(0,vs text),(4,.slice a4 l2.length a5),(5,.int .i64 at_2),(10,.pointer (some ⟨g3,0,none⟩))]/\((!t221) || (!t321))=q1/\w10=w') ?_ (fun hQ=>?_)))))))))
   ·rintro _ _ ⟨q1,rfl,rfl,rfl⟩
    refine zl rfl rfl (fun w' hw'=>zc qY rfl) ?_
    obtain ⟨J2,H,hJ2⟩:=H
    refine qH 9 (fun L' w'=>∃ q2:Bool,L'=[(53,.bool q2),(0,vs text),(4,.slice a4 l2.length a5),(5,.int .i64 at_2),(10,.pointer (some ⟨g3,0,none⟩))]/\J2 q2/\w.grownBy w' none/\OwnK 64 jv w' w.heap.size 104 a4 a5 l2/\Bl w' g3 104 (a32 t220++a32 t320)) ?_ (fun hQ=>?_)
    ·clear H
     rintro _ w11 ⟨q2,rfl,H,gr11,k14,k15⟩
     replace H:=hJ2 q2 H
     refine z8 (za (zp rfl (fun b2=>?_) (fun b2=>?_)))
     ·replace H:=H.1 (b2)
      exact zD (zj (zy rfl (zj (zm (WX.weaken sb (hQ _ _ ⟨l2,a4,a5,l2.length,at_2,rfl,H,rfl,gr11,k14⟩))))))
     ·replace H:=H.2 (b2)
      refine zo (za (zd (zb (yp (h:=(zg rfl (zQ (vs:=(a32 t220++a32 t320)) qY k15 rfl rfl rfl rfl) (qO (f:=jv) ([(t220,t320)]:List (List UInt8 × List UInt8)) Zi rfl ow64 rfl rfl rfl (fun g4 w12 hB7 hg9 hl4=>?_))))))))
      have hO1:OwnK 64 jv w12 w.heap.size 104 (some ⟨g4,0,none⟩) 1 ([(t220,t320)]:List (List UInt8 × List UInt8)):=OwnK.ofBl Zi hB7 (Nat.le_trans (qZ gr11) hl4) (by simp [maxLen]) rfl
      have gr12:=ja gr11 hg9
      have k16:=k14.grown hg9
      obtain ⟨h7,H⟩:=H
      refine qL rfl ow64 k16 rfl rfl hO1.rd rfl rfl h7 (kF h7) (qZ gr12) (fun e8 e9 w13 hO2 hg10 hk1=>yp (h:=(zf (za (zb (yp (h:=?_)))))))
      obtain ⟨h8,H⟩:=H
      exact zg rfl (Yld.add rfl rfl h8) (yp (h:=(zf (zi (zS _ ⟨l2++([(t220,t320)]:List (List UInt8 × List UInt8)),e8,e9,(l2++([(t220,t320)]:List (List UInt8 × List UInt8))).length,at_2+(195:Int),rfl,rfl,H.1,rfl,(jk gr12 hg10 k16.ge'),hO2⟩ sb H.2)))))
    ·clear hJ2
     rcases Bool.eq_false_or_eq_true ((!t221) || (!t321)) with b3 | b3
     ·replace H:=H.1 b3
      exact zX rfl rfl (okb b3) rfl (zX rfl rfl (okb b3) rfl (zX rfl rfl (okb b3) rfl (zX rfl rfl (okb b3) rfl (zX rfl rfl (okb b3) rfl (zX rfl rfl (okb b3) rfl (zX rfl rfl (okb b3) rfl (zX rfl rfl (okb b3) rfl (zl rfl rfl (fun w' hw'=>zt (okb b3) rfl) (WJ.weaken sb (hQ _ _ ⟨true,rfl,H,gr10,k13,hB6⟩))))))))))
     ·replace H:=H.2 b3
      refine zY rfl (jb rfl rfl (okb b3)) rfl (fun w' hw'=>zQ (vs:=(a32 t220++a32 t320)) qY (hw' rfl) rfl rfl rfl rfl) (WJ.call rfl (jb rfl rfl (okb b3)) rfl rfl (W_smithyref17_Record H) (fun v w' h w2 e=>DD.keep (Bl.g0 hB6 (jg h.1 e))) ?_)
      rintro _ w14 ⟨hg11,t46,rfl,H⟩
      refine zY rfl (jb rfl rfl (okb b3)) rfl (fun w' hw'=>zc qY rfl) (zY rfl (jb rfl rfl (okb b3)) rfl (fun w' hw'=>zc qY rfl) (zY rfl (jb rfl rfl (okb b3)) rfl (fun w' hw'=>zc qY rfl) ?_))
      obtain ⟨h9,H⟩:=H
      refine zY rfl (jb rfl rfl (okb b3)) rfl (fun w' hw'=>Yld.add rfl rfl h9) ?_
      obtain ⟨h10,H⟩:=H
      exact zY rfl (jb rfl rfl (okb b3)) rfl (fun w' hw'=>qB qY rfl rfl rfl rfl h10.1 h10.2.1 h10.2.2) (zY rfl (jb rfl rfl (okb b3)) rfl (fun w' hw'=>zc qY rfl) (zl rfl rfl (fun w' hw'=>zr (okb b3) rfl) (WJ.weaken sb (hQ _ _ ⟨!decide (t46=((text.drop at_2.toNat).take ((at_2+(195:Int)).toNat - at_2.toNat))),rfl,H,(ja gr10 hg11),(k13.grown hg11),(hB6.g0 hg11)⟩))))
   ·clear H
    rcases Bool.eq_false_or_eq_true (!t221) with b4 | b4
    ·exact zX rfl rfl (okb b4) rfl (zX rfl rfl (okb b4) rfl (zl rfl rfl (fun w' hw'=>zt (okb b4) rfl) (WJ.weaken sb (hQ _ _ ⟨true,rfl,by rw [b4] <;> rfl,rfl⟩))))
    ·exact zY rfl (jb rfl rfl (okb b4)) rfl (fun w' hw'=>zc qY rfl) (zY rfl (jb rfl rfl (okb b4)) rfl (fun w' hw'=>zc qY rfl) (zl rfl rfl (fun w' hw'=>zr (okb b4) rfl) (WJ.weaken sb (hQ _ _ ⟨!t321,rfl,by rw [b4] <;> rfl,rfl⟩))))
  ·replace H:=H.2 (of_decide_eq_false b1)
   exact zD (zj (zj (zm (WX.weaken sb (hQ _ _ ⟨l2,a4,a5,l2.length,at_2,rfl,H,rfl,gr2,k2⟩)))))
set_option maxHeartbeats 8000000 in
theorem j6 {w:World} {n:Int} {K:(List UInt8)->Prop} (H:jA n K):Fn Tryz.prog 11 ⟨[.int .i64 n]⟩ w (fun v w'=>w=w'/\∃ (r:List UInt8),v=vs r/\K r):=by
 unfold jA at H
 refine Fn.enter (by kernel_rfl) Tryz.func11 rfl Tryz.ntmps11 rfl ?_
 refine zd (zb (yp (h:=(zf (za (zd (zb (yp (h:=(WL.call rfl rfl (kK H) ?_))))))))))
 rintro _ _ ⟨rfl,t4,rfl,H⟩
 refine yp (h:=(WL.call rfl rfl (kK H) ?_))
 rintro _ _ ⟨rfl,t6,rfl,H⟩
 obtain ⟨h1,H⟩:=H
 refine zg rfl (Yld.add rfl rfl h1) ?_
 obtain ⟨h2,H⟩:=H
 refine zg rfl (qB qY rfl rfl rfl rfl h2.1 h2.2.1 h2.2.2) ?_
 obtain ⟨h3,H⟩:=H
 exact zg rfl (qn rfl rfl h3) (yp (h:=(zf (za (zq (zw rfl rfl ⟨rfl,([110]:List UInt8)++((([97,98,99,100,101,102,103,104,105,106,107,108]:List UInt8).drop t4.toNat).take ((t6+(1:Int)).toNat - t4.toNat)),rfl,H⟩))))))
set_option maxHeartbeats 8000000 in
theorem W_smithylaw25_first {S:List Nat} {w:World} {K:Bool->Prop} (hG:GOK S w) (hS9:9∈S) (hS11:11∈S) (hS12:12∈S) (hS15:15∈S) (hS100:100∈S) (H:kP  K):Fn Tryz.prog 4 ⟨[]⟩ w (fun v w'=>w.grownBy w' none/\∃ (r:Bool),v=.bool r/\K r):=by
 unfold kP at H
 refine Fn.enter (by kernel_rfl) Tryz.func4 rfl Tryz.ntmps4 rfl ?_
 refine zd (zb (yp (h:=(zf (za (zd (zb (WL.call rfl rfl (W_disk_New hG hS9 hS11 hS100 (OwnK.nil kU w w.heap.size 30).rd rfl H) ?_))))))))
 rintro v_ w1 ⟨hg_,hc_ | hc_⟩
 ·obtain ⟨v_t111,t111,rfl,ht111,H⟩:=hc_
  have hg1:=hg_
  refine yp (h:=(yp (h:=(yp (h:=(yp (h:=(yp (h:=(zf (za (zd (zd (zb (yp (h:=(zg rfl (qe Tryz.underlying24 rfl rfl) (yp (h:=(zL 3 (fun L' w'=>∃ q1:Bool,L'=[(19,.bool q1),(1,.pointer none)]/\true=q1/\w1=w') ?_ (fun hQ=>?_)))))))))))))))))))))
  ·rintro _ _ ⟨q1,rfl,rfl,rfl⟩
   exact zf (za (zp rfl (fun _=>zd (zb (yp (h:=(zf (za (zq (zh (zw rfl rfl ⟨hg1,false,rfl,H⟩))))))))) (fun h=>by cases h)))
  ·clear H
   exact zV rfl rfl (rfl) rfl (zV rfl rfl (rfl) rfl (zg rfl (zt (rfl) rfl) (wk (hQ _ _ ⟨true,rfl,rfl,rfl⟩))))
 ·obtain ⟨a8,d8,d7,a1,a7,a3,a2,v_t1112,t1112,rfl,ht1112,ht110_files,hge1,ht110,hge2,dj1,H⟩:=hc_
  have hg2:=hg_
  have gr2:=hg2
  refine yp (h:=(yp (h:=(yp (h:=(yp (h:=(yp (h:=(zf (za (zd (zd (zb (yp (h:=(zg rfl (qe Tryz.underlying24 rfl rfl) (yp (h:=(zL 3 (fun L' w'=>∃ q2:Bool,L'=[(19,.bool q2),(1,.pointer (some ⟨a8,0,none⟩))]/\(!decide (t1112=Er.ok))=q2/\w1=w') ?_ (fun hQ=>?_)))))))))))))))))))))
  ·rintro _ _ ⟨q2,rfl,rfl,rfl⟩
   refine zf (za (zp rfl (fun b1=>?_) (fun b1=>?_)))
   ·replace H:=H.1 (Zp b1)
    exact zd (zb (yp (h:=(zf (za (zq (zh (zw rfl rfl ⟨gr2,false,rfl,H⟩))))))))
   ·replace H:=H.2 (kL b1)
    refine zo (za (zd (zb (yp (h:=(WL.call rfl rfl (W_cache_Open (GB.grown hG gr2) (qZ gr2) (apC (Ge.le hge2 (Nat.le_refl _)) (fun p hp=>Ge.le (hge1 p hp) (Nat.le_refl _))) hS9 hS11 hS12 hS15 hS100 ht110_files ht110 dj1 H) ?_))))))
    rintro v_ w4 ⟨hg_,hc_ | hc_⟩
    ·obtain ⟨v_t221,t221,e7,t110_,f2,f3,f4,rfl,ht221,hB1,hM1,hi1,dj2,H⟩:=hc_
     have hgl1:=hg_
     refine yp (h:=(yp (h:=(yp (h:=(yp (h:=(yp (h:=(zf (za (zd (zd (zb (yp (h:=(zg rfl (qe Tryz.underlying35 rfl rfl) (yp (h:=(zL 3 (fun L' w'=>∃ q3:Bool,L'=[(30,.bool q3),(1,.pointer (some ⟨a8,0,none⟩)),(3,.pointer none)]/\true=q3/\w4=w') ?_ (fun hQ=>?_)))))))))))))))))))))
     ·rintro _ _ ⟨q3,rfl,rfl,rfl⟩
      exact zf (za (zp rfl (fun _=>zd (zb (yp (h:=(zf (za (zq (zh (zw rfl rfl ⟨(jC gr2 hgl1 (apC (Ge.le hge2 (Nat.le_refl _)) (fun p hp=>Ge.le (hge1 p hp) (Nat.le_refl _)))),false,rfl,H⟩))))))))) (fun h=>by cases h)))
     ·clear H
      exact zV rfl rfl (rfl) rfl (zV rfl rfl (rfl) rfl (zg rfl (zt (rfl) rfl) (wk (hQ _ _ ⟨true,rfl,rfl,rfl⟩))))
    ·obtain ⟨a0,d6,e6,d5,v_t2212,t2212,e0,c7,c8,c9,d0,rfl,ht2212,ht220_l,hge3,ht220,hge4,dj3,hB2,hM2,hi2,dj4,dj5,dj6,dj7,dj8,H⟩:=hc_
     have hgl2:=hg_
     have gr4:=jC gr2 hgl2 (apC (Ge.le hge2 (Nat.le_refl _)) (fun p hp=>Ge.le (hge1 p hp) (Nat.le_refl _)))
     refine yp (h:=(yp (h:=(yp (h:=(yp (h:=(yp (h:=(zf (za (zd (zd (zb (yp (h:=(zg rfl (qe Tryz.underlying35 rfl rfl) (yp (h:=(zL 3 (fun L' w'=>∃ q4:Bool,L'=[(30,.bool q4),(1,.pointer (some ⟨a8,0,none⟩)),(3,.pointer (some ⟨a0,0,none⟩))]/\(!decide (t2212=Er.ok))=q4/\w4=w') ?_ (fun hQ=>?_)))))))))))))))))))))
     ·rintro _ _ ⟨q4,rfl,rfl,rfl⟩
      refine zf (za (zp rfl (fun b2=>?_) (fun b2=>?_)))
      ·replace H:=H.1 (Zp b2)
       exact zd (zb (yp (h:=(zf (za (zq (zh (zw rfl rfl ⟨gr4,false,rfl,H⟩))))))))
      ·replace H:=H.2 (kL b2)
       refine zo (za (zd (zb (yp (h:=(WL.call rfl rfl (Zf H) ?_))))))
       rintro _ w7 ⟨hg3,t32,rfl,H⟩
       refine WL.call rfl rfl (Zf H) ?_
       rintro _ w8 ⟨hg4,t33,rfl,H⟩
       have gr6:=ja (ja gr4 hg3) hg4
       refine WL.call rfl rfl (ZD (GB.grown hG gr6) (qZ gr6) (apC (Ge.le hge4 (qZ gr2)) (apC (Ge.le hge3 (qZ gr2)) (apC (Ge.le hge2 (Nat.le_refl _)) (InA.toGe hi2 (apC (Ge.le hge2 (Nat.le_refl _)) (fun p hp=>Ge.le (hge1 p hp) (Nat.le_refl _))) (qZ gr2))))) hS9 hS11 hS15 hS100 ((hM2.g0 hg3).g0 hg4) ((hB2.g0 hg3).g0 hg4) ((ht220_l.g0 hg3).g0 hg4) ((ht220.g0 hg3).g0 hg4) dj3.symm dj7 dj8 dj5 dj6 dj4 H) ?_
       rintro v_a w9 ⟨hgl3,_,a,t220_,d2,e1,d1,a9,b0,b8,rfl,ha,hB3,hM3,hB4,hM4,hi3,dj9,dj10,dj11,dj12,dj13,dj14,H⟩
       refine yp (h:=(zf (za (zd (zb (yp (h:=(WL.call rfl rfl (Zf H) ?_))))))))
       rintro _ w10 ⟨hg5,t36,rfl,H⟩
       refine WL.call rfl rfl (Zf H) ?_
       rintro _ w11 ⟨hg6,t37,rfl,H⟩
       have gr9:=ja (ja (jC gr6 hgl3 (apC (Ge.le hge4 (qZ gr2)) (apC (Ge.le hge3 (qZ gr2)) (apC (Ge.le hge2 (Nat.le_refl _)) (InA.toGe hi2 (apC (Ge.le hge2 (Nat.le_refl _)) (fun p hp=>Ge.le (hge1 p hp) (Nat.le_refl _))) (qZ gr2)))))) hg5) hg6
       have k14:=(hM4.g0 hg5).g0 hg6
       have k15:=(hB4.g0 hg5).g0 hg6
       have k16:=(hM3.g0 hg5).g0 hg6
       have k17:=(hB3.g0 hg5).g0 hg6
       refine WL.call rfl rfl (ZD (GB.grown hG gr9) (qZ gr9) (apC (Ge.le hge4 (qZ gr2)) (apC (Ge.le hge3 (qZ gr2)) (apC (Ge.le hge2 (Nat.le_refl _)) (InA.toGe hi3 (apC (Ge.le hge4 (qZ gr2)) (apC (Ge.le hge3 (qZ gr2)) (apC (Ge.le hge2 (Nat.le_refl _)) (InA.toGe hi2 (apC (Ge.le hge2 (Nat.le_refl _)) (fun p hp=>Ge.le (hge1 p hp) (Nat.le_refl _))) (qZ gr2))))) (qZ gr6))))) hS9 hS11 hS15 hS100 k14 k15 k16 k17 dj9 dj10 dj11 dj12 dj13 dj14 H) ?_
       rintro v_b w12 ⟨hgl4,_,b,d3,d4,e2,b9,c0,c1,c2,rfl,hb,hB5,hM5,hB6,hM6,hi4,dj15,dj16,dj17,dj18,dj19,dj20,H⟩
       have gr10:=jC gr9 hgl4 (apC (Ge.le hge4 (qZ gr2)) (apC (Ge.le hge3 (qZ gr2)) (apC (Ge.le hge2 (Nat.le_refl _)) (InA.toGe hi3 (apC (Ge.le hge4 (qZ gr2)) (apC (Ge.le hge3 (qZ gr2)) (apC (Ge.le hge2 (Nat.le_refl _)) (InA.toGe hi2 (apC (Ge.le hge2 (Nat.le_refl _)) (fun p hp=>Ge.le (hge1 p hp) (Nat.le_refl _))) (qZ gr2))))) (qZ gr6)))))
       refine yp (h:=(zf (za (zd (zb (yp (h:=(WL.call rfl rfl (W_pdisk_Disk_Read (GB.grown hG gr10) (qZ gr10) (apC (Ge.le hge2 (Nat.le_refl _)) (InA.toGe hi4 (apC (Ge.le hge4 (qZ gr2)) (apC (Ge.le hge3 (qZ gr2)) (apC (Ge.le hge2 (Nat.le_refl _)) (InA.toGe hi3 (apC (Ge.le hge4 (qZ gr2)) (apC (Ge.le hge3 (qZ gr2)) (apC (Ge.le hge2 (Nat.le_refl _)) (InA.toGe hi2 (apC (Ge.le hge2 (Nat.le_refl _)) (fun p hp=>Ge.le (hge1 p hp) (Nat.le_refl _))) (qZ gr2))))) (qZ gr6))))) (qZ gr9))) hS15 hM6 hB6 dj20 H) ?_))))))))
       rintro _ w13 ⟨hgl5,t410,t411,v_t412,t412,e3,c3,c4,c5,c6,rfl,ht412,hB7,hM7,hi5,dj21,H⟩
       refine yp (h:=(yp (h:=(yp (h:=(yp (h:=(yp (h:=(yp (h:=(yp (h:=(zf (za (zd (zb (yp (h:=(zg rfl (qq Tryz.underlying26 (ErrR.goB (ErrR.goB ((ha.grown hg5).grown hg6) (GB.grown hG gr9) hgl4 (apC (Ge.le hge4 (qZ gr2)) (apC (Ge.le hge3 (qZ gr2)) (apC (Ge.le hge2 (Nat.le_refl _)) (InA.toGe hi3 (apC (Ge.le hge4 (qZ gr2)) (apC (Ge.le hge3 (qZ gr2)) (apC (Ge.le hge2 (Nat.le_refl _)) (InA.toGe hi2 (apC (Ge.le hge2 (Nat.le_refl _)) (fun p hp=>Ge.le (hge1 p hp) (Nat.le_refl _))) (qZ gr2))))) (qZ gr6))))) (apC (NoAt.bl k17 rfl) (apC (NoAt.map k16) (apC (NoAt.bl k15 rfl) k14.noats)))) (GB.grown hG gr10) hgl5 (apC (Ge.le hge2 (Nat.le_refl _)) (InA.toGe hi4 (apC (Ge.le hge4 (qZ gr2)) (apC (Ge.le hge3 (qZ gr2)) (apC (Ge.le hge2 (Nat.le_refl _)) (InA.toGe hi3 (apC (Ge.le hge4 (qZ gr2)) (apC (Ge.le hge3 (qZ gr2)) (apC (Ge.le hge2 (Nat.le_refl _)) (InA.toGe hi2 (apC (Ge.le hge2 (Nat.le_refl _)) (fun p hp=>Ge.le (hge1 p hp) (Nat.le_refl _))) (qZ gr2))))) (qZ gr6))))) (qZ gr9))) (apC (NoAt.bl hB6 rfl) hM6.noats)) rfl) (yp (h:=(zL 3 (fun L' w'=>∃ q5:Bool,L'=[(50,.bool q5),(3,.pointer (some ⟨a0,0,none⟩)),(7,vs t410),(8,.bool t411),(9,v_t412)]/\((decide (a=Er.ok)) && (decide (b=Er.ok)))=q5/\w13=w') ?_ (fun hQ=>?_))))))))))))))))))))))))
       ·rintro _ _ ⟨q5,rfl,rfl,rfl⟩
        refine yp (h:=(zL 2 (fun L' w'=>∃ q6:Bool,L'=[(53,.bool q6),(3,.pointer (some ⟨a0,0,none⟩)),(7,vs t410),(9,v_t412)]/\(((decide (a=Er.ok)) && (decide (b=Er.ok))) && t411)=q6/\w13=w') ?_ (fun hQ=>?_)))
        ·rintro _ _ ⟨q6,rfl,rfl,rfl⟩
         refine yp (h:=(zL 3 (fun L' w'=>∃ q7:Bool,L'=[(57,.bool q7),(3,.pointer (some ⟨a0,0,none⟩)),(7,vs t410)]/\((((decide (a=Er.ok)) && (decide (b=Er.ok))) && t411) && (decide (t412=Er.ok)))=q7/\w13=w') ?_ (fun hQ=>?_)))
         ·rintro _ _ ⟨q7,rfl,rfl,rfl⟩
          refine yp (h:=(zL 4 (fun L' w'=>∃ q8:Bool,L'=[(62,.bool q8),(3,.pointer (some ⟨a0,0,none⟩))]/\(((((decide (a=Er.ok)) && (decide (b=Er.ok))) && t411) && (decide (t412=Er.ok))) && (decide ((t410.length:Int)=(195:Int))))=q8/\w13=w') ?_ (fun hQ=>?_)))
          ·rintro _ _ ⟨q8,rfl,rfl,rfl⟩
           refine yp (h:=?_)
           obtain ⟨J1,H,hJ1⟩:=H
           refine zL 4 (fun L' w'=>∃ q9:Bool,L'=[(67,.bool q9)]/\J1 q9/\w13=w') ?_ (fun hQ=>?_)
           ·clear H
            rintro _ _ ⟨q9,rfl,H,rfl⟩
            replace H:=hJ1 q9 H
            exact yp (h:=(zf (za (zq (zw rfl rfl ⟨(jC gr10 hgl5 (apC (Ge.le hge2 (Nat.le_refl _)) (InA.toGe hi4 (apC (Ge.le hge4 (qZ gr2)) (apC (Ge.le hge3 (qZ gr2)) (apC (Ge.le hge2 (Nat.le_refl _)) (InA.toGe hi3 (apC (Ge.le hge4 (qZ gr2)) (apC (Ge.le hge3 (qZ gr2)) (apC (Ge.le hge2 (Nat.le_refl _)) (InA.toGe hi2 (apC (Ge.le hge2 (Nat.le_refl _)) (fun p hp=>Ge.le (hge1 p hp) (Nat.le_refl _))) (qZ gr2))))) (qZ gr6))))) (qZ gr9)))),q9,rfl,H⟩)))))
           ·clear hJ1
            rcases Bool.eq_false_or_eq_true (((((decide (a=Er.ok)) && (decide (b=Er.ok))) && t411) && (decide (t412=Er.ok))) && (decide ((t410.length:Int)=(195:Int)))) with b3 | b3
            ·replace H:=H.1 b3
             refine gp b3 (h:=(qN (jb rfl rfl (okb b3)) rfl rfl (W_pcache_Cache_Len hM7 hB7 (hM5.goL hgl5 (apC dj18 dj19)) (hB5.goL hgl5 (apC dj16 dj17)) H) ?_))
             rintro _ _ ⟨rfl,t65,rfl,H⟩
             exact gp b3 (h:=(zg rfl (zt (okb b3) rfl) (wk (hQ _ _ ⟨decide (t65=(1:Int)),rfl,H,rfl⟩))))
            ·replace H:=H.2 b3
             exact gn b3 (h:=(gn b3 (h:=(gn b3 (h:=(zg rfl (zr (okb b3) rfl) (wk (hQ _ _ ⟨false,rfl,H,rfl⟩))))))))
          ·clear H
           rcases Bool.eq_false_or_eq_true ((((decide (a=Er.ok)) && (decide (b=Er.ok))) && t411) && (decide (t412=Er.ok))) with b4 | b4
           ·exact gp b4 (h:=(gp b4 (h:=(gp b4 (h:=(zg rfl (zt (okb b4) rfl) (wk (hQ _ _ ⟨decide ((t410.length:Int)=(195:Int)),rfl,by rw [b4] <;> rfl,rfl⟩))))))))
           ·exact gn b4 (h:=(gn b4 (h:=(gn b4 (h:=(zg rfl (zr (okb b4) rfl) (wk (hQ _ _ ⟨false,rfl,by rw [b4] <;> rfl,rfl⟩))))))))
         ·clear H
          rcases Bool.eq_false_or_eq_true (((decide (a=Er.ok)) && (decide (b=Er.ok))) && t411) with b5 | b5
          ·exact gp b5 (h:=(ze rfl rfl (okb b5) rfl (qq Tryz.underlying26 ht412 rfl) (zg rfl (zt (okb b5) rfl) (wk (hQ _ _ ⟨decide (t412=Er.ok),rfl,by rw [b5] <;> rfl,rfl⟩)))))
          ·exact gn b5 (h:=(gn b5 (h:=(zg rfl (zr (okb b5) rfl) (wk (hQ _ _ ⟨false,rfl,by rw [b5] <;> rfl,rfl⟩))))))
        ·clear H
         rcases Bool.eq_false_or_eq_true ((decide (a=Er.ok)) && (decide (b=Er.ok))) with b6 | b6
         ·exact gp b6 (h:=(zg rfl (zt (okb b6) rfl) (wk (hQ _ _ ⟨t411,rfl,by rw [b6] <;> rfl,rfl⟩))))
         ·exact gn b6 (h:=(zg rfl (zr (okb b6) rfl) (wk (hQ _ _ ⟨false,rfl,by rw [b6] <;> rfl,rfl⟩))))
       ·clear H
        rcases Bool.eq_false_or_eq_true (decide (a=Er.ok)) with b7 | b7
        ·exact gp b7 (h:=(ze rfl rfl (okb b7) rfl (qq Tryz.underlying26 (ErrR.goB hb (GB.grown hG gr10) hgl5 (apC (Ge.le hge2 (Nat.le_refl _)) (InA.toGe hi4 (apC (Ge.le hge4 (qZ gr2)) (apC (Ge.le hge3 (qZ gr2)) (apC (Ge.le hge2 (Nat.le_refl _)) (InA.toGe hi3 (apC (Ge.le hge4 (qZ gr2)) (apC (Ge.le hge3 (qZ gr2)) (apC (Ge.le hge2 (Nat.le_refl _)) (InA.toGe hi2 (apC (Ge.le hge2 (Nat.le_refl _)) (fun p hp=>Ge.le (hge1 p hp) (Nat.le_refl _))) (qZ gr2))))) (qZ gr6))))) (qZ gr9))) (apC (NoAt.bl hB6 rfl) hM6.noats)) rfl) (zg rfl (zt (okb b7) rfl) (wk (hQ _ _ ⟨decide (b=Er.ok),rfl,by rw [b7] <;> rfl,rfl⟩)))))
        ·exact gn b7 (h:=(gn b7 (h:=(zg rfl (zr (okb b7) rfl) (wk (hQ _ _ ⟨false,rfl,by rw [b7] <;> rfl,rfl⟩))))))
     ·clear H
      exact ze rfl rfl (rfl) rfl (zc qY rfl) (ze rfl rfl (rfl) rfl (qj Tryz.underlying26 ht2212 rfl) (zg rfl (zr (rfl) rfl) (wk (hQ _ _ ⟨!decide (t2212=Er.ok),rfl,rfl,rfl⟩))))
  ·clear H
   exact ze rfl rfl (rfl) rfl (zc qY rfl) (ze rfl rfl (rfl) rfl (qj Tryz.underlying26 ht1112 rfl) (zg rfl (zr (rfl) rfl) (wk (hQ _ _ ⟨!decide (t1112=Er.ok),rfl,rfl,rfl⟩))))
set_option maxHeartbeats 8000000 in
theorem W_smithylaw25_same {w:World} {a:List (List UInt8 × List UInt8)} {A_a:Option Addr} {c_a:Nat} {b:List (List UInt8 × List UInt8)} {A_b:Option Addr} {c_b:Nat} {n_a:Nat} {n_b:Nat} {K:Bool->Prop} (ha:RdK 64 enc97 w A_a c_a a) (f0:n_a=a.length) (hb:RdK 64 jv w A_b c_b b) (f1:n_b=b.length) (H:Zb a b K):Fn Tryz.prog 28 ⟨[.slice A_a n_a c_a,.slice A_b n_b c_b]⟩ w (fun v w'=>w.grownBy w' none/\∃ (r:Bool),v=.bool r/\K r):=by
 subst f0
 subst f1
 unfold Zb at H
 refine Fn.enter (by kernel_rfl) Tryz.func28 rfl Tryz.ntmps28 rfl ?_
 replace H:=H (Nat.le_trans ha.cap ha.max)
 replace H:=H (Nat.le_trans hb.cap hb.max)
 refine zd (zb (yp (h:=(zf (za (zd (zd (zb (yp (h:=(yp (h:=(yp (h:=(yp (h:=(yp (h:=(zf (za (zp rfl (fun b1=>?_) (fun b1=>?_))))))))))))))))))))))
 ·replace H:=H.1 (Zp b1)
  exact zd (zb (yp (h:=(zf (za (zq (zh (zw rfl rfl ⟨(jr _ _),false,rfl,H⟩))))))))
 ·replace H:=H.2 (kL b1)
  refine zo (za (zd (zd (zb (yp (h:=(zf (za (WC.block ?_)))))))))
  obtain ⟨I1,mu1,a6,HR1⟩:=H
  refine zW (fun n' L' w'=>∃ (i:Int),n'=mu1 i/\L'=[(0,.slice A_a a.length c_a),(1,.slice A_b b.length c_b),(5,.int .i64 i)]/\I1 i/\w.grownBy w' none) _ _ ⟨(0:Int),rfl,rfl,a6,(jr _ _)⟩ sb ?_
  clear a6
  rintro _ _ w1 ⟨i,rfl,rfl,hI1,gr1⟩
  have H:=HR1 i hI1
  refine zd (zd (zb (yp (h:=(yp (h:=(yp (h:=(yp (h:=(zf (za (zp rfl (fun b2=>?_) (fun b2=>?_))))))))))))))
  ·replace H:=H.1 (of_decide_eq_true b2)
   refine zo (za (zd (WC.block (zd (zO (fun k => !(Nat.beq k 10 || Nat.beq k 23)) (LD [4,9,17,22] (fun w'=>RdK 64 enc97 w' A_a c_a a/\RdK 64 jv w' A_b c_b b)) mixed (by kernel_rfl) (fun k w' h _=>⟨(RdK.eqv h (ha.grown gr1)),(RdK.eqv h (hb.grown gr1))⟩) (zl rfl rfl (fun w' hw'=>zc qY rfl) (zl rfl rfl (fun w' hw'=>zc qY rfl) ?_)))))))
   obtain ⟨h1,H⟩:=H
   refine zl rfl rfl (fun w' hw'=>qa qY (ha.grown gr1) rfl rfl rfl rfl h1.1 h1.2) (zl rfl rfl (fun w' hw'=>qk qY (ha.grown gr1) (iltN h1 rfl) rfl rfl rfl) (zl rfl rfl (fun w' hw'=>qA (vs:=(a32 ((a.getD i.toNat ([],[])).1))) ([],[]) qY (hw' rfl).1 rfl rfl (iltN h1 rfl) rfl rfl) (zl rfl rfl (fun w' hw'=>zc qY rfl) (zl rfl rfl (fun w' hw'=>zc qY rfl) ?_))))
   obtain ⟨h2,H⟩:=H
   refine zl rfl rfl (fun w' hw'=>qa qY (hb.grown gr1) rfl rfl rfl rfl h2.1 h2.2) (zl rfl rfl (fun w' hw'=>qk qY (hb.grown gr1) (iltN h2 rfl) rfl rfl rfl) (zl rfl rfl (fun w' hw'=>qA (vs:=(a32 ((b.getD i.toNat ([],[])).1))) ([],[]) qY (hw' rfl).2 rfl rfl (iltN h2 rfl) rfl rfl) (WJ.call rfl (je) rfl rfl (jN H) (fun v w' h w2 e=>DD.keep (⟨(RdK.grown (ha.grown gr1) (jg h.1 e)),(RdK.grown (hb.grown gr1) (jg h.1 e))⟩)) ?_)))
   rintro _ w2 ⟨hg1,t27,rfl,H⟩
   have gr2:=ja gr1 hg1
   refine zl rfl rfl (fun w' hw'=>zc qY rfl) (zl rfl rfl (fun w' hw'=>zc qY rfl) ?_)
   obtain ⟨J1,H,hJ1⟩:=H
   refine qH 13 (fun L' w'=>∃ q1:Bool,L'=[(42,.bool q1),(0,.slice A_a a.length c_a),(1,.slice A_b b.length c_b),(5,.int .i64 i)]/\J1 q1/\w.grownBy w' none) ?_ (fun hQ=>?_)
   ·clear H
    rintro _ w3 ⟨q1,rfl,H,gr3⟩
    replace H:=hJ1 q1 H
    refine z8 (za (zp rfl (fun b3=>?_) (fun b3=>?_)))
    ·replace H:=H.1 (b3)
     exact zd (zb (yp (h:=(zf (za (zq (zn (zh (zh (zn (zh (zw rfl rfl ⟨gr3,false,rfl,H⟩))))))))))))
    ·replace H:=H.2 (b3)
     refine zo (zi (za (zb (yp (h:=?_)))))
     obtain ⟨h3,H⟩:=H
     exact zg rfl (Yld.add rfl rfl h3) (yp (h:=(zf (zS _ ⟨i+(1:Int),rfl,rfl,H.1,gr3⟩ sb H.2))))
   ·clear hJ1
    rcases Bool.eq_false_or_eq_true (!t27) with b4 | b4
    ·replace H:=H.1 b4
     exact zX rfl rfl (okb b4) rfl (zX rfl rfl (okb b4) rfl (zX rfl rfl (okb b4) rfl (zX rfl rfl (okb b4) rfl (zX rfl rfl (okb b4) rfl (zX rfl rfl (okb b4) rfl (zX rfl rfl (okb b4) rfl (zX rfl rfl (okb b4) rfl (zX rfl rfl (okb b4) rfl (zX rfl rfl (okb b4) rfl (zX rfl rfl (okb b4) rfl (zX rfl rfl (okb b4) rfl (zl rfl rfl (fun w' hw'=>zt (okb b4) rfl) (WJ.weaken sb (hQ _ _ ⟨true,rfl,H,gr2⟩))))))))))))))
    ·replace H:=H.2 b4
     refine zY rfl (jb rfl rfl (okb b4)) rfl (fun w' hw'=>zc qY rfl) (zY rfl (jb rfl rfl (okb b4)) rfl (fun w' hw'=>zc qY rfl) ?_)
     obtain ⟨h4,H⟩:=H
     refine zY rfl (jb rfl rfl (okb b4)) rfl (fun w' hw'=>qa qY (ha.grown gr2) rfl rfl rfl rfl h4.1 h4.2) (zY rfl (jb rfl rfl (okb b4)) rfl (fun w' hw'=>qk qY (ha.grown gr2) (iltN h4 rfl) rfl rfl rfl) (zY rfl (jb rfl rfl (okb b4)) rfl (fun w' hw'=>qA (vs:=(a32 ((a.getD i.toNat ([],[])).2))) ([],[]) qY (hw' rfl).1 rfl rfl (iltN h4 rfl) rfl rfl) (zY rfl (jb rfl rfl (okb b4)) rfl (fun w' hw'=>zc qY rfl) (zY rfl (jb rfl rfl (okb b4)) rfl (fun w' hw'=>zc qY rfl) ?_))))
     obtain ⟨h5,H⟩:=H
     refine zY rfl (jb rfl rfl (okb b4)) rfl (fun w' hw'=>qa qY (hb.grown gr2) rfl rfl rfl rfl h5.1 h5.2) (zY rfl (jb rfl rfl (okb b4)) rfl (fun w' hw'=>qk qY (hb.grown gr2) (iltN h5 rfl) rfl rfl rfl) (zY rfl (jb rfl rfl (okb b4)) rfl (fun w' hw'=>qA (vs:=(a32 ((b.getD i.toNat ([],[])).2))) ([],[]) qY (hw' rfl).2 rfl rfl (iltN h5 rfl) rfl rfl) (WJ.call rfl (jb rfl rfl (okb b4)) rfl rfl (jN H) (fun v w' h w2 e=>DD.keep (⟨(RdK.grown (ha.grown gr2) (jg h.1 e)),(RdK.grown (hb.grown gr2) (jg h.1 e))⟩)) ?_)))
     rintro _ w4 ⟨hg2,t40,rfl,H⟩
     exact zY rfl (jb rfl rfl (okb b4)) rfl (fun w' hw'=>zc qY rfl) (zl rfl rfl (fun w' hw'=>zr (okb b4) rfl) (WJ.weaken sb (hQ _ _ ⟨!t40,rfl,H,(ja gr2 hg2)⟩)))
  ·replace H:=H.2 (of_decide_eq_false b2)
   exact zD (zj (zj (zm (za (zd (zb (yp (h:=(zf (za (zq (zw rfl rfl ⟨gr1,true,rfl,H⟩))))))))))))
end
 
section
open Go Go.RowKit
theorem bits_or_comm (k:IntKind) (a b:Int):bits .or k a b=bits .or k b a:=by
 unfold bits
 dsimp only
 rw [BitVec.or_comm]
theorem wr32 (z:Int):IntKind.wrap .u32 z=z % 4294967296:=by simp [IntKind.wrap,IntKind.bits,IntKind.signed]
theorem wr64 (z:Int):IntKind.wrap .u64 z=z % 18446744073709551616:=by simp [IntKind.wrap,IntKind.bits,IntKind.signed]
theorem wr8 (z:Int):IntKind.wrap .u8 z=z % 256:=by simp [IntKind.wrap,IntKind.bits,IntKind.signed]
theorem wr8_ok (z:Int):0<=IntKind.wrap .u8 z/\IntKind.wrap .u8 z<=255:=by rw [wr8]; omega
theorem turn_M {x n:Int} {K:Int->Prop} (h0:0<n) (h1:n<32) (h:K (rotr x n)):jn x n K:=by
 have hw:IntKind.wrap .u64 (32 - n)=32 - n:=by rw [wr64]; omega
 have e:rotr x n=bits .or .u32 (shrV .u32 x n.toNat) (shlV .u32 x (32 - n).toNat):=by
  unfold rotr rotl
  rw [show (0 - n) % 32=32 - n by omega,show 32 - (32 - n)=n by omega,bits_or_comm]
 refine ⟨by omega,by rw [hw]; omega,?_⟩
 rw [hw,<-e]
 exact h
theorem D_len:∀ (n:Nat) (hs:List Int) (x:List UInt8),x.length<=n->(D hs x).2.length=x.length % 64
 | 0,hs,x,h=>by
  rw [D_step,if_neg (by omega)]
  show x.length=_
  omega
 | n+1,hs,x,h=>by
  rw [D_step]
  split
  ·rw [D_len n _ _ (by rw [List.length_drop]; omega),List.length_drop]; omega
  ·show x.length=_
   omega
theorem shaS_whole (b:List UInt8):shaS b=outAt (D h0s (endS b (b.length:Int))).1 32:=by
 unfold shaS sumS
 rw [absorb_fuel _ _ _ (Nat.le_refl _)]
 have e:wrS h0s [] b=D h0s b:=by unfold wrS D; rw [List.nil_append]
 rw [e]
 have h1:endS b (b.length:Int)=b++([128]++List.replicate ((120 - (b.length+1) % 64) % 64) 0++lenBs (8*(b.length:Int)) 8):=by
  unfold endS padS; simp
 have h2:endS (D h0s b).2 (b.length:Int)=(D h0s b).2++([128]++List.replicate ((120 - (b.length+1) % 64) % 64) 0++lenBs (8*(b.length:Int)) 8):=by
  have h3:=D_len _ h0s b (Nat.le_refl _)
  have h4:(120 - ((D h0s b).2++[(128:UInt8)]).length % 64) % 64=(120 - (b.length+1) % 64) % 64:=by
   rw [List.length_append,h3,List.length_singleton]; omega
  unfold endS padS
  rw [h4]; simp
 rw [h1,h2,D_app _ b.length h0s b (Nat.le_refl _)]
theorem padS_ge (l:List UInt8):l.length<=(padS l).length/\(padS l).length<=l.length+63/\(padS l).length % 64=56:=by
 unfold padS
 rw [List.length_append,List.length_replicate]
 omega
theorem padS_id {l:List UInt8} (h:l.length % 64=56):padS l=l:=by
 unfold padS
 rw [show (120 - l.length % 64) % 64=0 by omega]
 simp
theorem endS_len (s:List UInt8):(endS s (s.length:Int)).length % 64=0/\(endS s (s.length:Int)).length<=s.length+72:=by
 have:=padS_ge (s++[128])
 unfold endS
 rw [List.length_append,lenBs_len]
 rw [List.length_append,List.length_singleton] at this
 omega
theorem getbs (M:List UInt8) (a j:Nat) (hj:j<64):((M.drop a).take 64).getD j 0=M.getD (a+j) 0:=by
 simp [List.getD,List.getElem?_take,hj]
theorem table_M {K:List Int->Prop} (h:K ktab):Zc K:=h
theorem sum_M {s:List UInt8} {K:List UInt8->Prop} (hs:s.length<=1000000) (h:K (shaS s)):j3 s K:=by
 have hP:=padS_ge (s++[128])
 have hPl:(s++[(128:UInt8)]).length=s.length+1:=by simp
 rw [hPl] at hP
 have hE:=endS_len s
 refine table_M ⟨by simp only [In]; omega,by omega,by simp; omega,by simp; omega,?_⟩
 refine ⟨fun m=>padS m=padS (s++[128]),fun m=>(padS (s++[128])).length - m.length,by rw [List.nil_append],fun m hm=>⟨by omega,fun h56=>?_,fun h56=>?_⟩⟩
 ·have h1:m.length % 64≠56:=by omega
  have h2:=padS_step m h1
  have h3:=(padS_ge (m++[0])).1
  rw [h2,hm,List.length_append,List.length_singleton] at h3
  refine ⟨by simp only [List.length_singleton]; omega,h2.trans hm,?_⟩
  dsimp only
  rw [List.length_append,List.length_singleton]
  omega
 have hm:padS m=padS (s++[128]):=hm
 rw [padS_id (l:=m) (by omega)] at hm
 subst hm
 have hn8:IntKind.wrap .u64 ((IntKind.wrap .u64 (s.length:Int))*(8:Int))=8*(s.length:Int):=by rw [wr64,wr64]; omega
 rw [hn8]
 refine ⟨fun m2 i => -1<=i/\i<=7/\m2=padS (s++[128])++lenBs (8*(s.length:Int)) (7 - i).toNat,fun _ i=>(i+1).toNat,⟨by omega,by omega,by simp [lenBs]⟩,fun m2 i ⟨a0,a1,a2⟩=>⟨fun hlt=>?_,fun hge=>?_⟩⟩
 ·have e8:IntKind.wrap .u64 ((8:Int)*i)=8*i:=by rw [wr64]; omega
  have hb:UInt8.ofNat (IntKind.wrap .u8 (shrV .u64 (8*(s.length:Int)) (8*i).toNat)).toNat=lenB (8*(s.length:Int)) (7 - i).toNat:=by
   unfold lenB u8v
   rw [show (8*(7 - (((7 - i).toNat:Nat):Int))).toNat=(8*i).toNat by omega]
  have hl2:m2.length<=s.length+80:=by rw [a2,List.length_append,lenBs_len]; omega
  rw [e8,hb]
  refine ⟨by simp only [In]; omega,by omega,wr8_ok _,by simp only [List.length_singleton]; omega,by simp only [In]; omega,⟨by omega,by omega,?_⟩,by dsimp only; omega⟩
  rw [show (7 - (i - 1)).toNat=(7 - i).toNat+1 by omega,lenBs,<-List.append_assoc,<-a2]
 have hm2:m2=endS s (s.length:Int):=by
  rw [a2,show (7 - i).toNat=8 by omega]; rfl
 clear a2 hn8
 subst hm2
 generalize hMd:endS s (s.length:Int)=M at *
 rw [shaS_whole,hMd] at h
 refine ⟨fun at_ hh=>0<=at_/\at_<=M.length/\at_ % 64=0/\hh.length=8/\D h0s M=D hh (M.drop at_.toNat),fun at_ _=>M.length - at_.toNat,⟨by omega,by omega,by omega,rfl,rfl⟩,fun at_ hh ⟨b0,b1,b2,b3,b4⟩ _=>⟨fun hlt=>⟨by omega,?_⟩,fun hge=>?_⟩⟩
 ·have hfit:at_+64<=M.length:=by omega
  generalize hbs:(M.drop at_.toNat).take 64=bs
  have hget:∀ j:Nat,j<64->M.getD (at_.toNat+j) 0=bs.getD j 0:=fun j hj=>by rw [<-hbs,getbs M _ j hj]
  refine ⟨fun i w_=>0<=i/\i<=16/\w_=wsAt bs i.toNat,fun i _=>16 - i.toNat,⟨by omega,by omega,rfl⟩,fun i w_ ⟨c0,c1,c2⟩ _=>⟨fun hi=>?_,fun hi=>?_⟩⟩
  ·refine ⟨by simp only [In]; omega,by simp only [In]; omega,by omega,by simp only [In]; omega,by simp only [In]; omega,by simp only [In]; omega,by omega,by simp only [In]; omega,by simp only [In]; omega,by simp only [In]; omega,by omega,by simp only [In]; omega,by simp only [In]; omega,by simp only [In]; omega,by omega,by omega,by simp only [In]; omega,⟨by omega,by omega,?_⟩,by dsimp only; omega⟩
   rw [show (i+1).toNat=i.toNat+1 by omega,wsAt,<-c2]
   congr 1
   rw [wnext,if_pos (by omega)]
   rw [show (at_+4*i).toNat=at_.toNat+(4*i.toNat) by omega,show (at_+4*i+1).toNat=at_.toNat+(4*i.toNat+1) by omega,show (at_+4*i+2).toNat=at_.toNat+(4*i.toNat+2) by omega,show (at_+4*i+3).toNat=at_.toNat+(4*i.toNat+3) by omega]
   rw [hget _ (by omega),hget _ (by omega),hget _ (by omega),hget _ (by omega)]
  refine ⟨fun i w_=>16<=i/\i<=64/\w_=wsAt bs i.toNat,fun i _=>64 - i.toNat,⟨by omega,by omega,by rw [c2,show i.toNat=16 by omega]; rfl⟩,fun i3 w_2 ⟨d0,d1,d2⟩ _=>⟨fun hi3=>?_,fun hi3=>?_⟩⟩
  ·refine ⟨by simp only [In]; omega,by omega,turn_M (by decide) (by decide) ⟨by simp only [In]; omega,by omega,turn_M (by decide) (by decide) ⟨by simp only [In]; omega,by omega,by simp only [In]; omega,by omega,turn_M (by decide) (by decide) ⟨by simp only [In]; omega,by omega,turn_M (by decide) (by decide) ⟨by simp only [In]; omega,by omega,by simp only [In]; omega,by omega,by simp only [In]; omega,by omega,by omega,by simp only [In]; omega,⟨by omega,by omega,?_⟩,by dsimp only; omega⟩⟩⟩⟩⟩
   rw [show (i3+1).toNat=i3.toNat+1 by omega,wsAt,<-d2]
   congr 1
   rw [wnext,if_neg (by omega)]
   rw [show (i3 - 15).toNat=i3.toNat - 15 by omega,show (i3 - 2).toNat=i3.toNat - 2 by omega,show (i3 - 16).toNat=i3.toNat - 16 by omega,show (i3 - 7).toNat=i3.toNat - 7 by omega]
   dsimp only
   generalize bits .xor .u32 _ _=A
   generalize bits .xor .u32 _ _=B
   generalize w_2.getD (i3.toNat - 16) 0=x
   generalize w_2.getD (i3.toNat - 7) 0=y
   simp only [wr32]
   omega
  obtain rfl:i3=64:=by omega
  have e64:(64:Int).toNat=64:=rfl
  have e8:(8:Int).toNat=8:=rfl
  rw [e64] at d2
  refine ⟨by omega,by simp [b3],?_⟩
  refine ⟨fun v i=>0<=i/\i<=64/\v=hAt w_2 hh i.toNat,fun _ i=>64 - i.toNat,⟨by omega,by omega,by rw [List.nil_append]; rfl⟩,fun v i4 ⟨e0,e1,e2⟩=>⟨fun hi4=>?_,fun hi4=>?_⟩⟩
  ·have hv:v.length=8:=by rw [e2]; exact hAt_len _ _ b3 _
   have hk:ktab.length=64:=rfl
   refine ⟨by omega,turn_M (by decide) (by decide) ⟨by omega,turn_M (by decide) (by decide) ⟨by omega,turn_M (by decide) (by decide) ⟨by omega,by omega,by omega,by omega,by omega,by omega,by omega,by omega,turn_M (by decide) (by decide) ⟨by omega,turn_M (by decide) (by decide) ⟨by omega,turn_M (by decide) (by decide) ⟨by omega,by omega,by omega,by omega,by omega,by omega,by omega,by omega,by omega,by omega,by omega,by omega,by omega,by simp only [In]; omega,⟨by omega,by omega,?_⟩,by dsimp only; omega⟩⟩⟩⟩⟩⟩⟩
   have hmax:(if IntKind.signed .u32=true then (-1:Int) else IntKind.max .u32)=IntKind.u32.max:=rfl
   rw [show (i4+1).toNat=i4.toNat+1 by omega,hAt,<-e2,hnext,hmax]
   generalize IntKind.wrap .u32 (IntKind.wrap .u32 (IntKind.wrap .u32 (IntKind.wrap .u32 (v.getD 7 0+_)+_)+_)+_)=one
   have e3:∀ A B:Int,IntKind.wrap .u32 (IntKind.wrap .u32 (one+A)+B)=IntKind.wrap .u32 (one+IntKind.wrap .u32 (A+B)):=fun A B=>by
    simp only [wr32]
    omega
   rw [e3]
  obtain rfl:i4=64:=by omega
  have hv:v.length=8:=by rw [e2]; exact hAt_len _ _ b3 _
  refine ⟨fun i h2=>0<=i/\i<=8/\h2=sumAt hh v i.toNat,fun i _=>8 - i.toNat,⟨by omega,by omega,rfl⟩,fun i5 h2 ⟨f0,f1,f2⟩ _=>⟨fun hi5=>?_,fun hi5=>?_⟩⟩
  ·refine ⟨by omega,by omega,by omega,by simp only [In]; omega,⟨by omega,by omega,?_⟩,by dsimp only; omega⟩
   rw [show (i5+1).toNat=i5.toNat+1 by omega,sumAt,<-f2]
  obtain rfl:i5=8:=by omega
  have hmix:h2=mixS hh bs:=by rw [f2,e2,e64,e8,d2,mixS]
  refine ⟨by simp only [In]; omega,⟨by omega,by omega,by omega,by rw [hmix,mixS_len]; exact b3,?_⟩,by dsimp only; omega⟩
  rw [b4,D_step,if_pos (by rw [List.length_drop]; omega),hbs,<-hmix,List.drop_drop]
  rw [show (at_+64).toNat=at_.toNat+64 by omega]
 have hd:M.drop at_.toNat=[]:=List.drop_eq_nil_of_le (by omega)
 rw [hd,D_step hh [],if_neg (by simp)] at b4
 have hh1:(D h0s M).1=hh:=by rw [b4]
 rw [hh1] at h
 refine ⟨fun i o=>0<=i/\i<=8/\o=outAt hh (4*i).toNat,fun i _=>8 - i.toNat,⟨by omega,by omega,rfl⟩,fun i6 o ⟨g0,g1,g2⟩=>⟨fun hi6=>?_,fun hi6=>?_⟩⟩
 ·refine ⟨fun j o=>0<=j/\j<=4/\o=outAt hh (4*i6+j).toNat,fun j _=>4 - j.toNat,⟨by omega,by omega,by rw [g2,Int.add_zero]⟩,fun j o2 ⟨p0,p1,p2⟩=>⟨fun hj=>?_,fun hj=>?_⟩⟩
  ·have e64:IntKind.wrap .u64 (24 - 8*j)=24 - 8*j:=by rw [wr64]; omega
   rw [e64]
   refine ⟨by simp only [In]; omega,by simp only [In]; omega,by omega,by simp only [In]; omega,by simp only [In]; omega,by omega,by omega,wr8_ok _,by rw [p2]; exact outAt_len _ _,by simp only [In]; omega,⟨by omega,by omega,?_⟩,by dsimp only; omega⟩
   rw [show (4*i6+(j+1)).toNat=(4*i6+j).toNat+1 by omega,outAt,<-p2]
   congr 1
   unfold u8v
   rw [show (4*i6+j).toNat / 4=i6.toNat by omega,show (24 - 8*((((4*i6+j).toNat:Nat):Int) % 4))=24 - 8*j by omega]
  ·refine ⟨by simp only [In]; omega,⟨by omega,by omega,?_⟩,by dsimp only; omega⟩
   rw [p2,show 4*(i6+1)=4*i6+j by omega]
 ·rw [g2,show (4*i6).toNat=32 by omega]
  exact h
end
 
section
open Go Go.RowKit
theorem getD_memH {α:Type} {l:List α} {k:Nat} {d:α} (h:k<l.length):l.getD k d∈l:=by
 simp [List.getD,h]
theorem hex_M {s:List UInt8} {K:List UInt8->Prop} (hl:s.length=32) (h:K (hexS s)):jF s K:=by
 refine ⟨by omega,fun out i=>0<=i/\i<=32/\out=hexS (s.take i.toNat),fun _ i=>32 - i.toNat,⟨by omega,by omega,rfl⟩,fun out i ⟨a0,a1,a2⟩=>⟨fun hlt=>?_,fun hge=>?_⟩⟩
 ·have hs:=shr_4 (s.getD i.toNat 0)
  have ha:=and_15 (s.getD i.toNat 0)
  have ho:out.length<=64:=by rw [a2,hexS_len,List.length_take]; omega
  refine ⟨by omega,by simp only [List.length_cons,List.length_nil]; omega,by omega,by simp only [List.length_cons,List.length_nil]; omega,by simp only [List.length_cons,List.length_nil]; omega,by simp only [In]; omega,⟨by omega,by omega,?_⟩,by dsimp only; omega⟩
  rw [show (i+1).toNat=i.toNat+1 by omega,hexS_take s i.toNat (by omega),<-a2]
  rfl
 ·rw [a2,show i.toNat=32 by omega,List.take_of_length_le (by omega)]
  exact h
theorem text_M {s:List UInt8} {K:List UInt8->Prop} (hl:s.length=32) (h:K (hexS s)):M_sha_Text s K:=by
 intro t ht he
 have:t=s:=List.ext_getElem (by omega) fun i h1 h2=>by
  have:=he i (by omega)
  simpa [List.getD,h1,h2] using this
 rw [this]; exact h
theorem sameSum_M {a b:List UInt8} {K:Bool->Prop} (ha:a.length=32) (hb:b.length=32) (h:K (decide (hexS a=hexS b))):jl a b K:=hex_M ha (hex_M hb h)
theorem catM_le (l:List (List UInt8)) (h:∀ x∈l,x.length<=1000):(catM l).length<=1004*l.length:=by
 induction l with
 | nil=>simp [catM]
 | cons x l ih =>
  have hx:=h x (by simp)
  have:=ih (fun y hy=>h y (by simp [hy]))
  have e:catM (x :: l)=be4 x.length++x++catM l:=rfl
  have hb:(be4 x.length).length=4:=rfl
  rw [e,List.length_append,List.length_append,hb,List.length_cons]
  omega
theorem rmany_M {l:List (List UInt8)} {K:List UInt8->Prop} (hl:l.length<=500) (hx:∀ x∈l,x.length<=1000) (h:K (manyS l)):Zl l K:=by
 intro _
 refine ⟨fun m i=>0<=i/\i<=l.length/\m=catM (l.take i.toNat),fun _ i=>l.length - i.toNat,⟨by omega,by omega,rfl⟩,fun m i ⟨a0,a1,a2⟩=>⟨fun hlt=>?_,fun hge=>?_⟩⟩
 ·have h1:=hx _ (getD_memH (l:=l) (k:=i.toNat) (d:=[]) (by omega))
  have hm:m.length<=1004*500:=by
   have:=catM_le (l.take i.toNat) fun x hx'=>hx x (List.mem_of_mem_take hx')
   rw [List.length_take] at this
   rw [a2]; omega
  refine ⟨by omega,wr8_ok _,wr8_ok _,wr8_ok _,wr8_ok _,by simp only [List.length_cons,List.length_nil]; omega,by omega,by simp only [List.length_append,List.length_cons,List.length_nil]; omega,by simp only [In]; omega,⟨by omega,by omega,?_⟩,by dsimp only; omega⟩
  rw [show (i+1).toNat=i.toNat+1 by omega,catM_take l i.toNat (by omega),<-a2,<-List.append_assoc]
  rfl
 ·have hm:=catM_le l hx
  rw [a2,List.take_of_length_le (by omega)]
  refine sum_M (by omega) ?_
  rw [<-manyS_eq]
  exact h
end
 section
open Go Go.RowKit
attribute [local irreducible] WL WC WX WQ WK Yld Eff Ef0 Fn
def pairV (x y:UInt8):Option UInt8:=match digV x,digV y with
 | some a,some b=>some (u8v (bits .or .u8 (shlV .u8 (a:Int) 4) (b:Int)))
 | _,_=>none
theorem pair_hex (b:UInt8):pairV ((hexB b).getD 0 0) ((hexB b).getD 1 0)=some b:=by
 have h:(List.range 256).all (fun n=>pairV ((hexB (UInt8.ofNat n)).getD 0 0) ((hexB (UInt8.ofNat n)).getD 1 0) == some (UInt8.ofNat n))=true:=by kernel_rfl
 have:=List.all_eq_true.mp h b.toNat (List.mem_range.mpr b.toNat_lt)
 have e:UInt8.ofNat b.toNat=b:=UInt8.ofNat_toNat
 rw [e] at this
 simpa using this
theorem parN_step (s:List UInt8) (n:Nat):parN s (n+1)=match parN s n,pairV (s.getD (2*n) 0) (s.getD (2*n+1) 0) with
  | some l,some x=>some (l++[x])
  | _,_=>none:=by
 rw [parN,pairV]
 cases parN s n <;> cases digV (s.getD (2*n) 0) <;> cases digV (s.getD (2*n+1) 0) <;> rfl
theorem hexS_at:∀ (l:List UInt8) (i:Nat),i<l.length->(hexS l).getD (2*i) 0=(hexB (l.getD i 0)).getD 0 0/\(hexS l).getD (2*i+1) 0=(hexB (l.getD i 0)).getD 1 0
 | [],i,h=>by simp at h
 | b :: l,0,_=>⟨rfl,rfl⟩
 | b :: l,i+1,h=>by
  have:=hexS_at l i (by simpa using h)
  have e1:(hexS (b :: l)).getD (2*(i+1)) 0=(hexS l).getD (2*i) 0:=rfl
  have e2:(hexS (b :: l)).getD (2*(i+1)+1) 0=(hexS l).getD (2*i+1) 0:=rfl
  rw [e1,e2]
  exact this
theorem parN_hex (l:List UInt8):∀ n,n<=l.length->parN (hexS l) n=some (l.take n)
 | 0,_=>rfl
 | n+1,h=>by
  have ih:=parN_hex l n (by omega)
  have hp:=hexS_at l n (by omega)
  rw [parN_step,ih,hp.1,hp.2,pair_hex]
  show some (l.take n++[l.getD n 0])=_
  rw [List.take_succ_eq_append_getElem (by omega)]
  simp [List.getD,show n<l.length by omega]
theorem parS_hex (l:List UInt8) (h:l.length=32):parS (hexS l)=some l:=by
 unfold parS
 rw [if_pos (by rw [hexS_len]; omega),parN_hex l 32 (by omega),List.take_of_length_le (by omega)]
def StB (w:World) (g:Nat) (b:List UInt8):Prop:=St w g (wrS h0s [] b).1 (wrS h0s [] b).2 (b.length:Int)
theorem StB.keep {w w':World} {g:Nat} {b:List UInt8} {row:Option Nat} (h:StB w g b) (hg:w.grownBy w' row) (hr:row≠some g) (hr2:∀ q,row=some q->w.heap.size<=q):StB w' g b:=by
 obtain ⟨q1,A',c',q2,q3,q4⟩:=h
 refine ⟨q1,A',c',q2.keep hg hr,q3.keep' hg (fun hne q hq e=>?_),q4⟩
 have:=q3.lt hne e
 have:=hr2 q hq
 omega
theorem StB.grown {w w':World} {g:Nat} {b:List UInt8} (h:StB w g b) (hg:w.grownBy w' none):StB w' g b:=h.keep hg (by simp) (by simp)
end
 
section
open Go Go.RowKit
theorem fair_nil:fairB []=false:=by decide
theorem valid_head {p:List UInt8} (h:jY p=true):p≠[]/\p.getD 0 0≠47:=by
 unfold jY at h
 rw [Bool.and_eq_true,List.all_eq_true] at h
 have hn:[]∉cuts p:=fun hm=>by have:=h.2 [] hm; rw [fair_nil] at this; cases this
 cases p with
 | nil=>exact absurd (by simp [cuts]) hn
 | cons c s =>
  refine ⟨by simp,fun e=>hn ?_⟩
  have e':c=47:=e
  rw [cuts,if_pos e']
  simp
end
 
section
open Go Go.RowKit
theorem fair_bytes {x:List UInt8} (h:fairB x=true) {c:UInt8} (hc:c∈x):c≠42/\c≠47:=by
 unfold fairB at h
 rw [Bool.and_eq_true,List.all_eq_true] at h
 have hl:=h.1 c hc
 exact ⟨fun e=>by rw [e] at hl; exact absurd hl (by decide),fun e=>by rw [e] at hl; exact absurd hl (by decide)⟩
theorem cuts_append (a b:List UInt8):cuts (a++47 :: b)=cuts a++cuts b:=by
 induction a with
 | nil=>simp [cuts]
 | cons c a ih =>
  by_cases hc:c=47
  ·simp [cuts,hc,ih]
  ·have hne:=cuts_ne a
   rw [List.cons_append,cuts,cuts,if_neg hc,if_neg hc,ih]
   cases hca:cuts a with
   | nil=>exact absurd hca hne
   | cons h t=>simp
theorem cuts_none {s:List UInt8} (h:∀ c∈s,c≠47):cuts s=[s]:=by
 induction s with
 | nil=>rfl
 | cons c s ih=>rw [cuts,if_neg (h c (by simp)),ih (fun d hd=>h d (by simp [hd]))]
theorem valid_of {s:List UInt8} (hs:s.length<=200) (h:∀ x∈cuts s,fairB x=true):jY s=true:=by
 unfold jY
 rw [decide_eq_true hs,Bool.true_and,List.all_eq_true]
 exact h
theorem valid_parts {s:List UInt8} (h:jY s=true):∀ x∈cuts s,fairB x=true:=by
 unfold jY at h
 rw [Bool.and_eq_true,List.all_eq_true] at h
 exact h.2
end
 
section
open Go Go.RowKit
def Fairs (l:List (List UInt8)):Prop:=∀ x∈l,fairB x=true
theorem fair_dots {x:List UInt8} (h:fairB x=true):x≠[]/\x≠[46]/\x≠[46,46] :=
 ⟨fun e=>by rw [e] at h; exact absurd h (by decide),fun e=>by rw [e] at h; exact absurd h (by decide),fun e=>by rw [e] at h; exact absurd h (by decide)⟩
theorem cl_fair:∀ (xs l:List (List UInt8)),Fairs xs->cl l xs=some (l++xs)
 | [],l,_=>by simp [cl]
 | x :: xs,l,h=>by
  have hx:=h x (by simp)
  obtain ⟨h1,h2,h3⟩:=fair_dots hx
  rw [cl,if_neg (by simp [h1,h2]),if_neg (by simp [h3]),if_pos hx,cl_fair xs _ (fun y hy=>h y (by simp [hy]))]
  simp
theorem cl_out:∀ (xs l:List (List UInt8)) {l':List (List UInt8)},Fairs l->cl l xs=some l'->Fairs l'
 | [],l,l',h,e=>by simp only [cl,Option.some.injEq] at e; rw [<-e]; exact h
 | x :: xs,l,l',h,e=>by
  rw [cl] at e
  split at e
  ·exact cl_out xs l h e
  ·split at e
   ·exact cl_out xs _ (fun y hy=>h y (List.mem_of_mem_take hy)) e
   ·split at e
    ·rename_i hx
     refine cl_out xs _ (fun y hy=>?_) e
     rcases List.mem_append.1 hy with h1 | h1
     ·exact h y h1
     ·rw [List.mem_singleton.1 h1]; exact hx
    ·cases e
theorem fairs_free {l:List (List UInt8)} (h:Fairs l) {x:List UInt8} (hx:x∈l):∀ c∈x,c≠47:=fun _ hc=>(fair_bytes (h x hx) hc).2
theorem cuts_glue:∀ (l:List (List UInt8)),l≠[]->Fairs l->cuts (glue l)=l
 | [],h,_=>absurd rfl h
 | [x],_,h=>by
  have e:glue [x]=x:=by simp [glue]
  rw [e]
  exact cuts_none (fairs_free h (by simp))
 | x :: y :: r,_,h=>by
  rw [glue,cuts_append,cuts_none (fairs_free h (by simp)),cuts_glue (y :: r) (by simp) (fun z hz=>h z (List.mem_cons_of_mem _ hz))]
  rfl
theorem glue_cuts (s:List UInt8):glue (cuts s)=s:=by
 induction s with
 | nil=>rfl
 | cons c s ih =>
  have hne:=cuts_ne s
  rw [cuts]
  cases hs:cuts s with
  | nil=>exact absurd hs hne
  | cons h t =>
   rw [hs] at ih
   split
   ·rename_i hc
    rw [glue,ih,hc]
    rfl
   ·cases t with
    | nil=>rw [show c :: s=c :: glue [h] by rw [ih]]; rfl
    | cons y t=>rw [<-ih]; rfl
def Cln (o:List UInt8):Prop:=o.length<=200/\(o=[]∨(o≠[]/\Fairs (cuts o)))
theorem cln_of {p o:List UInt8} (h:cleanP p=some o):Cln o:=by
 unfold cleanP at h
 split at h
 ·cases h
 ·rename_i l hl
  split at h
  ·rename_i h200
   have hf:=cl_out _ [] (fun y hy=>by cases hy) hl
   obtain rfl:glue l=o:=Option.some.inj h
   refine ⟨h200,?_⟩
   by_cases hn:l=[]
   ·exact .inl (by rw [hn]; rfl)
   ·have hc:=cuts_glue l hn hf
    refine .inr ⟨fun e=>?_,by rw [hc]; exact hf⟩
    rw [e] at hc
    have:[]∈l:=by rw [<-hc]; simp [cuts]
    exact (fair_dots (hf _ this)).1 rfl
  ·cases h
theorem clean_fairs {p:List UInt8} (hp:p.length<=200) (h:Fairs (cuts p)):cleanP p=some p:=by
 unfold cleanP
 rw [cl_fair _ _ h,List.nil_append]
 simp only [glue_cuts]
 rw [if_pos hp]
end
 
section
open Go Go.RowKit
attribute [local irreducible] WL WC WX WQ WK WJ Yld Eff Ef0 Fn
def kj (c:Int) (K:Bool->Prop):Prop :=
 K (((((((((((((((decide ((97:Int)<=c)) && (decide (c<=(122:Int)))) || ((decide ((65:Int)<=c)) && (decide (c<=(90:Int))))) || ((decide ((48:Int)<=c)) && (decide (c<=(57:Int))))) || (decide (c=(33:Int)))) || (decide (c=(35:Int)))) || (decide (c=(37:Int)))) || (decide (c=(43:Int)))) || (decide (c=(44:Int)))) || (decide (c=(45:Int)))) || (decide (c=(46:Int)))) || (decide (c=(61:Int)))) || (decide (c=(64:Int)))) || (decide (c=(95:Int)))) || (decide (c=(126:Int))))
def kw (p:List UInt8) (K:(List (List UInt8))->Prop):Prop :=
 Lp3 (fun (out:List (List UInt8)) (from_:Int) (i:Int) kont1=>((i<=(p.length:Int)->∃ J1:(List (List UInt8))->Int->Prop,(((decide (i=(p.length:Int)))=false->(0<=i/\i<p.length)) /\
 ((((decide (i=(p.length:Int))) || (decide (((p.getD i.toNat 0).toNat:Int)=(47:Int))))=true->(0<=from_/\from_<=i/\i<=p.length) /\
 ((out.length+(([(p.drop from_.toNat).take (i.toNat - from_.toNat)]:List (List UInt8))).length)*16<=140737488355328) /\
 (In .i64 (i+(1:Int))) /\
 J1 (out++([(p.drop from_.toNat).take (i.toNat - from_.toNat)]:List (List UInt8))) (i+(1:Int))) /\
 (((decide (i=(p.length:Int))) || (decide (((p.getD i.toNat 0).toNat:Int)=(47:Int))))=false->J1 out from_))) /\
 (∀ out2:List (List UInt8),∀ from_2:Int,J1 out2 from_2->(In .i64 (i+(1:Int))) /\
 kont1 out2 from_2 (i+(1:Int)))) /\
 (¬ (i<=(p.length:Int))->K out))) [] (0:Int) (0:Int)
def Zm (l:List (List UInt8)) (K:(List UInt8)->Prop):Prop :=
 (l.length<=maxLen ->
 Lp2 (fun (s:List UInt8) (i:Int) kont1=>((i<(l.length:Int)->∃ J1:(List UInt8)->Prop,((((0:Int)<i->(s.length+([47]:List UInt8).length<=9223372036854775807) /\
 J1 (s++([47]:List UInt8))) /\
 (¬ ((0:Int)<i)->J1 s))) /\
 (∀ s2:List UInt8,J1 s2->(0<=i/\i<(l.length:Nat)) /\
 (s2.length+(l.getD i.toNat []).length<=9223372036854775807) /\
 (In .i64 (i+(1:Int))) /\
 kont1 (s2++(l.getD i.toNat [])) (i+(1:Int)))) /\
 (¬ (i<(l.length:Int))->K s))) ([]:List UInt8) (0:Int))
def kI (s:List UInt8) (star:Bool) (K:Bool->Prop):Prop :=
 Lp1 (fun (i:Int) kont1=>((i<(s.length:Int)->(0<=i/\i<s.length) /\
 kj ((s.getD i.toNat 0).toNat:Int) (fun (t15:Bool) =>
 ((!t15)=true->star=true->(0<=i/\i<s.length)) /\
 ((((!t15) && (!(star && (decide (((s.getD i.toNat 0).toNat:Int)=(42:Int))))))=true->K false) /\
 (((!t15) && (!(star && (decide (((s.getD i.toNat 0).toNat:Int)=(42:Int))))))=false->(In .i64 (i+(1:Int))) /\
 kont1 (i+(1:Int)))))) /\
 (¬ (i<(s.length:Int))->K (((!decide (s=([]:List UInt8))) && (!decide (s=([46]:List UInt8)))) && (!decide (s=([46,46]:List UInt8))))))) (0:Int)
def kv (p:List UInt8) (K:(List UInt8)->Bool->Prop):Prop :=
 kw p (fun (parts:List (List UInt8)) =>
 Lp2 (fun (l:List (List UInt8)) (i:Int) kont1=>((i<(parts.length:Int)->∃ J1:(List (List UInt8))->Prop,((0<=i/\i<(parts.length:Nat)) /\
 ((decide ((parts.getD i.toNat [])=([]:List UInt8)))=false->(0<=i/\i<(parts.length:Nat))) /\
 ((((decide ((parts.getD i.toNat [])=([]:List UInt8))) || (decide ((parts.getD i.toNat [])=([46]:List UInt8))))=true->J1 l) /\
 (((decide ((parts.getD i.toNat [])=([]:List UInt8))) || (decide ((parts.getD i.toNat [])=([46]:List UInt8))))=false->(0<=i/\i<(parts.length:Nat)) /\
 (((parts.getD i.toNat [])=([46,46]:List UInt8)->(((l.length:Int)=(0:Int)->K ([]:List UInt8) false) /\
 (¬ ((l.length:Int)=(0:Int))->(In .i64 ((l.length:Int) - (1:Int))) /\
 (0<=(l.length:Int) - (1:Int)/\(l.length:Int) - (1:Int)<=(l.length:Nat)) /\
 J1 (l.take ((l.length:Int) - (1:Int)).toNat)))) /\
 (¬ ((parts.getD i.toNat [])=([46,46]:List UInt8))->(0<=i/\i<(parts.length:Nat)) /\
 kI (parts.getD i.toNat []) false (fun (t55:Bool) =>
 (((!t55)=true->K ([]:List UInt8) false) /\
 ((!t55)=false->(0<=i/\i<(parts.length:Nat)) /\
 ((l.length+(([parts.getD i.toNat []]:List (List UInt8))).length)*16<=140737488355328) /\
 J1 (l++([parts.getD i.toNat []]:List (List UInt8))))))))))) /\
 (∀ l2:List (List UInt8),J1 l2->(In .i64 (i+(1:Int))) /\
 kont1 l2 (i+(1:Int)))) /\
 (¬ (i<(parts.length:Int))->Zm l (fun (s:List UInt8) =>
 (((200:Int)<(s.length:Int)->K ([]:List UInt8) false) /\
 (¬ ((200:Int)<(s.length:Int))->K s true)))))) [] (0:Int))
def j4 (p:List UInt8) (K:Bool->Prop):Prop :=
 kv p (fun (t70:List UInt8) (t71:Bool) =>
 K ((t71 && (decide (t70=p))) && (!decide (p=([]:List UInt8)))))
set_option maxHeartbeats 8000000 in
theorem W_smithyref1_letter {w:World} {c:Int} {K:Bool->Prop} (H:kj c K):Fn Tryz.prog 118 ⟨[.int .u8 c]⟩ w (fun v w'=>w=w'/\∃ (r:Bool),v=.bool r/\K r):=by
 unfold kj at H
 refine Fn.enter (by kernel_rfl) Tryz.func118 rfl Tryz.ntmps118 rfl ?_
 refine zd (zb (yp (h:=(zf (za (zd (zb (yp (h:=(yp (h:=(yp (h:=(zL 3 (fun L' w'=>∃ q1:Bool,L'=[(8,.bool q1),(0,.int .u8 c)]/\((decide ((97:Int)<=c)) && (decide (c<=(122:Int))))=q1/\w=w') ?_ (fun hQ=>?_)))))))))))))))
 ·rintro _ _ ⟨q1,rfl,rfl,rfl⟩
  refine yp (h:=(zL 7 (fun L' w'=>∃ q2:Bool,L'=[(16,.bool q2),(0,.int .u8 c)]/\(((decide ((97:Int)<=c)) && (decide (c<=(122:Int)))) || ((decide ((65:Int)<=c)) && (decide (c<=(90:Int)))))=q2/\w=w') ?_ (fun hQ=>?_)))
  ·rintro _ _ ⟨q2,rfl,rfl,rfl⟩
   refine yp (h:=(zL 7 (fun L' w'=>∃ q3:Bool,L'=[(24,.bool q3),(0,.int .u8 c)]/\((((decide ((97:Int)<=c)) && (decide (c<=(122:Int)))) || ((decide ((65:Int)<=c)) && (decide (c<=(90:Int))))) || ((decide ((48:Int)<=c)) && (decide (c<=(57:Int)))))=q3/\w=w') ?_ (fun hQ=>?_)))
   ·rintro _ _ ⟨q3,rfl,rfl,rfl⟩
    refine yp (h:=(zL 3 (fun L' w'=>∃ q4:Bool,L'=[(28,.bool q4),(0,.int .u8 c)]/\(((((decide ((97:Int)<=c)) && (decide (c<=(122:Int)))) || ((decide ((65:Int)<=c)) && (decide (c<=(90:Int))))) || ((decide ((48:Int)<=c)) && (decide (c<=(57:Int))))) || (decide (c=(33:Int))))=q4/\w=w') ?_ (fun hQ=>?_)))
    ·rintro _ _ ⟨q4,rfl,rfl,rfl⟩
     refine yp (h:=(zL 3 (fun L' w'=>∃ q5:Bool,L'=[(32,.bool q5),(0,.int .u8 c)]/\((((((decide ((97:Int)<=c)) && (decide (c<=(122:Int)))) || ((decide ((65:Int)<=c)) && (decide (c<=(90:Int))))) || ((decide ((48:Int)<=c)) && (decide (c<=(57:Int))))) || (decide (c=(33:Int)))) || (decide (c=(35:Int))))=q5/\w=w') ?_ (fun hQ=>?_)))
     ·rintro _ _ ⟨q5,rfl,rfl,rfl⟩
      refine yp (h:=(zL 3 (fun L' w'=>∃ q6:Bool,L'=[(36,.bool q6),(0,.int .u8 c)]/\(((((((decide ((97:Int)<=c)) && (decide (c<=(122:Int)))) || ((decide ((65:Int)<=c)) && (decide (c<=(90:Int))))) || ((decide ((48:Int)<=c)) && (decide (c<=(57:Int))))) || (decide (c=(33:Int)))) || (decide (c=(35:Int)))) || (decide (c=(37:Int))))=q6/\w=w') ?_ (fun hQ=>?_)))
      ·rintro _ _ ⟨q6,rfl,rfl,rfl⟩
       refine yp (h:=(zL 3 (fun L' w'=>∃ q7:Bool,L'=[(40,.bool q7),(0,.int .u8 c)]/\((((((((decide ((97:Int)<=c)) && (decide (c<=(122:Int)))) || ((decide ((65:Int)<=c)) && (decide (c<=(90:Int))))) || ((decide ((48:Int)<=c)) && (decide (c<=(57:Int))))) || (decide (c=(33:Int)))) || (decide (c=(35:Int)))) || (decide (c=(37:Int)))) || (decide (c=(43:Int))))=q7/\w=w') ?_ (fun hQ=>?_)))
       ·rintro _ _ ⟨q7,rfl,rfl,rfl⟩
        refine yp (h:=(zL 3 (fun L' w'=>∃ q8:Bool,L'=[(44,.bool q8),(0,.int .u8 c)]/\(((((((((decide ((97:Int)<=c)) && (decide (c<=(122:Int)))) || ((decide ((65:Int)<=c)) && (decide (c<=(90:Int))))) || ((decide ((48:Int)<=c)) && (decide (c<=(57:Int))))) || (decide (c=(33:Int)))) || (decide (c=(35:Int)))) || (decide (c=(37:Int)))) || (decide (c=(43:Int)))) || (decide (c=(44:Int))))=q8/\w=w') ?_ (fun hQ=>?_)))
        ·rintro _ _ ⟨q8,rfl,rfl,rfl⟩
         refine yp (h:=(zL 3 (fun L' w'=>∃ q9:Bool,L'=[(48,.bool q9),(0,.int .u8 c)]/\((((((((((decide ((97:Int)<=c)) && (decide (c<=(122:Int)))) || ((decide ((65:Int)<=c)) && (decide (c<=(90:Int))))) || ((decide ((48:Int)<=c)) && (decide (c<=(57:Int))))) || (decide (c=(33:Int)))) || (decide (c=(35:Int)))) || (decide (c=(37:Int)))) || (decide (c=(43:Int)))) || (decide (c=(44:Int)))) || (decide (c=(45:Int))))=q9/\w=w') ?_ (fun hQ=>?_)))
         ·rintro _ _ ⟨q9,rfl,rfl,rfl⟩
          refine yp (h:=(zL 3 (fun L' w'=>∃ q10:Bool,L'=[(52,.bool q10),(0,.int .u8 c)]/\(((((((((((decide ((97:Int)<=c)) && (decide (c<=(122:Int)))) || ((decide ((65:Int)<=c)) && (decide (c<=(90:Int))))) || ((decide ((48:Int)<=c)) && (decide (c<=(57:Int))))) || (decide (c=(33:Int)))) || (decide (c=(35:Int)))) || (decide (c=(37:Int)))) || (decide (c=(43:Int)))) || (decide (c=(44:Int)))) || (decide (c=(45:Int)))) || (decide (c=(46:Int))))=q10/\w=w') ?_ (fun hQ=>?_)))
          ·rintro _ _ ⟨q10,rfl,rfl,rfl⟩
           refine yp (h:=(zL 3 (fun L' w'=>∃ q11:Bool,L'=[(56,.bool q11),(0,.int .u8 c)]/\((((((((((((decide ((97:Int)<=c)) && (decide (c<=(122:Int)))) || ((decide ((65:Int)<=c)) && (decide (c<=(90:Int))))) || ((decide ((48:Int)<=c)) && (decide (c<=(57:Int))))) || (decide (c=(33:Int)))) || (decide (c=(35:Int)))) || (decide (c=(37:Int)))) || (decide (c=(43:Int)))) || (decide (c=(44:Int)))) || (decide (c=(45:Int)))) || (decide (c=(46:Int)))) || (decide (c=(61:Int))))=q11/\w=w') ?_ (fun hQ=>?_)))
           ·rintro _ _ ⟨q11,rfl,rfl,rfl⟩
            refine yp (h:=(zL 3 (fun L' w'=>∃ q12:Bool,L'=[(60,.bool q12),(0,.int .u8 c)]/\(((((((((((((decide ((97:Int)<=c)) && (decide (c<=(122:Int)))) || ((decide ((65:Int)<=c)) && (decide (c<=(90:Int))))) || ((decide ((48:Int)<=c)) && (decide (c<=(57:Int))))) || (decide (c=(33:Int)))) || (decide (c=(35:Int)))) || (decide (c=(37:Int)))) || (decide (c=(43:Int)))) || (decide (c=(44:Int)))) || (decide (c=(45:Int)))) || (decide (c=(46:Int)))) || (decide (c=(61:Int)))) || (decide (c=(64:Int))))=q12/\w=w') ?_ (fun hQ=>?_)))
            ·rintro _ _ ⟨q12,rfl,rfl,rfl⟩
             refine yp (h:=(zL 3 (fun L' w'=>∃ q13:Bool,L'=[(64,.bool q13),(0,.int .u8 c)]/\((((((((((((((decide ((97:Int)<=c)) && (decide (c<=(122:Int)))) || ((decide ((65:Int)<=c)) && (decide (c<=(90:Int))))) || ((decide ((48:Int)<=c)) && (decide (c<=(57:Int))))) || (decide (c=(33:Int)))) || (decide (c=(35:Int)))) || (decide (c=(37:Int)))) || (decide (c=(43:Int)))) || (decide (c=(44:Int)))) || (decide (c=(45:Int)))) || (decide (c=(46:Int)))) || (decide (c=(61:Int)))) || (decide (c=(64:Int)))) || (decide (c=(95:Int))))=q13/\w=w') ?_ (fun hQ=>?_)))
             ·rintro _ _ ⟨q13,rfl,rfl,rfl⟩
              refine yp (h:=(zL 3 (fun L' w'=>∃ q14:Bool,L'=[(68,.bool q14)]/\(((((((((((((((decide ((97:Int)<=c)) && (decide (c<=(122:Int)))) || ((decide ((65:Int)<=c)) && (decide (c<=(90:Int))))) || ((decide ((48:Int)<=c)) && (decide (c<=(57:Int))))) || (decide (c=(33:Int)))) || (decide (c=(35:Int)))) || (decide (c=(37:Int)))) || (decide (c=(43:Int)))) || (decide (c=(44:Int)))) || (decide (c=(45:Int)))) || (decide (c=(46:Int)))) || (decide (c=(61:Int)))) || (decide (c=(64:Int)))) || (decide (c=(95:Int)))) || (decide (c=(126:Int))))=q14/\w=w') ?_ (fun hQ=>?_)))
              ·rintro _ _ ⟨q14,rfl,rfl,rfl⟩
               exact yp (h:=(zf (za (zq (zw rfl rfl ⟨rfl,((((((((((((((decide ((97:Int)<=c)) && (decide (c<=(122:Int)))) || ((decide ((65:Int)<=c)) && (decide (c<=(90:Int))))) || ((decide ((48:Int)<=c)) && (decide (c<=(57:Int))))) || (decide (c=(33:Int)))) || (decide (c=(35:Int)))) || (decide (c=(37:Int)))) || (decide (c=(43:Int)))) || (decide (c=(44:Int)))) || (decide (c=(45:Int)))) || (decide (c=(46:Int)))) || (decide (c=(61:Int)))) || (decide (c=(64:Int)))) || (decide (c=(95:Int)))) || (decide (c=(126:Int))),rfl,H⟩)))))
              ·clear H
               rcases Bool.eq_false_or_eq_true ((((((((((((((decide ((97:Int)<=c)) && (decide (c<=(122:Int)))) || ((decide ((65:Int)<=c)) && (decide (c<=(90:Int))))) || ((decide ((48:Int)<=c)) && (decide (c<=(57:Int))))) || (decide (c=(33:Int)))) || (decide (c=(35:Int)))) || (decide (c=(37:Int)))) || (decide (c=(43:Int)))) || (decide (c=(44:Int)))) || (decide (c=(45:Int)))) || (decide (c=(46:Int)))) || (decide (c=(61:Int)))) || (decide (c=(64:Int)))) || (decide (c=(95:Int)))) with b1 | b1
               ·exact gn b1 (h:=(gn b1 (h:=(zg rfl (zt (okb b1) rfl) (wk (hQ _ _ ⟨true,rfl,by rw [b1] <;> rfl,rfl⟩))))))
               ·exact gp b1 (h:=(gp b1 (h:=(zg rfl (zr (okb b1) rfl) (wk (hQ _ _ ⟨decide (c=(126:Int)),rfl,by rw [b1] <;> rfl,rfl⟩))))))
             ·clear H
              rcases Bool.eq_false_or_eq_true (((((((((((((decide ((97:Int)<=c)) && (decide (c<=(122:Int)))) || ((decide ((65:Int)<=c)) && (decide (c<=(90:Int))))) || ((decide ((48:Int)<=c)) && (decide (c<=(57:Int))))) || (decide (c=(33:Int)))) || (decide (c=(35:Int)))) || (decide (c=(37:Int)))) || (decide (c=(43:Int)))) || (decide (c=(44:Int)))) || (decide (c=(45:Int)))) || (decide (c=(46:Int)))) || (decide (c=(61:Int)))) || (decide (c=(64:Int)))) with b2 | b2
              ·exact gn b2 (h:=(gn b2 (h:=(zg rfl (zt (okb b2) rfl) (wk (hQ _ _ ⟨true,rfl,by rw [b2] <;> rfl,rfl⟩))))))
              ·exact gp b2 (h:=(gp b2 (h:=(zg rfl (zr (okb b2) rfl) (wk (hQ _ _ ⟨decide (c=(95:Int)),rfl,by rw [b2] <;> rfl,rfl⟩))))))
            ·clear H
             rcases Bool.eq_false_or_eq_true ((((((((((((decide ((97:Int)<=c)) && (decide (c<=(122:Int)))) || ((decide ((65:Int)<=c)) && (decide (c<=(90:Int))))) || ((decide ((48:Int)<=c)) && (decide (c<=(57:Int))))) || (decide (c=(33:Int)))) || (decide (c=(35:Int)))) || (decide (c=(37:Int)))) || (decide (c=(43:Int)))) || (decide (c=(44:Int)))) || (decide (c=(45:Int)))) || (decide (c=(46:Int)))) || (decide (c=(61:Int)))) with b3 | b3
             ·exact gn b3 (h:=(gn b3 (h:=(zg rfl (zt (okb b3) rfl) (wk (hQ _ _ ⟨true,rfl,by rw [b3] <;> rfl,rfl⟩))))))
             ·exact gp b3 (h:=(gp b3 (h:=(zg rfl (zr (okb b3) rfl) (wk (hQ _ _ ⟨decide (c=(64:Int)),rfl,by rw [b3] <;> rfl,rfl⟩))))))
           ·clear H
            rcases Bool.eq_false_or_eq_true (((((((((((decide ((97:Int)<=c)) && (decide (c<=(122:Int)))) || ((decide ((65:Int)<=c)) && (decide (c<=(90:Int))))) || ((decide ((48:Int)<=c)) && (decide (c<=(57:Int))))) || (decide (c=(33:Int)))) || (decide (c=(35:Int)))) || (decide (c=(37:Int)))) || (decide (c=(43:Int)))) || (decide (c=(44:Int)))) || (decide (c=(45:Int)))) || (decide (c=(46:Int)))) with b4 | b4
            ·exact gn b4 (h:=(gn b4 (h:=(zg rfl (zt (okb b4) rfl) (wk (hQ _ _ ⟨true,rfl,by rw [b4] <;> rfl,rfl⟩))))))
            ·exact gp b4 (h:=(gp b4 (h:=(zg rfl (zr (okb b4) rfl) (wk (hQ _ _ ⟨decide (c=(61:Int)),rfl,by rw [b4] <;> rfl,rfl⟩))))))
          ·clear H
           rcases Bool.eq_false_or_eq_true ((((((((((decide ((97:Int)<=c)) && (decide (c<=(122:Int)))) || ((decide ((65:Int)<=c)) && (decide (c<=(90:Int))))) || ((decide ((48:Int)<=c)) && (decide (c<=(57:Int))))) || (decide (c=(33:Int)))) || (decide (c=(35:Int)))) || (decide (c=(37:Int)))) || (decide (c=(43:Int)))) || (decide (c=(44:Int)))) || (decide (c=(45:Int)))) with b5 | b5
           ·exact gn b5 (h:=(gn b5 (h:=(zg rfl (zt (okb b5) rfl) (wk (hQ _ _ ⟨true,rfl,by rw [b5] <;> rfl,rfl⟩))))))
           ·exact gp b5 (h:=(gp b5 (h:=(zg rfl (zr (okb b5) rfl) (wk (hQ _ _ ⟨decide (c=(46:Int)),rfl,by rw [b5] <;> rfl,rfl⟩))))))
         ·clear H
          rcases Bool.eq_false_or_eq_true (((((((((decide ((97:Int)<=c)) && (decide (c<=(122:Int)))) || ((decide ((65:Int)<=c)) && (decide (c<=(90:Int))))) || ((decide ((48:Int)<=c)) && (decide (c<=(57:Int))))) || (decide (c=(33:Int)))) || (decide (c=(35:Int)))) || (decide (c=(37:Int)))) || (decide (c=(43:Int)))) || (decide (c=(44:Int)))) with b6 | b6
          ·exact gn b6 (h:=(gn b6 (h:=(zg rfl (zt (okb b6) rfl) (wk (hQ _ _ ⟨true,rfl,by rw [b6] <;> rfl,rfl⟩))))))
          ·exact gp b6 (h:=(gp b6 (h:=(zg rfl (zr (okb b6) rfl) (wk (hQ _ _ ⟨decide (c=(45:Int)),rfl,by rw [b6] <;> rfl,rfl⟩))))))
        ·clear H
         rcases Bool.eq_false_or_eq_true ((((((((decide ((97:Int)<=c)) && (decide (c<=(122:Int)))) || ((decide ((65:Int)<=c)) && (decide (c<=(90:Int))))) || ((decide ((48:Int)<=c)) && (decide (c<=(57:Int))))) || (decide (c=(33:Int)))) || (decide (c=(35:Int)))) || (decide (c=(37:Int)))) || (decide (c=(43:Int)))) with b7 | b7
         ·exact gn b7 (h:=(gn b7 (h:=(zg rfl (zt (okb b7) rfl) (wk (hQ _ _ ⟨true,rfl,by rw [b7] <;> rfl,rfl⟩))))))
         ·exact gp b7 (h:=(gp b7 (h:=(zg rfl (zr (okb b7) rfl) (wk (hQ _ _ ⟨decide (c=(44:Int)),rfl,by rw [b7] <;> rfl,rfl⟩))))))
       ·clear H
        rcases Bool.eq_false_or_eq_true (((((((decide ((97:Int)<=c)) && (decide (c<=(122:Int)))) || ((decide ((65:Int)<=c)) && (decide (c<=(90:Int))))) || ((decide ((48:Int)<=c)) && (decide (c<=(57:Int))))) || (decide (c=(33:Int)))) || (decide (c=(35:Int)))) || (decide (c=(37:Int)))) with b8 | b8
        ·exact gn b8 (h:=(gn b8 (h:=(zg rfl (zt (okb b8) rfl) (wk (hQ _ _ ⟨true,rfl,by rw [b8] <;> rfl,rfl⟩))))))
        ·exact gp b8 (h:=(gp b8 (h:=(zg rfl (zr (okb b8) rfl) (wk (hQ _ _ ⟨decide (c=(43:Int)),rfl,by rw [b8] <;> rfl,rfl⟩))))))
      ·clear H
       rcases Bool.eq_false_or_eq_true ((((((decide ((97:Int)<=c)) && (decide (c<=(122:Int)))) || ((decide ((65:Int)<=c)) && (decide (c<=(90:Int))))) || ((decide ((48:Int)<=c)) && (decide (c<=(57:Int))))) || (decide (c=(33:Int)))) || (decide (c=(35:Int)))) with b9 | b9
       ·exact gn b9 (h:=(gn b9 (h:=(zg rfl (zt (okb b9) rfl) (wk (hQ _ _ ⟨true,rfl,by rw [b9] <;> rfl,rfl⟩))))))
       ·exact gp b9 (h:=(gp b9 (h:=(zg rfl (zr (okb b9) rfl) (wk (hQ _ _ ⟨decide (c=(37:Int)),rfl,by rw [b9] <;> rfl,rfl⟩))))))
     ·clear H
      rcases Bool.eq_false_or_eq_true (((((decide ((97:Int)<=c)) && (decide (c<=(122:Int)))) || ((decide ((65:Int)<=c)) && (decide (c<=(90:Int))))) || ((decide ((48:Int)<=c)) && (decide (c<=(57:Int))))) || (decide (c=(33:Int)))) with b10 | b10
      ·exact gn b10 (h:=(gn b10 (h:=(zg rfl (zt (okb b10) rfl) (wk (hQ _ _ ⟨true,rfl,by rw [b10] <;> rfl,rfl⟩))))))
      ·exact gp b10 (h:=(gp b10 (h:=(zg rfl (zr (okb b10) rfl) (wk (hQ _ _ ⟨decide (c=(35:Int)),rfl,by rw [b10] <;> rfl,rfl⟩))))))
    ·clear H
     rcases Bool.eq_false_or_eq_true ((((decide ((97:Int)<=c)) && (decide (c<=(122:Int)))) || ((decide ((65:Int)<=c)) && (decide (c<=(90:Int))))) || ((decide ((48:Int)<=c)) && (decide (c<=(57:Int))))) with b11 | b11
     ·exact gn b11 (h:=(gn b11 (h:=(zg rfl (zt (okb b11) rfl) (wk (hQ _ _ ⟨true,rfl,by rw [b11] <;> rfl,rfl⟩))))))
     ·exact gp b11 (h:=(gp b11 (h:=(zg rfl (zr (okb b11) rfl) (wk (hQ _ _ ⟨decide (c=(33:Int)),rfl,by rw [b11] <;> rfl,rfl⟩))))))
   ·clear H
    rcases Bool.eq_false_or_eq_true (((decide ((97:Int)<=c)) && (decide (c<=(122:Int)))) || ((decide ((65:Int)<=c)) && (decide (c<=(90:Int))))) with b12 | b12
    ·exact gn b12 (h:=(gn b12 (h:=(gn b12 (h:=(qo rfl rfl rfl rfl (qo rfl rfl rfl rfl (gn b12 (h:=(zg rfl (zt (okb b12) rfl) (wk (hQ _ _ ⟨true,rfl,by rw [b12] <;> rfl,rfl⟩))))))))))))
    ·refine gp b12 (h:=(gp b12 (h:=(gp b12 (h:=?_)))))
     rcases Bool.eq_false_or_eq_true (decide ((48:Int)<=c)) with b13 | b13
     ·exact gp b13 (h:=(gp b13 (h:=(ze rfl rfl (okb b12) rfl (zt (okb b13) rfl) (zg rfl (zr (okb b12) rfl) (wk (hQ _ _ ⟨decide (c<=(57:Int)),rfl,by rw [b12,b13] <;> rfl,rfl⟩)))))))
     ·exact gn b13 (h:=(gn b13 (h:=(ze rfl rfl (okb b12) rfl (zr (okb b13) rfl) (zg rfl (zr (okb b12) rfl) (wk (hQ _ _ ⟨false,rfl,by rw [b12,b13] <;> rfl,rfl⟩)))))))
  ·clear H
   rcases Bool.eq_false_or_eq_true ((decide ((97:Int)<=c)) && (decide (c<=(122:Int)))) with b14 | b14
   ·exact gn b14 (h:=(gn b14 (h:=(gn b14 (h:=(qo rfl rfl rfl rfl (qo rfl rfl rfl rfl (gn b14 (h:=(zg rfl (zt (okb b14) rfl) (wk (hQ _ _ ⟨true,rfl,by rw [b14] <;> rfl,rfl⟩))))))))))))
   ·refine gp b14 (h:=(gp b14 (h:=(gp b14 (h:=?_)))))
    rcases Bool.eq_false_or_eq_true (decide ((65:Int)<=c)) with b15 | b15
    ·exact gp b15 (h:=(gp b15 (h:=(ze rfl rfl (okb b14) rfl (zt (okb b15) rfl) (zg rfl (zr (okb b14) rfl) (wk (hQ _ _ ⟨decide (c<=(90:Int)),rfl,by rw [b14,b15] <;> rfl,rfl⟩)))))))
    ·exact gn b15 (h:=(gn b15 (h:=(ze rfl rfl (okb b14) rfl (zr (okb b15) rfl) (zg rfl (zr (okb b14) rfl) (wk (hQ _ _ ⟨false,rfl,by rw [b14,b15] <;> rfl,rfl⟩)))))))
 ·clear H
  rcases Bool.eq_false_or_eq_true (decide ((97:Int)<=c)) with b16 | b16
  ·exact gp b16 (h:=(gp b16 (h:=(zg rfl (zt (okb b16) rfl) (wk (hQ _ _ ⟨decide (c<=(122:Int)),rfl,by rw [b16] <;> rfl,rfl⟩))))))
  ·exact gn b16 (h:=(gn b16 (h:=(zg rfl (zr (okb b16) rfl) (wk (hQ _ _ ⟨false,rfl,by rw [b16] <;> rfl,rfl⟩))))))
set_option maxHeartbeats 8000000 in
theorem W_smithyref1_Parts {w:World} {p:List UInt8} {K:(List (List UInt8))->Prop} (H:kw p K):Fn Tryz.prog 93 ⟨[vs p]⟩ w (fun v w'=>w.grownBy w' none/\∃ (r:List (List UInt8)),∃ (A_r:Option Addr),∃ (c_r:Nat),v=.slice A_r r.length c_r/\Own vs w' w.heap.size 9 A_r c_r r/\K r):=by
 unfold kw at H
 refine Fn.enter (by kernel_rfl) Tryz.func93 rfl Tryz.ntmps93 rfl ?_
 refine zd (zb (yp (h:=(zf (za (zd (zb (yp (h:=(zf (za (zd (zb (yp (h:=(zf (za (zd (zd (zb (yp (h:=(zf (za (WC.block ?_)))))))))))))))))))))))))
 obtain ⟨I1,mu1,a2,HR1⟩:=H
 refine zW (fun n' L' w'=>∃ (out:List (List UInt8)),∃ (a3:Option Addr),∃ (a4:Nat),∃ (a9:Nat),∃ (from_:Int),∃ (i:Int),n'=mu1 out from_ i/\L'=[(0,vs p),(3,.slice a3 a9 a4),(4,.int .i64 from_),(5,.int .i64 i)]/\I1 out from_ i/\a9=out.length/\w.grownBy w' none/\Own vs w' w.heap.size 9 a3 a4 out) _ _ ⟨[],none,0,0,(0:Int),(0:Int),rfl,rfl,a2,rfl,(jr _ _),(Own.nil vs w w.heap.size 9)⟩ sb ?_
 clear a2
 rintro _ _ w1 ⟨out,a3,a4,a9,from_,i,rfl,rfl,hI1,rfl,gr1,k1⟩
 have H:=HR1 out from_ i hI1
 refine zd (zd (zb (yp (h:=(yp (h:=(yp (h:=(yp (h:=(zf (za (zp rfl (fun b1=>?_) (fun b1=>?_))))))))))))))
 ·replace H:=H.1 (of_decide_eq_true b1)
  refine zo (za (zd ?_))
  obtain ⟨J1,H,hJ1⟩:=H
  refine qd (fun L' w'=>∃ (out2:List (List UInt8)),∃ (a5:Option Addr),∃ (a6:Nat),∃ (a7:Nat),∃ (from_2:Int),L'=[(0,vs p),(3,.slice a5 a7 a6),(4,.int .i64 from_2),(5,.int .i64 i)]/\J1 out2 from_2/\a7=out2.length/\w.grownBy w' none/\Own vs w' w.heap.size 9 a5 a6 out2) ?_ (fun hQ=>?_)
  ·clear H
   rintro _ w2 ⟨out2,a5,a6,a7,from_2,rfl,H,rfl,gr2,k2⟩
   replace H:=hJ1 out2 from_2 H
   refine za (zb (yp (h:=?_)))
   obtain ⟨h1,H⟩:=H
   exact zg rfl (Yld.add rfl rfl h1) (yp (h:=(zf (zS _ ⟨out2,a5,a6,out2.length,from_2,i+(1:Int),rfl,rfl,H.1,rfl,gr2,k2⟩ sb H.2))))
  ·clear hJ1
   refine WC.block (zd (zb (yp (h:=(yp (h:=(yp (h:=(yp (h:=(yp (h:=?_))))))))))))
   obtain ⟨h2,H⟩:=H
   refine zL 5 (fun L' w'=>∃ q1:Bool,L'=[(21,.bool q1),(0,vs p),(3,.slice a3 out.length a4),(4,.int .i64 from_),(5,.int .i64 i)]/\((decide (i=(p.length:Int))) || (decide (((p.getD i.toNat 0).toNat:Int)=(47:Int))))=q1/\w1=w') ?_ (fun hQ=>?_)
   ·rintro _ _ ⟨q1,rfl,rfl,rfl⟩
    refine zf (za (zp rfl (fun b2=>?_) (fun b2=>?_)))
    ·replace H:=H.1 (b2)
     refine zd (zb (yp (h:=(yp (h:=(yp (h:=(yp (h:=?_)))))))))
     obtain ⟨h3,H⟩:=H
     refine zg rfl (qB qY rfl rfl rfl rfl h3.1 h3.2.1 h3.2.2) (qD qY rfl rfl rfl (jd rfl kg) rfl (by omega) (fun g1 w3 hB1 hg1 hl1=>?_))
     have hO1:Own vs w3 w.heap.size 9 (some ⟨g1,0,none⟩) 1 ([(p.drop from_.toNat).take (i.toNat - from_.toNat)]:List (List UInt8)):=Own.ofBl hB1 (Nat.le_trans (qZ gr1) hl1) (by simp [maxLen]) rfl
     have gr3:=ja gr1 hg1
     have k3:=k1.grown hg1
     obtain ⟨h4,H⟩:=H
     refine qp qY rfl rfl One.s k3 rfl rfl hO1.rd rfl rfl h4 (kF h4) (qZ gr3) (fun c0 c1 w4 hO2 hg2 hk1=>yp (h:=(zf (za (zb (yp (h:=?_)))))))
     obtain ⟨h5,H⟩:=H
     exact zg rfl (Yld.add rfl rfl h5) (yp (h:=(zf (zi (WX.weaken sb (hQ _ _ ⟨out++([(p.drop from_.toNat).take (i.toNat - from_.toNat)]:List (List UInt8)),c0,c1,(out++([(p.drop from_.toNat).take (i.toNat - from_.toNat)]:List (List UInt8))).length,i+(1:Int),rfl,H,rfl,(jk gr3 hg2 k3.ge'),hO2⟩))))))
    ·replace H:=H.2 (b2)
     exact zo (zi (WX.weaken sb (hQ _ _ ⟨out,a3,a4,out.length,from_,rfl,H,rfl,gr1,k1⟩)))
   ·clear H
    rcases Bool.eq_false_or_eq_true (decide (i=(p.length:Int))) with b3 | b3
    ·exact gn b3 (h:=(gn b3 (h:=(gn b3 (h:=(gn b3 (h:=(zg rfl (zt (okb b3) rfl) (wk (hQ _ _ ⟨true,rfl,by rw [b3] <;> rfl,rfl⟩))))))))))
    ·exact gp b3 (h:=(gp b3 (h:=(ze rfl rfl (okb b3) rfl (qF qY rfl rfl rfl (h2 b3).1 (h2 b3).2) (gp b3 (h:=(zg rfl (zr (okb b3) rfl) (wk (hQ _ _ ⟨decide (((p.getD i.toNat 0).toNat:Int)=(47:Int)),rfl,by rw [b3] <;> rfl,rfl⟩)))))))))
 ·replace H:=H.2 (of_decide_eq_false b1)
  exact zD (zj (zj (zm (za (zd (zb (yp (h:=(yp (h:=(zf (za (zq (zw rfl rfl ⟨gr1,out,a3,a4,rfl,k1,H⟩))))))))))))))
set_option maxHeartbeats 8000000 in
theorem W_smithyref1_glue {w:World} {l:List (List UInt8)} {A_l:Option Addr} {c_l:Nat} {n_l:Nat} {K:(List UInt8)->Prop} (hl:Rd vs w A_l c_l l) (c5:n_l=l.length) (H:Zm l K):Fn Tryz.prog 95 ⟨[.slice A_l n_l c_l]⟩ w (fun v w'=>w=w'/\∃ (r:List UInt8),v=vs r/\K r):=by
 subst c5
 unfold Zm at H
 refine Fn.enter (by kernel_rfl) Tryz.func95 rfl Tryz.ntmps95 rfl ?_
 replace H:=H (Nat.le_trans hl.cap hl.max)
 refine zd (zb (yp (h:=(zf (za (zd (zb (yp (h:=(zf (za (zd (zd (zb (yp (h:=(zf (za (WC.block ?_)))))))))))))))))))
 obtain ⟨I1,mu1,a2,HR1⟩:=H
 refine zW (fun n' L' w'=>∃ (s:List UInt8),∃ (i:Int),n'=mu1 s i/\L'=[(0,.slice A_l l.length c_l),(3,vs s),(4,.int .i64 i)]/\I1 s i/\w=w') _ _ ⟨([]:List UInt8),(0:Int),rfl,rfl,a2,rfl⟩ sb ?_
 clear a2
 rintro _ _ _ ⟨s,i,rfl,rfl,hI1,rfl⟩
 have H:=HR1 s i hI1
 refine zd (zd (zb (yp (h:=(yp (h:=(yp (h:=(yp (h:=(zf (za (zp rfl (fun b1=>?_) (fun b1=>?_))))))))))))))
 ·replace H:=H.1 (of_decide_eq_true b1)
  refine zo (za (zd (WC.block (zd ?_))))
  obtain ⟨J1,H,hJ1⟩:=H
  refine qd (fun L' w'=>∃ (s2:List UInt8),L'=[(0,.slice A_l l.length c_l),(3,vs s2),(4,.int .i64 i)]/\J1 s2/\w=w') ?_ (fun hQ=>?_)
  ·clear H
   rintro _ _ ⟨s2,rfl,H,rfl⟩
   replace H:=hJ1 s2 H
   refine za (zb (yp (h:=(yp (h:=(yp (h:=?_)))))))
   obtain ⟨h1,H⟩:=H
   refine zg rfl (zK qY hl rfl rfl rfl rfl h1.1 h1.2) (zg rfl (zN [] qY hl rfl rfl (iltN h1 rfl)) ?_)
   obtain ⟨h2,H⟩:=H
   refine zg rfl (qn rfl rfl h2) (yp (h:=(zf (zi (za (zb (yp (h:=?_))))))))
   obtain ⟨h3,H⟩:=H
   exact zg rfl (Yld.add rfl rfl h3) (yp (h:=(zf (zS _ ⟨s2++(l.getD i.toNat []),i+(1:Int),rfl,rfl,H.1,rfl⟩ sb H.2))))
  ·clear hJ1
   refine zd (zb (yp (h:=(yp (h:=(zf (za (zp rfl (fun b2=>?_) (fun b2=>?_)))))))))
   ·replace H:=H.1 (of_decide_eq_true b2)
    refine zb (yp (h:=?_))
    obtain ⟨h4,H⟩:=H
    exact zg rfl (qn rfl rfl h4) (yp (h:=(zf (WX.weaken sb (hQ _ _ ⟨s++([47]:List UInt8),rfl,H,rfl⟩)))))
   ·replace H:=H.2 (of_decide_eq_false b2)
    exact zo (WX.weaken sb (hQ _ _ ⟨s,rfl,H,rfl⟩))
 ·replace H:=H.2 (of_decide_eq_false b1)
  exact zD (zj (zj (zm (za (zd (zb (yp (h:=(yp (h:=(zf (za (zq (zw rfl rfl ⟨rfl,s,rfl,H⟩))))))))))))))
set_option maxHeartbeats 8000000 in
theorem W_smithyref1_part {w:World} {s:List UInt8} {star:Bool} {K:Bool->Prop} (H:kI s star K):Fn Tryz.prog 94 ⟨[vs s,.bool star]⟩ w (fun v w'=>w=w'/\∃ (r:Bool),v=.bool r/\K r):=by
 unfold kI at H
 refine Fn.enter (by kernel_rfl) Tryz.func94 rfl Tryz.ntmps94 rfl ?_
 refine zd (zb (yp (h:=(zf (za (zd (zd (zb (yp (h:=(zf (za (WC.block ?_)))))))))))))
 obtain ⟨I1,mu1,a2,HR1⟩:=H
 refine zW (fun n' L' w'=>∃ (i:Int),n'=mu1 i/\L'=[(0,vs s),(1,.bool star),(5,.int .i64 i)]/\I1 i/\w=w') _ _ ⟨(0:Int),rfl,rfl,a2,rfl⟩ sb ?_
 clear a2
 rintro _ _ _ ⟨i,rfl,rfl,hI1,rfl⟩
 have H:=HR1 i hI1
 refine zd (zd (zb (yp (h:=(yp (h:=(yp (h:=(yp (h:=(zf (za (zp rfl (fun b1=>?_) (fun b1=>?_))))))))))))))
 ·replace H:=H.1 (of_decide_eq_true b1)
  refine zo (za (zd (WC.block (zd (zb (yp (h:=(yp (h:=?_)))))))))
  obtain ⟨h1,H⟩:=H
  refine zg rfl (qF qY rfl rfl rfl h1.1 h1.2) (WL.call rfl rfl (W_smithyref1_letter H) ?_)
  rintro _ _ ⟨rfl,t15,rfl,H⟩
  refine yp (h:=(yp (h:=?_)))
  obtain ⟨h2,H⟩:=H
  refine zL 9 (fun L' w'=>∃ q1:Bool,L'=[(26,.bool q1),(0,vs s),(1,.bool star),(5,.int .i64 i)]/\((!t15) && (!(star && (decide (((s.getD i.toNat 0).toNat:Int)=(42:Int))))))=q1/\w=w') ?_ (fun hQ=>?_)
  ·rintro _ _ ⟨q1,rfl,rfl,rfl⟩
   refine zf (za (zp rfl (fun b2=>?_) (fun b2=>?_)))
   ·replace H:=H.1 (b2)
    exact zd (zb (yp (h:=(zf (za (zq (zn (zh (zh (zn (zh (zw rfl rfl ⟨rfl,false,rfl,H⟩))))))))))))
   ·replace H:=H.2 (b2)
    refine zo (zi (za (zb (yp (h:=?_)))))
    obtain ⟨h3,H⟩:=H
    exact zg rfl (Yld.add rfl rfl h3) (yp (h:=(zf (zS _ ⟨i+(1:Int),rfl,rfl,H.1,rfl⟩ sb H.2))))
  ·clear H
   rcases Bool.eq_false_or_eq_true (!t15) with b3 | b3
   ·refine gp b3 (h:=(gp b3 (h:=?_)))
    rcases Bool.eq_false_or_eq_true (star) with b4 | b4
    ·exact gp b4 (h:=(gp b4 (h:=(ze rfl rfl (okb b4) rfl (qF qY rfl rfl rfl (h2 b3 b4).1 (h2 b3 b4).2) (gp b4 (h:=(ze rfl rfl (okb b3) rfl (zt (okb b4) rfl) (gp b3 (h:=(zg rfl (zt (okb b3) rfl) (wk (hQ _ _ ⟨!decide (((s.getD i.toNat 0).toNat:Int)=(42:Int)),rfl,by rw [b3,b4] <;> rfl,rfl⟩))))))))))))
    ·exact gn b4 (h:=(gn b4 (h:=(gn b4 (h:=(gn b4 (h:=(ze rfl rfl (okb b3) rfl (zr (okb b4) rfl) (gp b3 (h:=(zg rfl (zt (okb b3) rfl) (wk (hQ _ _ ⟨true,rfl,by rw [b3,b4] <;> rfl,rfl⟩)))))))))))))
   ·exact gn b3 (h:=(gn b3 (h:=(qo rfl rfl rfl rfl (qo rfl rfl rfl rfl (qo rfl rfl rfl rfl (qo rfl rfl rfl rfl (gn b3 (h:=(gn b3 (h:=(zg rfl (zr (okb b3) rfl) (wk (hQ _ _ ⟨false,rfl,by rw [b3] <;> rfl,rfl⟩))))))))))))))
 ·replace H:=H.2 (of_decide_eq_false b1)
  refine zD (zj (zj (zm (za (zd (zb (yp (h:=(yp (h:=(yp (h:=(zL 3 (fun L' w'=>∃ q2:Bool,L'=[(32,.bool q2),(0,vs s)]/\((!decide (s=([]:List UInt8))) && (!decide (s=([46]:List UInt8))))=q2/\w=w') ?_ (fun hQ=>?_))))))))))))))
  ·rintro _ _ ⟨q2,rfl,rfl,rfl⟩
   refine yp (h:=(zL 3 (fun L' w'=>∃ q3:Bool,L'=[(36,.bool q3)]/\(((!decide (s=([]:List UInt8))) && (!decide (s=([46]:List UInt8)))) && (!decide (s=([46,46]:List UInt8))))=q3/\w=w') ?_ (fun hQ=>?_)))
   ·rintro _ _ ⟨q3,rfl,rfl,rfl⟩
    exact yp (h:=(zf (za (zq (zw rfl rfl ⟨rfl,((!decide (s=([]:List UInt8))) && (!decide (s=([46]:List UInt8)))) && (!decide (s=([46,46]:List UInt8))),rfl,H⟩)))))
   ·clear H
    rcases Bool.eq_false_or_eq_true ((!decide (s=([]:List UInt8))) && (!decide (s=([46]:List UInt8)))) with b5 | b5
    ·exact gp b5 (h:=(gp b5 (h:=(zg rfl (zt (okb b5) rfl) (wk (hQ _ _ ⟨!decide (s=([46,46]:List UInt8)),rfl,by rw [b5] <;> rfl,rfl⟩))))))
    ·exact gn b5 (h:=(gn b5 (h:=(zg rfl (zr (okb b5) rfl) (wk (hQ _ _ ⟨false,rfl,by rw [b5] <;> rfl,rfl⟩))))))
  ·clear H
   rcases Bool.eq_false_or_eq_true (!decide (s=([]:List UInt8))) with b6 | b6
   ·exact gp b6 (h:=(gp b6 (h:=(zg rfl (zt (okb b6) rfl) (wk (hQ _ _ ⟨!decide (s=([46]:List UInt8)),rfl,by rw [b6] <;> rfl,rfl⟩))))))
   ·exact gn b6 (h:=(gn b6 (h:=(zg rfl (zr (okb b6) rfl) (wk (hQ _ _ ⟨false,rfl,by rw [b6] <;> rfl,rfl⟩))))))
set_option maxHeartbeats 8000000 in
theorem W_smithyref1_Clean {w:World} {p:List UInt8} {K:(List UInt8)->Bool->Prop} (H:kv p K):Fn Tryz.prog 71 ⟨[vs p]⟩ w (fun v w'=>w.grownBy w' none/\∃ (r0:List UInt8),∃ (r1:Bool),v=.tuple #[vs r0,.bool r1]/\K r0 r1):=by
 unfold kv at H
 refine Fn.enter (by kernel_rfl) Tryz.func71 rfl Tryz.ntmps71 rfl ?_
 refine zd (zb (yp (h:=(yp (h:=(zf (za (zd (zb (yp (h:=(zf (za (zd (zb (yp (h:=(WL.call rfl rfl (W_smithyref1_Parts H) ?_))))))))))))))))))
 rintro _ w1 ⟨hg1,parts,a0,a1,rfl,hparts,H⟩
 have hb1:=hparts.ge'
 refine yp (h:=(zf (za (zd (zd (zb (yp (h:=(zf (za (WC.block ?_)))))))))))
 obtain ⟨I1,mu1,a2,HR1⟩:=H
 refine zW (fun n' L' w'=>∃ (l:List (List UInt8)),∃ (A_l:Option Addr),∃ (c_l:Nat),∃ (n_l:Nat),∃ (i:Int),n'=mu1 l i/\L'=[(4,.slice A_l n_l c_l),(5,.slice a0 parts.length a1),(6,.int .i64 i)]/\I1 l i/\n_l=l.length/\w.grownBy w' none/\Own vs w' w.heap.size 9 a0 a1 parts/\Own vs w' w.heap.size 9 A_l c_l l/\Dj (blk a0) (blk A_l)) _ _ ⟨[],none,0,0,(0:Int),rfl,rfl,a2,rfl,hg1,(hparts.base (fun g hg=>Nat.le_trans (Nat.le_refl _) (hb1 g hg))),(Own.nil vs w1 w.heap.size 9),Dj.nr⟩ sb ?_
 clear a2
 rintro _ _ w2 ⟨l,A_l,c_l,n_l,i,rfl,rfl,hI1,rfl,gr2,k2,k3,dj1⟩
 have H:=HR1 l i hI1
 refine zd (zd (zb (yp (h:=(yp (h:=(yp (h:=(yp (h:=(zf (za (zp rfl (fun b1=>?_) (fun b1=>?_))))))))))))))
 ·replace H:=H.1 (of_decide_eq_true b1)
  refine zo (za (zd ?_))
  obtain ⟨J1,H,hJ1⟩:=H
  refine qd (fun L' w'=>∃ (l2:List (List UInt8)),∃ (a8:Option Addr),∃ (b0:Nat),∃ (c2:Nat),L'=[(4,.slice a8 c2 b0),(5,.slice a0 parts.length a1),(6,.int .i64 i)]/\J1 l2/\c2=l2.length/\w.grownBy w' none/\Own vs w' w.heap.size 9 a0 a1 parts/\Own vs w' w.heap.size 9 a8 b0 l2/\Dj (blk a0) (blk a8)) ?_ (fun hQ=>?_)
  ·clear H
   rintro _ w3 ⟨l2,a8,b0,c2,rfl,H,rfl,gr3,k4,k5,dj2⟩
   replace H:=hJ1 l2 H
   refine za (zb (yp (h:=?_)))
   obtain ⟨h1,H⟩:=H
   exact zg rfl (Yld.add rfl rfl h1) (yp (h:=(zf (zS _ ⟨l2,a8,b0,l2.length,i+(1:Int),rfl,rfl,H.1,rfl,gr3,k4,k5,dj2⟩ sb H.2))))
  ·clear hJ1
   refine WC.block (WC.block (zd (zb (yp (h:=(yp (h:=?_)))))))
   obtain ⟨h2,H⟩:=H
   refine zg rfl (zK qY k2.rd rfl rfl rfl rfl h2.1 h2.2) (zg rfl (zN [] qY k2.rd rfl rfl (iltN h2 rfl)) (yp (h:=(yp (h:=?_)))))
   obtain ⟨h3,H⟩:=H
   refine zL 6 (fun L' w'=>∃ q1:Bool,L'=[(35,.bool q1),(4,.slice A_l l.length c_l),(5,.slice a0 parts.length a1),(6,.int .i64 i)]/\((decide ((parts.getD i.toNat [])=([]:List UInt8))) || (decide ((parts.getD i.toNat [])=([46]:List UInt8))))=q1/\w2=w') ?_ (fun hQ=>?_)
   ·rintro _ _ ⟨q1,rfl,rfl,rfl⟩
    refine yp (h:=(zf (za (zp rfl (fun b2=>?_) (fun b2=>?_)))))
    ·replace H:=H.1 (b2)
     exact zo (zi (zi (WX.weaken sb (hQ _ _ ⟨l,A_l,c_l,l.length,rfl,H,rfl,gr2,k2,k3,dj1⟩))))
    ·replace H:=H.2 (b2)
     refine zd (zb (yp (h:=(yp (h:=?_)))))
     obtain ⟨h4,H⟩:=H
     refine zg rfl (zK qY k2.rd rfl rfl rfl rfl h4.1 h4.2) (zg rfl (zN [] qY k2.rd rfl rfl (iltN h4 rfl)) (yp (h:=(yp (h:=(zf (za (zp rfl (fun b3=>?_) (fun b3=>?_)))))))))
     ·replace H:=H.1 (of_decide_eq_true b3)
      refine zd (zd (zb (yp (h:=(yp (h:=(yp (h:=(zf (za (zp rfl (fun b4=>?_) (fun b4=>?_))))))))))))
      ·replace H:=H.1 (of_decide_eq_true b4)
       exact zd (zb (yp (h:=(yp (h:=(zf (za (zq (zh (zn (zn (zh (zh (zn (zh (qg rfl rfl rfl ⟨gr2,([]:List UInt8),false,rfl,H⟩))))))))))))))))
      ·replace H:=H.2 (of_decide_eq_false b4)
       refine zo (za (zb (yp (h:=(yp (h:=(yp (h:=?_))))))))
       obtain ⟨h5,H⟩:=H
       refine zg rfl (Yld.sub rfl rfl h5) ?_
       obtain ⟨h6,H⟩:=H
       exact WL.ocut qY rfl rfl k3 rfl rfl rfl rfl h6.1 h6.2 (fun hO1=>yp (h:=(zf (zi (zi (WX.weaken sb (hQ _ _ ⟨l.take ((l.length:Int) - (1:Int)).toNat,A_l,c_l,(l.take ((l.length:Int) - (1:Int)).toNat).length,rfl,H,rfl,gr2,k2,hO1,dj1⟩)))))))
     ·replace H:=H.2 (of_decide_eq_false b3)
      refine zd (zb (yp (h:=(yp (h:=?_)))))
      obtain ⟨h7,H⟩:=H
      refine zg rfl (zK qY k2.rd rfl rfl rfl rfl h7.1 h7.2) (zg rfl (zN [] qY k2.rd rfl rfl (iltN h7 rfl)) (WL.call rfl rfl (W_smithyref1_part H) ?_))
      rintro _ _ ⟨rfl,t55,rfl,H⟩
      refine yp (h:=(yp (h:=(zf (za (zp rfl (fun b5=>?_) (fun b5=>?_)))))))
      ·replace H:=H.1 (b5)
       exact zd (zb (yp (h:=(yp (h:=(zf (za (zq (zn (zn (zh (zh (zn (zh (qg rfl rfl rfl ⟨gr2,([]:List UInt8),false,rfl,H⟩)))))))))))))))
      ·replace H:=H.2 (b5)
       refine zb (yp (h:=(yp (h:=(yp (h:=?_))))))
       obtain ⟨h8,H⟩:=H
       refine zg rfl (zK qY k2.rd rfl rfl rfl rfl h8.1 h8.2) (zg rfl (zN [] qY k2.rd rfl rfl (iltN h8 rfl)) (qD qY rfl rfl rfl (jd rfl kg) rfl (by omega) (fun g1 w4 hB1 hg2 hl1=>?_)))
       have hO2:Own vs w4 w.heap.size 9 (some ⟨g1,0,none⟩) 1 ([parts.getD i.toNat []]:List (List UInt8)):=Own.ofBl hB1 (Nat.le_trans (qZ gr2) hl1) (by simp [maxLen]) rfl
       have gr4:=ja gr2 hg2
       have k6:=k2.grown hg2
       have k7:=k3.grown hg2
       obtain ⟨h9,H⟩:=H
       exact qp qY rfl rfl One.s k7 rfl rfl hO2.rd rfl rfl h9 (kF h9) (qZ gr4) (fun c3 c4 w5 hO3 hg3 hk1=>yp (h:=(zf (zi (zi (WX.weaken sb (hQ _ _ ⟨l++([parts.getD i.toNat []]:List (List UInt8)),c3,c4,(l++([parts.getD i.toNat []]:List (List UInt8))).length,rfl,H,rfl,(jk gr4 hg3 k7.ge'),(k6.go hg3 dj1),hO3,(Dj.app dj1.symm k6.lt' hk1).symm⟩)))))))
   ·clear H
    rcases Bool.eq_false_or_eq_true (decide ((parts.getD i.toNat [])=([]:List UInt8))) with b6 | b6
    ·exact gn b6 (h:=(gn b6 (h:=(gn b6 (h:=(gn b6 (h:=(gn b6 (h:=(zg rfl (zt (okb b6) rfl) (wk (hQ _ _ ⟨true,rfl,by rw [b6] <;> rfl,rfl⟩))))))))))))
    ·exact gp b6 (h:=(gp b6 (h:=(ze rfl rfl (okb b6) rfl (zK qY k2.rd rfl rfl rfl rfl (h3 b6).1 (h3 b6).2) (ze rfl rfl (okb b6) rfl (zN [] qY k2.rd rfl rfl (iltN (h3 b6) rfl)) (gp b6 (h:=(zg rfl (zr (okb b6) rfl) (wk (hQ _ _ ⟨decide ((parts.getD i.toNat [])=([46]:List UInt8)),rfl,by rw [b6] <;> rfl,rfl⟩))))))))))
 ·replace H:=H.2 (of_decide_eq_false b1)
  refine zD (zj (zj (zm (za (zd (zb (yp (h:=(WL.call rfl rfl (W_smithyref1_glue k3.rd rfl H) ?_)))))))))
  rintro _ _ ⟨rfl,s,rfl,H⟩
  refine yp (h:=(zf (za (zd (zd (zb (yp (h:=(yp (h:=(yp (h:=(zf (za (zp rfl (fun b7=>?_) (fun b7=>?_))))))))))))))))
  ·replace H:=H.1 (of_decide_eq_true b7)
   exact zd (zb (yp (h:=(yp (h:=(zf (za (zq (zh (qg rfl rfl rfl ⟨gr2,([]:List UInt8),false,rfl,H⟩))))))))))
  ·replace H:=H.2 (of_decide_eq_false b7)
   exact zo (za (zd (zb (yp (h:=(yp (h:=(yp (h:=(zf (za (zq (qg rfl rfl rfl ⟨gr2,s,true,rfl,H⟩)))))))))))))
set_option maxHeartbeats 8000000 in
theorem ZF {w:World} {p:List UInt8} {K:Bool->Prop} (H:j4 p K):Fn Tryz.prog 38 ⟨[vs p]⟩ w (fun v w'=>w.grownBy w' none/\∃ (r:Bool),v=.bool r/\K r):=by
 unfold j4 at H
 refine Fn.enter (by kernel_rfl) Tryz.func38 rfl Tryz.ntmps38 rfl ?_
 refine zd (zb (yp (h:=(zf (za (zd (zb (yp (h:=(WL.call rfl rfl (W_smithyref1_Clean H) ?_))))))))))
 rintro _ w1 ⟨hg1,t70,t71,rfl,H⟩
 refine yp (h:=(yp (h:=(yp (h:=(yp (h:=(yp (h:=(zf (za (zd (zb (yp (h:=(yp (h:=(zL 4 (fun L' w'=>∃ q1:Bool,L'=[(15,.bool q1),(0,vs p)]/\(t71 && (decide (t70=p)))=q1/\w1=w') ?_ (fun hQ=>?_)))))))))))))))))))
 ·rintro _ _ ⟨q1,rfl,rfl,rfl⟩
  refine yp (h:=(zL 3 (fun L' w'=>∃ q2:Bool,L'=[(19,.bool q2)]/\((t71 && (decide (t70=p))) && (!decide (p=([]:List UInt8))))=q2/\w1=w') ?_ (fun hQ=>?_)))
  ·rintro _ _ ⟨q2,rfl,rfl,rfl⟩
   exact yp (h:=(zf (za (zq (zw rfl rfl ⟨hg1,(t71 && (decide (t70=p))) && (!decide (p=([]:List UInt8))),rfl,H⟩)))))
  ·clear H
   rcases Bool.eq_false_or_eq_true (t71 && (decide (t70=p))) with b1 | b1
   ·exact gp b1 (h:=(gp b1 (h:=(zg rfl (zt (okb b1) rfl) (wk (hQ _ _ ⟨!decide (p=([]:List UInt8)),rfl,by rw [b1] <;> rfl,rfl⟩))))))
   ·exact gn b1 (h:=(gn b1 (h:=(zg rfl (zr (okb b1) rfl) (wk (hQ _ _ ⟨false,rfl,by rw [b1] <;> rfl,rfl⟩))))))
 ·clear H
  rcases Bool.eq_false_or_eq_true (t71) with b2 | b2
  ·exact gp b2 (h:=(gp b2 (h:=(gp b2 (h:=(zg rfl (zt (okb b2) rfl) (wk (hQ _ _ ⟨decide (t70=p),rfl,by rw [b2] <;> rfl,rfl⟩))))))))
  ·exact gn b2 (h:=(gn b2 (h:=(gn b2 (h:=(zg rfl (zr (okb b2) rfl) (wk (hQ _ _ ⟨false,rfl,by rw [b2] <;> rfl,rfl⟩))))))))
end
 
section
open Go Go.RowKit
theorem letNat (c:UInt8):letB c=((((((((((((((decide (97<=c.toNat) && decide (c.toNat<=122)) || (decide (65<=c.toNat) && decide (c.toNat<=90))) || (decide (48<=c.toNat) && decide (c.toNat<=57))) || decide (c.toNat=33)) || decide (c.toNat=35)) || decide (c.toNat=37)) || decide (c.toNat=43)) || decide (c.toNat=44)) || decide (c.toNat=45)) || decide (c.toNat=46)) || decide (c.toNat=61)) || decide (c.toNat=64)) || decide (c.toNat=95)) || decide (c.toNat=126)):=by
 have h:∀ n:Fin 256,letB (UInt8.ofNat n.val)=((((((((((((((decide (97<=n.val) && decide (n.val<=122)) || (decide (65<=n.val) && decide (n.val<=90))) || (decide (48<=n.val) && decide (n.val<=57))) || decide (n.val=33)) || decide (n.val=35)) || decide (n.val=37)) || decide (n.val=43)) || decide (n.val=44)) || decide (n.val=45)) || decide (n.val=46)) || decide (n.val=61)) || decide (n.val=64)) || decide (n.val=95)) || decide (n.val=126)):=by decide +kernel
 have:=h ⟨c.toNat,c.toNat_lt⟩
 simpa using this
theorem rletter_M {c:UInt8} {K:Bool->Prop} (h:K (letB c)):kj (c.toNat:Int) K:=by
 unfold kj
 rw [letNat] at h
 have d:∀ a b:Nat,decide ((a:Int)<=(b:Int))=decide (a<=b):=fun a b=>by rw [decide_eq_decide]; omega
 have e:∀ a b:Nat,decide ((a:Int)=(b:Int))=decide (a=b):=fun a b=>by rw [decide_eq_decide]; omega
 have d1:decide ((97:Int)<=(c.toNat:Int))=decide (97<=c.toNat):=d 97 c.toNat
 have d2:decide ((c.toNat:Int)<=(122:Int))=decide (c.toNat<=122):=d c.toNat 122
 have d3:decide ((65:Int)<=(c.toNat:Int))=decide (65<=c.toNat):=d 65 c.toNat
 have d4:decide ((c.toNat:Int)<=(90:Int))=decide (c.toNat<=90):=d c.toNat 90
 have d5:decide ((48:Int)<=(c.toNat:Int))=decide (48<=c.toNat):=d 48 c.toNat
 have d6:decide ((c.toNat:Int)<=(57:Int))=decide (c.toNat<=57):=d c.toNat 57
 have e1:decide ((c.toNat:Int)=(33:Int))=decide (c.toNat=33):=e c.toNat 33
 have e2:decide ((c.toNat:Int)=(35:Int))=decide (c.toNat=35):=e c.toNat 35
 have e3:decide ((c.toNat:Int)=(37:Int))=decide (c.toNat=37):=e c.toNat 37
 have e4:decide ((c.toNat:Int)=(43:Int))=decide (c.toNat=43):=e c.toNat 43
 have e5:decide ((c.toNat:Int)=(44:Int))=decide (c.toNat=44):=e c.toNat 44
 have e6:decide ((c.toNat:Int)=(45:Int))=decide (c.toNat=45):=e c.toNat 45
 have e7:decide ((c.toNat:Int)=(46:Int))=decide (c.toNat=46):=e c.toNat 46
 have e8:decide ((c.toNat:Int)=(61:Int))=decide (c.toNat=61):=e c.toNat 61
 have e9:decide ((c.toNat:Int)=(64:Int))=decide (c.toNat=64):=e c.toNat 64
 have e10:decide ((c.toNat:Int)=(95:Int))=decide (c.toNat=95):=e c.toNat 95
 have e11:decide ((c.toNat:Int)=(126:Int))=decide (c.toNat=126):=e c.toNat 126
 rw [d1,d2,d3,d4,d5,d6,e1,e2,e3,e4,e5,e6,e7,e8,e9,e10,e11]
 exact h
theorem rpart_M {s:List UInt8} {K:Bool->Prop} (hs:s.length<=4000000000) (h:K (fairB s)):kI s false K:=by
 unfold kI
 refine ⟨fun i=>∃ k:Nat,i=k/\k<=s.length/\(s.take k).all letB=true,fun i=>(s.length - i.toNat),⟨0,rfl,by omega,by simp⟩,?_⟩
 rintro _ ⟨k,rfl,hk,hall⟩
 refine ⟨fun hlt=>⟨by omega,rletter_M ?_⟩,fun hge=>?_⟩
 ·have hk':k<s.length:=by omega
  rw [Int.toNat_natCast]
  cases hl:letB (s.getD k 0) with
  | false =>
   refine ⟨fun _ h=>(by cases h),fun _=>?_,fun h1=>by simp at h1⟩
   have:s.all letB=false:=by
    rw [List.all_eq_false]
    exact ⟨s.getD k 0,getD_mem hk',by rw [hl]; simp⟩
   unfold fairB at h
   rw [this] at h
   exact h
  | true=>exact ⟨fun h1=>by simp at h1,fun h1=>by simp at h1,fun _=>⟨by simp only [In]; omega,⟨k+1,by omega,by omega,take_all_succ hall hk' hl⟩,by dsimp only; omega⟩⟩
 ·obtain rfl:k=s.length:=by omega
  rw [List.take_length] at hall
  unfold fairB dotsB at h
  rw [hall,Bool.true_and,Bool.not_or,Bool.not_or] at h
  exact h
theorem rparts_M {p:List UInt8} {K:List (List UInt8)->Prop} (hp:p.length<=4000000000) (h:K (cuts p)):kw p K:=by
 unfold kw
 have hn:=cuts_length p
 refine ⟨fun out f i=>∃ (a k:Nat),f=a/\i=k/\((a<=k/\k<=p.length/\out++cuts (p.drop a)=cuts p/\∀ j,a<=j->j<k->p.getD j 0≠47)∨(k=p.length+1/\out=cuts p)),fun _ _ i=>p.length+1 - i.toNat,⟨0,0,rfl,rfl,.inl ⟨by omega,by omega,by simp,fun j _ h=>by omega⟩⟩,?_⟩
 rintro out _ _ ⟨a,k,rfl,rfl,hI⟩
 refine ⟨fun hlt=>?_,fun hge=>?_⟩
 ·rcases hI with ⟨hak,hk,hc,hno⟩ | ⟨hk,_⟩
  ·have ho:out.length<=(cuts p).length:=by rw [<-hc,List.length_append]; omega
   have hpiece:cuts ((p.drop a).take (k - a))=[(p.drop a).take (k - a)]:=cuts_none fun c hcm=>by
    obtain ⟨j,hj,rfl⟩:=List.getElem_of_mem hcm
    rw [List.length_take,List.length_drop] at hj
    have:=hno (a+j) (by omega) (by omega)
    rw [List.getElem_take,List.getElem_drop]
    simpa [List.getD,show a+j<p.length by omega] using this
   refine ⟨fun out' f'=>∃ a':Nat,f'=a'/\((a'<=k+1/\k+1<=p.length/\out'++cuts (p.drop a')=cuts p/\∀ j,a'<=j->j<k+1->p.getD j 0≠47)∨(k=p.length/\out'=cuts p)),⟨fun h1=>?_,fun h1=>?_,fun h1=>?_⟩,?_⟩
   ·have:=of_decide_eq_false h1; omega
   ·rw [Int.toNat_natCast] at h1
    simp only [Int.toNat_natCast]
    refine ⟨by omega,by simp only [List.length_cons,List.length_nil]; omega,by simp only [In]; omega,k+1,by omega,?_⟩
    by_cases e:k=p.length
    ·refine .inr ⟨e,?_⟩
     rw [<-hc]
     have:(p.drop a).take (k - a)=p.drop a:=List.take_of_length_le (by rw [List.length_drop]; omega)
     rw [this] at hpiece |-
     rw [hpiece]
    ·have hk':k<p.length:=by omega
     have h47:p.getD k 0=47:=by
      rw [decide_eq_false (by omega:¬ (k:Int)=(p.length:Int)),Bool.false_or] at h1
      exact UInt8.toNat_inj.mp (show (p.getD k 0).toNat=47 by have:=of_decide_eq_true h1; omega)
     refine .inl ⟨by omega,by omega,?_,fun j h2 h3=>by omega⟩
     rw [<-hc,List.append_assoc]
     congr 1
     have h2:p[k]=47:=by simpa [List.getD,hk'] using h47
     have:p.drop a=(p.drop a).take (k - a)++47 :: p.drop (k+1):=by
      conv=>lhs; rw [<-List.take_append_drop (k - a) (p.drop a)]
      congr 1
      rw [List.drop_drop,show a+(k - a)=k by omega,List.drop_eq_getElem_cons hk',h2]
     conv=>rhs; rw [this]
     rw [cuts_append,hpiece]
   ·rw [Int.toNat_natCast,Bool.or_eq_false_iff] at h1
    have h2:=of_decide_eq_false h1.1
    have h3:=of_decide_eq_false h1.2
    refine ⟨a,rfl,.inl ⟨by omega,by omega,hc,fun j h4 h5=>?_⟩⟩
    by_cases e:j=k
    ·rw [e]; exact fun h6=>h3 (by rw [h6]; rfl)
    ·exact hno j h4 (by omega)
   ·rintro out' _ ⟨a',rfl,hI'⟩
    refine ⟨by simp only [In]; omega,⟨a',k+1,rfl,by omega,?_⟩,by dsimp only; omega⟩
    rcases hI' with h1 | ⟨h1,h2⟩
    ·exact .inl h1
    ·exact .inr ⟨by omega,h2⟩
  ·omega
 ·rcases hI with ⟨_,hk,_⟩ | ⟨_,rfl⟩
  ·omega
  ·exact h
theorem glue_snoc {l:List (List UInt8)} {x:List UInt8} (h:l≠[]):glue (l++[x])=glue l++47 :: x:=by
 induction l with
 | nil=>exact absurd rfl h
 | cons y l ih =>
  cases l with
  | nil=>simp [glue]
  | cons z l =>
   have:=ih (by simp)
   simp only [List.cons_append] at this |-
   simp only [glue]
   rw [this]
   simp
theorem rglue_M {l:List (List UInt8)} {K:List UInt8->Prop} (hw:wt l<=4000000000) (h:K (glue l)):Zm l K:=by
 intro _
 have hl:=length_wt l
 refine ⟨fun s i=>∃ k:Nat,i=k/\k<=l.length/\s=glue (l.take k),fun _ i=>l.length - i.toNat,⟨0,rfl,by omega,by simp [glue]⟩,?_⟩
 rintro _ _ ⟨k,rfl,hk,rfl⟩
 have hg:=glue_length (l.take k)
 have ht:=wt_take l k
 refine ⟨fun hlt=>⟨fun s=>s=if k=0 then [] else glue (l.take k)++[47],⟨fun h1=>⟨by simp only [List.length_cons,List.length_nil]; omega,?_⟩,fun h1=>?_⟩,?_⟩,fun hge=>?_⟩
 ·dsimp only
  rw [if_neg (by omega)]
 ·dsimp only
  rw [if_pos (by omega)]
  obtain rfl:k=0:=by omega
  simp [glue]
 ·rintro _ rfl
  have hk':k<l.length:=by omega
  rw [Int.toNat_natCast]
  have hx:(l.getD k []).length<=wt l:=by
   have h1:wt (l.drop k)<=wt l:=by
    conv=>rhs; rw [<-List.take_append_drop k l]
    rw [wt_append]; omega
   rw [List.drop_eq_getElem_cons hk'] at h1
   simp only [wt] at h1
   have:l.getD k []=l[k]:=by simp [List.getD,hk']
   rw [this]; omega
  have hs:l.take (k+1)=l.take k++[l.getD k []]:=by
   rw [List.take_succ_eq_append_getElem hk']
   simp [List.getD,hk']
  refine ⟨by omega,?_,by simp only [In]; omega,⟨k+1,by omega,by omega,?_⟩,by dsimp only; omega⟩
  ·split
   ·simp only [List.length_nil]; omega
   ·rw [List.length_append]; simp only [List.length_cons,List.length_nil]; omega
  ·rw [hs]
   split
   ·rename_i e
    subst e
    simp [glue]
   ·rename_i e
    rw [glue_snoc (fun h1=>by have:=congrArg List.length h1; rw [List.length_take,List.length_nil] at this; omega)]
    simp
 ·obtain rfl:k=l.length:=by omega
  rw [List.take_length]
  exact h
def KR (K:List UInt8->Bool->Prop):Option (List UInt8)->Prop
 | none=>K [] false
 | some o=>K o true
theorem rclean_M {p:List UInt8} {K:List UInt8->Bool->Prop} (hp:p.length<=4000000000 - 1) (h:KR K (cleanP p)):kv p K:=by
 unfold kv
 refine rparts_M (by omega) ?_
 have hw:=wt_cuts p
 have hn:=length_wt (cuts p)
 refine ⟨fun l i=>∃ k:Nat,i=k/\k<=(cuts p).length/\wt l+wt ((cuts p).drop k)<=p.length+1/\cl l ((cuts p).drop k)=cl [] (cuts p),fun l i=>(cuts p).length - i.toNat,⟨0,rfl,by omega,by simp [wt,hw],by simp⟩,?_⟩
 rintro l _ ⟨k,rfl,hk,hb,hc⟩
 have hl:=length_wt l
 refine ⟨fun hlt=>?_,fun hge=>?_⟩
 ·have hk':k<(cuts p).length:=by omega
  have hd:(cuts p).drop k=(cuts p).getD k [] :: (cuts p).drop (k+1):=by
   rw [List.drop_eq_getElem_cons hk']
   simp [List.getD,hk']
  have hm:(cuts p).getD k []∈cuts p:=getD_mem hk'
  have hx:=cuts_part hm
  rw [hd] at hb hc
  rw [Int.toNat_natCast]
  generalize (cuts p).getD k []=x at hb hc hx hm
  simp only [wt,cl] at hb hc
  refine ⟨fun l'=>wt l'+wt ((cuts p).drop (k+1))<=p.length+1/\cl l' ((cuts p).drop (k+1))=cl [] (cuts p),⟨by omega,fun _=>by omega,fun h1=>?_,fun h1=>⟨by omega,fun h2=>⟨fun h3=>?_,fun h3=>?_⟩,fun h2=>⟨by omega,?_⟩⟩⟩,?_⟩
  ·rw [if_pos h1] at hc
   exact ⟨by omega,hc⟩
  ·rw [if_neg (by rw [h1]; simp),if_neg (by rw [decide_eq_false (by omega:¬ 0<l.length)]; simp),if_neg (by rw [h2]; decide)] at hc
   unfold cleanP at h
   rw [<-hc] at h
   exact h
  ·rw [if_neg (by rw [h1]; simp),if_pos (by rw [decide_eq_true h2,decide_eq_true (by omega:0<l.length)]; rfl)] at hc
   have ht:=wt_take l (l.length - 1)
   rw [show ((l.length:Int) - 1).toNat=l.length - 1 by omega]
   exact ⟨by simp only [In]; omega,by omega,by omega,hc⟩
  ·rw [if_neg (by rw [h1]; simp),if_neg (by rw [decide_eq_false h2]; simp)] at hc
   refine rpart_M (by omega) ⟨fun h3=>?_,fun h3=>?_⟩
   ·have h4:fairB x=false:=by simpa using h3
    rw [if_neg (by rw [h4]; simp)] at hc
    unfold cleanP at h
    rw [<-hc] at h
    exact h
   ·have h4:fairB x=true:=by simpa using h3
    rw [if_pos h4] at hc
    refine ⟨by omega,by simp only [List.length_cons,List.length_nil]; omega,?_,hc⟩
    rw [wt_append]
    simp only [wt]
    omega
  ·intro l' h'
   exact ⟨by simp only [In]; omega,⟨k+1,by omega,by omega,h'.1,h'.2⟩,by dsimp only; omega⟩
 ·obtain rfl:k=(cuts p).length:=by omega
  rw [List.drop_length] at hb hc
  simp only [cl,wt] at hb hc
  refine rglue_M (by omega) ?_
  unfold cleanP at h
  rw [<-hc] at h
  dsimp only at h
  refine ⟨fun h1=>?_,fun h1=>?_⟩
  ·rw [if_neg (by omega)] at h
   exact h
  ·rw [if_pos (by omega)] at h
   exact h
def oS:Option (List UInt8)->List UInt8
 | none=>[]
 | some o=>o
theorem kr {K:List UInt8->Bool->Prop} {x:Option (List UInt8)} (h:K (oS x) x.isSome):KR K x:=by cases x <;> exact h
theorem valid_is (p:List UInt8):((cleanP p).isSome && decide (oS (cleanP p)=p) && !decide (p=[]))=jY p:=by
 cases hv:jY p with
 | true =>
  have hl:p.length<=200:=by
   unfold jY at hv
   rw [Bool.and_eq_true] at hv
   exact of_decide_eq_true hv.1
  rw [clean_fairs hl (valid_parts hv)]
  simp [oS,(valid_head hv).1]
 | false =>
  cases hc:cleanP p with
  | none=>rfl
  | some o =>
   by_cases e:o=p
   ·subst e
    have ho:=cln_of hc
    rcases ho.2 with rfl | ⟨_,h4⟩
    ·simp
    ·rw [valid_of ho.1 h4] at hv; cases hv
   ·simp [oS,e]
end
 
section
open Go Go.RowKit
theorem bytesLess_lt (a b:Bs):Op.bytesLess a b=decide (a<b):=bytesLess_eq a b
end
 
section
open Go Go.RowKit
theorem new0_M {K0:Er->Prop} {K:DF->Int->Int->Bool->Er->Prop} (h:K [] 0 0 false .ok):M_disk_New [] K0 K:=by
 intro _
 refine ⟨fun i fs=>i=0/\fs=[],fun _ _=>0,⟨rfl,rfl⟩,fun i fs ⟨a0,a1⟩=>⟨fun hlt=>?_,fun _=>⟨fun hb=>?_,fun _=>by rw [a1]; exact h⟩⟩⟩
 ·subst a0; simp at hlt
 ·simp at hb
theorem sort1 (x:List UInt8):sortB [x]=[x]:=by unfold sortB; simp
end
 
section
open Go Go.RowKit
def nms:List (List UInt8):=[[97],[98,47,99],[100]]
def nm (k:Nat):List UInt8:=nms.getD k []
theorem nm_inj {j k:Nat} (hj:j<3) (hk:k<3) (h:nm j=nm k):j=k:=by
 match j,k,hj,hk with
 | 0,0,_,_=>rfl
 | 1,1,_,_=>rfl
 | 2,2,_,_=>rfl
 | 0,1,_,_=>exact absurd h (by decide)
 | 0,2,_,_=>exact absurd h (by decide)
 | 1,0,_,_=>exact absurd h (by decide)
 | 1,2,_,_=>exact absurd h (by decide)
 | 2,0,_,_=>exact absurd h (by decide)
 | 2,1,_,_=>exact absurd h (by decide)
structure DInv (fs:DF) (hv:List Bool) (tx:List (List UInt8)) (n:Nat):Prop where
 uq:Uq fs
 len:fs.length<=n
 keys:∀ p∈fs,∃ k,k<3/\p.1=nm k
 hl:hv.length=3
 tl:tx.length=3
 there:∀ k,k<3->ju fs (nm k)=hv.getD k false
 text:∀ k,k<3->(fil fs (nm k)).1=tx.getD k []
 none:∀ k,k<3->hv.getD k false=false->tx.getD k []=[]
 size:∀ k,k<3->(tx.getD k []).length<=100*n
 since:∀ k,k<3->(fil fs (nm k)).2.2.2.2.length<=n
theorem Zu {α:Type} {l:List α} {i j:Nat} {x d:α} (hi:i<l.length):(l.set i x).getD j d=if i=j then x else l.getD j d:=by
 simp only [List.getD,List.getElem?_set]
 by_cases e:i=j
 ·subst e; simp [hi]
 ·simp [e]
theorem DInv.put {fs:DF} {hv:List Bool} {tx:List (List UInt8)} {n k:Nat} (h:DInv fs hv tx n) (hk:k<3) {t s:List UInt8} {b w:Bool} {l:List (Int × List UInt8)} (ht:t.length<=100*(n+1)) (hb:b=false->t=[]) (hll:l.length<=n+1):DInv (mput fs (nm k) (t,b,s,w,l)) (hv.set k b) (tx.set k t) (n+1):=by
 have hk1:k<hv.length:=by rw [h.hl]; exact hk
 have hk2:k<tx.length:=by rw [h.tl]; exact hk
 have hne:∀ {j},j<3->(nm k=nm j↔k=j):=fun hj=>⟨nm_inj hk hj,fun e=>by rw [e]⟩
 refine ⟨h.uq.put _ _,?_,?_,by rw [List.length_set,h.hl],by rw [List.length_set,h.tl],?_,?_,?_,?_,?_⟩
 ·rw [mput_len]; have:=h.len; split <;> omega
 ·intro p hp
  rcases mput_mem hp with rfl | hp
  ·exact ⟨k,hk,rfl⟩
  ·exact h.keys p hp
 ·intro j hj
  rw [Zu hk1]
  unfold ju
  rw [fil_put]
  by_cases e:k=j
  ·subst e; rw [if_pos rfl,if_pos rfl]
  ·rw [if_neg (fun e2=>e ((hne hj).1 e2)),if_neg e]; exact h.there j hj
 ·intro j hj
  rw [Zu hk2,fil_put]
  by_cases e:k=j
  ·subst e; rw [if_pos rfl,if_pos rfl]
  ·rw [if_neg (fun e2=>e ((hne hj).1 e2)),if_neg e]; exact h.text j hj
 ·intro j hj
  rw [Zu hk1,Zu hk2]
  by_cases e:k=j
  ·rw [if_pos e,if_pos e]; exact hb
  ·rw [if_neg e,if_neg e]; exact h.none j hj
 ·intro j hj
  rw [Zu hk2]
  by_cases e:k=j
  ·rw [if_pos e]; exact ht
  ·rw [if_neg e]; have:=h.size j hj; omega
 ·intro j hj
  rw [fil_put]
  by_cases e:k=j
  ·subst e; rw [if_pos rfl]; exact hll
  ·rw [if_neg (fun e2=>e ((hne hj).1 e2))]; have:=h.since j hj; omega
theorem DInv.mono {fs:DF} {hv:List Bool} {tx:List (List UInt8)} {n:Nat} (h:DInv fs hv tx n):DInv fs hv tx (n+1) :=
 ⟨h.uq,Nat.le_succ_of_le h.len,h.keys,h.hl,h.tl,h.there,h.text,h.none,fun k hk=>by have:=h.size k hk; omega,fun k hk=>Nat.le_succ_of_le (h.since k hk)⟩
end
 
section
open Go Go.RowKit
abbrev Ent:=List UInt8 × List UInt8
def recP (e:Ent):List UInt8:=hexS e.1++[32]++hexS e.2++[32]++hexS (manyS [hexS e.1,hexS e.2])++[10]
def Ok32 (e:Ent):Prop:=e.1.length=32/\e.2.length=32
theorem hex64 {l:List UInt8} (h:l.length=32):(hexS l).length=64:=by rw [hexS_len,h]
theorem recP_len {e:Ent} (h:Ok32 e):(recP e).length=195:=by
 unfold recP
 simp only [List.length_append,List.length_cons,List.length_nil,hex64 h.1,hex64 h.2,hex64 (manyS_len _)]
theorem record_M {k o:List UInt8} {K:List UInt8->Prop} (h:Ok32 (k,o)) (hK:K (recP (k,o))):kQ k o K:=by
 have h1:=hex64 h.1
 have h2:=hex64 h.2
 dsimp only at h1 h2
 refine text_M h.1 (text_M h.2 ⟨by simp only [List.length_cons,List.length_nil]; omega,by simp only [List.length_append,List.length_cons,List.length_nil]; omega,by simp only [List.length_append,List.length_cons,List.length_nil]; omega,⟨by simp,fun x hx=>?_,text_M (manyS_len _) ⟨?_,?_,hK⟩⟩⟩)
 ·simp only [List.mem_cons,List.not_mem_nil,or_false] at hx
  rcases hx with rfl | rfl <;> omega
 ·have h3:=hex64 (manyS_len [hexS k,hexS o])
  simp only [List.length_append,List.length_cons,List.length_nil]; omega
 ·have h3:=hex64 (manyS_len [hexS k,hexS o])
  simp only [List.length_append,List.length_cons,List.length_nil]; omega
def oneP (s:List UInt8):Option Ent :=
 match parS (s.take 64),parS ((s.drop 65).take 64) with
 | some k,some o=>if recP (k,o)=s then some (k,o) else none
 | _,_=>none
theorem oneP_rec {s:List UInt8} {e:Ent} (h:oneP s=some e):recP e=s/\Ok32 e:=by
 unfold oneP at h
 split at h
 ·rename_i k o hk ho
  split at h
  ·rename_i hr
   simp only [Option.some.injEq] at h
   subst h
   exact ⟨hr,parS_len hk,parS_len ho⟩
  ·cases h
 ·cases h
theorem oneP_of {e:Ent} (h:Ok32 e):oneP (recP e)=some e:=by
 have h1:=hex64 h.1
 have h2:=hex64 h.2
 have e1:(recP e).take 64=hexS e.1:=by
  unfold recP
  simp only [List.append_assoc]
  exact List.take_left' h1
 have e2:((recP e).drop 65).take 64=hexS e.2:=by
  unfold recP
  have:hexS e.1++[32]++hexS e.2++[32]++hexS (manyS [hexS e.1,hexS e.2])++[10]=(hexS e.1++[32])++(hexS e.2++([32]++hexS (manyS [hexS e.1,hexS e.2])++[10])):=by simp only [List.append_assoc]
  rw [this,List.drop_left' (by simp [h1]),List.take_left' h2]
 unfold oneP
 rw [e1,e2,parS_hex _ h.1,parS_hex _ h.2]
 simp
theorem one_M {s:List UInt8} {K:List UInt8->List UInt8->Bool->Prop} (hs:129<=s.length) (h1:∀ k o,oneP s=some (k,o)->K k o true) (h0:oneP s=none->∀ k o,K k o false):M_cache_one s K:=by
 have hcut:(s.drop 65).take (129 - 65)=(s.drop 65).take 64:=rfl
 refine ⟨⟨by omega,by omega⟩,?_⟩
 have key:∀ k e,(parS (s.take 64)=some k/\e=Er.ok∨parS (s.take 64)=none/\e=.e 12)->(0<=(65:Int)/\(65:Int)<=(129:Int)/\(129:Int)<=s.length)/\M_sha_Parse ((s.drop 65).take (129 - 65)) (fun (t180:List UInt8) (t181:Er) =>
   ∃ J1:Bool->Prop,(((((decide (e=Er.ok)) && (decide (t181=Er.ok)))=true->kQ k t180 (fun (t33:List UInt8)=>J1 (decide (t33=s))))/\(((decide (e=Er.ok)) && (decide (t181=Er.ok)))=false->J1 false)))/\(∀ q2:Bool,J1 q2->K k t180 q2)):=by
  intro k e hk
  refine ⟨⟨by omega,by omega,by omega⟩,fun o ho=>?_,fun ho=>?_⟩
  ·rcases hk with ⟨hk,rfl⟩ | ⟨hk,rfl⟩
   ·refine ⟨fun b=>b=decide (recP (k,o)=s),⟨fun _=>record_M ⟨parS_len hk,parS_len ho⟩ rfl,fun h=>by simp at h⟩,fun q hq=>?_⟩
    rw [hq]
    rw [hcut] at ho
    by_cases hr:recP (k,o)=s
    ·rw [decide_eq_true hr]
     refine h1 k o ?_
     unfold oneP
     rw [hk,ho]
     simp [hr]
    ·rw [decide_eq_false hr]
     refine h0 ?_ k o
     unfold oneP
     rw [hk,ho]
     simp [hr]
   ·refine ⟨fun b=>b=false,⟨fun h=>by simp at h,fun _=>rfl⟩,fun q hq=>?_⟩
    rw [hq]
    refine h0 ?_ k o
    unfold oneP
    rw [hk]
  ·refine ⟨fun b=>b=false,⟨fun h=>by simp at h,fun _=>rfl⟩,fun q hq=>?_⟩
   rw [hq]
   rw [hcut] at ho
   refine h0 ?_ k _
   unfold oneP
   rw [ho]
   cases parS (s.take 64) <;> rfl
 exact ⟨fun k hk=>key k .ok (.inl ⟨hk,rfl⟩),fun hk=>key _ _ (.inr ⟨hk,rfl⟩)⟩
def jI (s:List UInt8):List Ent :=
 if h:195<=s.length then
  match oneP (s.take 195) with
  | some e=>e :: jI (s.drop 195)
  | none=>[]
 else []
 termination_by s.length
 decreasing_by simp; omega
theorem readP_short {s:List UInt8} (h:s.length<195):jI s=[]:=by
 unfold jI
 rw [dif_neg (by omega)]
theorem readP_some {s:List UInt8} {e:Ent} (h:195<=s.length) (ho:oneP (s.take 195)=some e):jI s=e :: jI (s.drop 195):=by
 conv=>lhs; unfold jI
 rw [dif_pos h,ho]
theorem readP_none {s:List UInt8} (ho:oneP (s.take 195)=none):jI s=[]:=by
 unfold jI
 split
 ·rw [ho]
 ·rfl
theorem readP_rec {e:Ent} (h:Ok32 e) (s:List UInt8):jI (recP e++s)=e :: jI s:=by
 have hl:=recP_len h
 rw [readP_some (e:=e) (by rw [List.length_append]; omega) (by rw [List.take_left' hl]; exact oneP_of h),List.drop_left' hl]
def jrn (l:List Ent):List UInt8:=l.flatMap recP
theorem jrn_len:∀ {l:List Ent},(∀ e∈l,Ok32 e)->(jrn l).length=195*l.length
 | [],_=>rfl
 | e :: l,h=>by
  have ih:=jrn_len (l:=l) fun x hx=>h x (List.mem_cons_of_mem _ hx)
  unfold jrn at *
  rw [List.flatMap_cons,List.length_append,recP_len (h e List.mem_cons_self),ih,List.length_cons]
  omega
theorem jrn_app (a b:List Ent):jrn (a++b)=jrn a++jrn b:=by unfold jrn; rw [List.flatMap_append]
theorem readP_jrn:∀ {l:List Ent} (s:List UInt8),(∀ e∈l,Ok32 e)->jI (jrn l++s)=l++jI s
 | [],s,_=>rfl
 | e :: l,s,h=>by
  have ih:=readP_jrn (l:=l) s fun x hx=>h x (List.mem_cons_of_mem _ hx)
  unfold jrn at *
  rw [List.flatMap_cons,List.append_assoc,readP_rec (h e List.mem_cons_self),ih]
  rfl
theorem readP_ok:∀ (n:Nat) (s:List UInt8),s.length<=n->(∀ e∈jI s,Ok32 e)/\195*(jI s).length<=s.length
 | n,s,hn=>by
  by_cases h:195<=s.length
  ·cases ho:oneP (s.take 195) with
   | none=>rw [readP_none ho]; simp
   | some e =>
    match n,hn with
    | 0,hn=>omega
    | n+1,hn =>
     obtain ⟨h1,h2⟩:=readP_ok n (s.drop 195) (by rw [List.length_drop]; omega)
     rw [readP_some h ho]
     refine ⟨fun x hx=>?_,?_⟩
     ·rcases List.mem_cons.1 hx with rfl | hx
      ·exact (oneP_rec ho).2
      ·exact h1 x hx
     ·rw [List.length_drop] at h2
      rw [List.length_cons]
      omega
  ·rw [readP_short (by omega)]; simp
theorem cread_M {text:List UInt8} {K:List Ent->Int->Prop} (ht:text.length<=100000000) (h:K (jI text) (195*(jI text).length:Nat)):M_cache_Read text K:=by
 refine ⟨fun l n=>l=jI text/\n=((195*(jI text).length:Nat):Int),?_,fun l n ⟨e1,e2⟩=>by rw [e1,e2]; exact h⟩
 refine ⟨fun l n=>n=((195*l.length:Nat):Int)/\n<=text.length/\l++jI (text.drop (195*l.length))=jI text,fun _ n=>text.length - n.toNat,⟨by simp,by omega,by simp⟩,fun l n ⟨a0,a1,a2⟩=>⟨by simp only [In]; omega,fun hle=>?_,fun hgt=>?_⟩⟩
 ·have hn:n.toNat=195*l.length:=by omega
  have hcut:(text.drop n.toNat).take ((n+195).toNat - n.toNat)=(text.drop (195*l.length)).take 195:=by rw [hn]; congr 1; omega
  have hlen:195<=(text.drop (195*l.length)).length:=by rw [List.length_drop]; omega
  refine ⟨by simp only [In]; omega,⟨by omega,by omega,by omega⟩,?_⟩
  rw [hcut]
  refine one_M (by rw [List.length_take]; omega) (fun k o ho=>⟨fun hf=>(by cases hf),fun _=>⟨?_,by simp only [In]; omega,⟨?_,by omega,?_⟩,by (try dsimp only); omega⟩⟩) (fun ho k o=>⟨fun _=>?_,fun hf=>(by cases hf)⟩)
  ·simp only [List.length_cons,List.length_nil]; omega
  ·simp only [List.length_append,List.length_cons,List.length_nil]; omega
  ·rw [readP_some hlen ho,List.drop_drop] at a2
   rw [<-a2,List.append_assoc]
   simp only [List.length_append,List.length_cons,List.length_nil]
   rw [show 195*(l.length+(0+1))=195*l.length+195 by omega]
   rfl
  ·rw [readP_none ho,List.append_nil] at a2
   exact ⟨a2,by rw [<-a2]; exact a0⟩
 ·rw [readP_short (by rw [List.length_drop]; omega),List.append_nil] at a2
  exact ⟨a2,by rw [<-a2]; exact a0⟩
def layE (l:List Ent) (m:List Ent):List Ent:=l.foldl (fun m e=>mput m e.1 e.2) m
theorem mput_len_le (m:List Ent) (k v:List UInt8):(mput m k v).length<=m.length+1:=by rw [mput_len]; split <;> omega
theorem layE_len:∀ (l m:List Ent),(layE l m).length<=m.length+l.length
 | [],m=>Nat.le_refl _
 | e :: l,m=>by
  have h1:=layE_len l (mput m e.1 e.2)
  have h2:=mput_len_le m e.1 e.2
  show (layE l (mput m e.1 e.2)).length<=_
  rw [List.length_cons]; omega
theorem layE_app (a b m:List Ent):layE (a++b) m=layE b (layE a m):=List.foldl_append
theorem lay_loop {es:List Ent} {p:List UInt8} {fs:DF} {ops left:Int} {down:Bool} {K:List UInt8->List Ent->Er->DF->Int->Int->Bool->Prop} (hes:∀ e∈es,Ok32 e) (hl:es.length<=1000000) (h:K p (layE es []) .ok fs ops left down) :
  Lp2 (fun (t57:Int) (t542:List (List UInt8 × List UInt8)) kont1=>((t57<(es.length:Int)->(0<=t57/\t57<(es.length:Nat))/\(((es.getD t57.toNat ([],[])).1).length=32/\t542.length<maxLen)/\(In .i64 (t57+(1:Int)))/\kont1 (t57+(1:Int)) (mput t542 ((es.getD t57.toNat ([],[])).1) ((es.getD t57.toNat ([],[])).2))) /\
   (¬ (t57<(es.length:Int))->K p t542 Er.ok fs ops left down))) (0:Int) ([]:List (List UInt8 × List UInt8)):=by
 refine ⟨fun i m=>0<=i/\i<=es.length/\m=layE (es.take i.toNat) [],fun i _=>es.length - i.toNat,⟨by omega,by omega,rfl⟩,fun i m ⟨a0,a1,a2⟩=>⟨fun hlt=>?_,fun hge=>?_⟩⟩
 ·have hi:i.toNat<es.length:=by omega
  have e:es.getD i.toNat ([],[])=es[i.toNat]:=by simp [List.getD,hi]
  have hm:=layE_len (es.take i.toNat) []
  rw [<-a2,List.length_take] at hm
  simp only [List.length_nil] at hm
  rw [e]
  refine ⟨⟨a0,hlt⟩,⟨(hes _ (List.getElem_mem hi)).1,by unfold maxLen; omega⟩,by simp only [In]; omega,⟨by omega,by omega,?_⟩,by (try dsimp only); omega⟩
  rw [show (i+1).toNat=i.toNat+1 by omega,List.take_succ_eq_append_getElem hi,layE_app,<-a2]
  rfl
 ·obtain rfl:i=es.length:=by omega
  rw [a2]
  simpa using h
end
 
section
open Go Go.RowKit
theorem numV_M {n below:Int} {K:Int->Prop} (hn:In .i64 n) (hb:0<below) (hb2:below<=100000) (h:K ((n.tmod below+below) % below)):jz n below K:=by
 unfold jz
 have h1:=Int.tmod_lt_of_pos n hb
 have h2:=Int.lt_tmod_of_pos n hb
 simp only [In] at hn
 refine ⟨by omega,by simp only [In]; omega,by omega,?_⟩
 have h3:0<=n.tmod below+below:=by omega
 rw [Int.tmod_eq_emod_of_nonneg h3]
 exact h
def nix (n:Int):Nat:=((n.tmod 12+12) % 12).toNat
theorem nix_lt (n:Int):nix n<12:=by unfold nix; generalize n.tmod 12=m; omega
def nm12 (k:Nat):List UInt8:=[110,UInt8.ofNat (97+k)]
theorem nm12_cut:∀ k,k<12->([110]:List UInt8)++((([97,98,99,100,101,102,103,104,105,106,107,108]:List UInt8).drop k).take 1)=nm12 k:=by decide
theorem name_M {n:Int} {K:List UInt8->Prop} (hn:In .i64 n) (h:K (nm12 (nix n))):jA n K:=by
 have hx:=nix_lt n
 have e:((n.tmod 12+12) % 12)=(nix n:Int):=by unfold nix; generalize n.tmod 12=m; omega
 refine numV_M hn (by omega) (by omega) (numV_M hn (by omega) (by omega) ?_)
 rw [e]
 generalize nix n=k at *
 refine ⟨by simp only [In]; omega,⟨by omega,by omega,by simp only [List.length_cons,List.length_nil]; omega⟩,by simp only [List.length_cons,List.length_nil,List.length_take,List.length_drop]; omega,?_⟩
 rw [show ((k:Int)+1).toNat - (k:Int).toNat=1 by omega,Int.toNat_natCast,nm12_cut k hx]
 exact h
def Dg (k:Nat):List UInt8:=shaS (nm12 k)
theorem Dg_len (k:Nat):(Dg k).length=32:=shaS_len _
theorem Dg_heads:(List.range 12).map (fun k=>(Dg k).headD 0)=[61,102,11,5,203,76,213,50,77,209,207,24]:=by kernel_rfl
theorem Dg_inj {j k:Nat} (hj:j<12) (hk:k<12) (h:Dg j=Dg k):j=k:=by
 have e:∀ i,i<12->(Dg i).headD 0=([61,102,11,5,203,76,213,50,77,209,207,24]:List UInt8).getD i 0:=by
  intro i hi
  rw [<-Dg_heads]
  simp [List.getD,hi]
 have h2:∀ j,j<12->∀ k,k<12->([61,102,11,5,203,76,213,50,77,209,207,24]:List UInt8).getD j 0=([61,102,11,5,203,76,213,50,77,209,207,24]:List UInt8).getD k 0->j=k:=by decide
 exact h2 j hj k hk (by rw [<-e j hj,<-e k hk,h])
theorem src_M {t:List UInt8} {K:List UInt8->Prop} (ht:t.length<=1000) (h:K (shaS t)):jT t K:=⟨by unfold maxLen; omega,by omega,h⟩
theorem srcN_M {k:Nat} {K:List UInt8->Prop} (h:K (Dg k)):jT (nm12 k) K:=src_M (by simp [nm12]) h
theorem sameD_M {a b:List UInt8} {K:Bool->Prop} (ha:a.length=32) (e:a=b) (h:K true):jl a b K:=by
 subst e
 exact sameSum_M ha ha (by simpa using h)
attribute [local irreducible] shaS manyS hexS
def openF (fs:DF) (p:List UInt8):DF :=
 if 195*(jI (kE fs p)).length<(kE fs p).length then mput fs p ((kE fs p).take (195*(jI (kE fs p)).length),true,(kE fs p).take (195*(jI (kE fs p)).length),true,[]) else fs
theorem open0_M {fs:DF} {p:List UInt8} {ops:Int} {K0:Er->DF->Int->Int->Bool->Prop} {K:List UInt8->List Ent->Er->DF->Int->Int->Bool->Prop} (hp:p.length<=1000) (hv:jY p=true) (h0:0<=ops) (h1:ops<=1000000) (hf:fs.length<2000) (ht:(kE fs p).length<=65536) (hx:(fil fs p).1.length<=1000000) (hs:(fil fs p).2.2.2.2.length<=100000)
  (h:∀ ops',ops<=ops'->ops'<=ops+3->K p (layE (jI (kE fs p)) []) .ok (openF fs p) ops' 0 false):km fs ops 0 false p K0 K:=by
 have hr:=readP_ok _ (kE fs p) (Nat.le_refl _)
 refine dread0_M (by unfold maxLen; omega) h0 (by omega) ⟨fun hne=>absurd rfl hne,fun _=>?_⟩
 refine cread_M (by omega) ?_
 refine ⟨fun fs' o l d=>fs'=openF fs p/\ops+1<=o/\o<=ops+3/\l=0/\d=false,⟨fun hlt=>⟨⟨by omega,by omega⟩,?_⟩,fun hge=>?_⟩,fun fs' o l d ⟨e1,e2,e3,e4,e5⟩=>?_⟩
 ·rw [Int.toNat_natCast]
  refine put0_M (by omega) (by omega) (by omega) (by omega) (by rw [List.length_take]; omega) hx (by omega) ?_
  rw [dlay_ok hv hf (by rw [if_neg (by omega),List.length_take]; omega),if_neg (by omega)]
  refine ⟨fun hne=>absurd rfl hne,fun _=>?_⟩
  refine sync0_M (by omega) (by omega) (by omega) ?_
  have e1:∀ s w l,dsync (mput fs p ((kE fs p).take (195*(jI (kE fs p)).length),true,s,w,l)) p=(.ok,mput fs p ((kE fs p).take (195*(jI (kE fs p)).length),true,(kE fs p).take (195*(jI (kE fs p)).length),true,[])):=by
   intro s w l
   unfold dsync
   rw [if_neg (by rw [hv]; simp),mget_same,fil_put,if_pos rfl,mput_mput]; rfl
  rw [e1]
  refine ⟨fun hne=>absurd rfl hne,fun _=>⟨?_,by omega,by omega,rfl,rfl⟩⟩
  unfold openF
  rw [if_pos (by omega)]
 ·refine ⟨?_,by omega,by omega,rfl,rfl⟩
  unfold openF
  rw [if_neg (by omega)]
 ·subst e4; subst e5; subst e1
  exact lay_loop hr.1 (by omega) (h o (by omega) e3)
theorem mget_in {m:List Ent} {k v:List UInt8} (h:mget m k=some v):(k,v)∈m:=by
 induction m with
 | nil=>simp [mget] at h
 | cons p m ih =>
  unfold mget at h
  split at h
  ·rename_i e; simp only [Option.some.injEq] at h; rw [<-h,<-e]; simp
  ·exact List.mem_cons_of_mem _ (ih h)
theorem cput_M {fs fs2:DF} {ops left:Int} {down:Bool} {p k out:List UInt8} {l:List Ent} {K:Er->List UInt8->List Ent->DF->Int->Int->Bool->Prop} (hk:k.length=32) (ho:out.length=32) (hll:l.length<=1000000) (hls:∀ e∈l,Ok32 e) (h0:0<=ops) (h1:ops<=1000000) (hl:left<=1000000) (hp:p.length<=1000) (hf:fs.length<=1000) (hx:(fil fs p).1.length<=1000000) (hs:(fil fs p).2.2.2.2.length<=1000000) (hd:dlay fs p (recP (k,out)) 1=(.ok,fs2))
  (hsame:mget l k=some out->K .ok p l fs ops left down)
  (hnew:mget l k≠some out->∀ o l' d,(∀ e,jW ops left down=(e,o,l',d)->e≠.ok->K e p l fs o l' d)/\(jW ops left down=(.ok,o,l',d)->K .ok p (mput l k out) fs2 o l' d)):jQ fs ops left down p l k out K:=by
 refine ⟨hk,fun hi=>⟨?_,ho⟩,fun hb=>?_,fun hb=>?_⟩
 ·obtain ⟨v,hv⟩:=Option.isSome_iff_exists.1 hi
  rw [hv]; exact (hls (k,v) (mget_in hv)).2
 ·rw [Bool.and_eq_true,decide_eq_true_eq] at hb
  refine hsame ?_
  obtain ⟨v,hv⟩:=Option.isSome_iff_exists.1 hb.1
  rw [hv] at hb |-
  simpa using hb.2
 ·refine record_M ⟨hk,ho⟩ ?_
  have hne:mget l k≠some out:=fun e=>by rw [e] at hb; simp at hb
  refine put_M (by omega) h0 (by omega) (by omega) (by omega) (by rw [recP_len ⟨hk,ho⟩]; omega) hx hs fun o l' d=>⟨fun e he hn=>⟨fun _=>(hnew hne o l' d).1 e he hn,fun h=>absurd h hn⟩,fun he=>?_⟩
  rw [hd]
  exact ⟨fun h=>absurd rfl h,fun _=>⟨⟨hk,by unfold maxLen; omega⟩,(hnew hne o l' d).2 he⟩⟩
theorem jrn_snoc (l:List Ent) (e:Ent):jrn (l++[e])=jrn l++recP e:=by
 rw [jrn_app]
 unfold jrn
 rw [List.flatMap_cons,List.flatMap_nil,List.append_nil]
def chg (e:Ent):Int × List UInt8:=(1,recP e)
def jf (p:List UInt8) (sl rl:List Ent) (w:Bool):DF:=[(p,(jrn (sl++rl),true,jrn sl,w,rl.map chg))]
def JS (fs:DF) (p:List UInt8) (sl rl:List Ent):Prop:=(fs=[]/\sl=[]/\rl=[])∨∃ w,fs=jf p sl rl w/\(w=false->sl=[])
theorem Zo (p:List UInt8) (x:Fil):fil [(p,x)] p=x:=by simp [fil,mget]
theorem JS.len {fs:DF} {p:List UInt8} {sl rl:List Ent} (h:JS fs p sl rl):fs.length<=1:=by
 rcases h with ⟨rfl,_,_⟩ | ⟨w,rfl,_⟩ <;> simp [jf]
theorem JS.fil1 {fs:DF} {p:List UInt8} {sl rl:List Ent} (h:JS fs p sl rl):(fil fs p).1=jrn (sl++rl):=by
 rcases h with ⟨rfl,rfl,rfl⟩ | ⟨w,rfl,_⟩
 ·rfl
 ·unfold jf; rw [Zo]
theorem JS.since {fs:DF} {p:List UInt8} {sl rl:List Ent} (h:JS fs p sl rl):(fil fs p).2.2.2.2=rl.map chg:=by
 rcases h with ⟨rfl,rfl,rfl⟩ | ⟨w,rfl,_⟩
 ·rfl
 ·unfold jf; rw [Zo]
theorem JS.text {fs:DF} {p:List UInt8} {sl rl:List Ent} (h:JS fs p sl rl):kE fs p=jrn (sl++rl):=by
 rcases h with ⟨rfl,rfl,rfl⟩ | ⟨w,rfl,_⟩
 ·rfl
 ·unfold kE ju jf; rw [Zo,if_pos rfl]
theorem JS.put {fs:DF} {p:List UInt8} {sl rl:List Ent} {e:Ent} (h:JS fs p sl rl) (hv:jY p=true) (ho:∀ x∈sl++rl,Ok32 x) (he:Ok32 e) (hl:(sl++rl).length<=100):∃ fs2,dlay fs p (recP e) 1=(.ok,fs2)/\JS fs2 p sl (rl++[e]):=by
 have h1:=recP_len he
 have h2:=jrn_len ho
 have h3:=h.len
 have h4:=h.fil1
 rw [dlay_ok hv (by omega) (by rw [h4]; split <;> (try rw [List.length_append]) <;> omega)]
 refine ⟨_,rfl,?_⟩
 rcases h with ⟨rfl,rfl,rfl⟩ | ⟨w,rfl,hw⟩
 ·refine .inr ⟨false,?_,fun _=>rfl⟩
  show [(p,(if (1:Int)=1/\ju [] p=true then _ else recP e,true,([]:List UInt8),false,[((1:Int),recP e)]))]=_
  rw [if_neg (by rintro ⟨_,h⟩; cases h)]
  have:jrn [e]=recP e:=jrn_snoc [] e
  unfold jf
  show _=[(p,(jrn [e],_))]
  rw [this]; rfl
 ·refine .inr ⟨w,?_,hw⟩
  have ht:ju (jf p sl rl w) p=true:=by unfold ju jf; rw [Zo]
  have hf:fil (jf p sl rl w) p=(jrn (sl++rl),true,jrn sl,w,rl.map chg):=Zo _ _
  rw [if_pos ⟨rfl,ht⟩,hf]
  unfold jf
  rw [<-List.append_assoc,jrn_snoc,List.map_append]
  simp [mput,chg]
theorem JS.sync {fs:DF} {p:List UInt8} {sl rl:List Ent} (h:JS fs p sl rl) (hv:jY p=true):∃ fs2,dsync fs p=(.ok,fs2)/\JS fs2 p (sl++rl) []:=by
 unfold dsync
 rw [if_neg (by rw [hv]; simp)]
 refine ⟨_,rfl,?_⟩
 rcases h with ⟨rfl,rfl,rfl⟩ | ⟨w,rfl,hw⟩
 ·exact .inl ⟨rfl,rfl,rfl⟩
 ·refine .inr ⟨true,?_,fun h=>by cases h⟩
  have hf:fil (jf p sl rl w) p=(jrn (sl++rl),true,jrn sl,w,rl.map chg):=Zo _ _
  have hs:(mget (jf p sl rl w) p).isSome=true:=by simp [jf,mget]
  rw [if_pos hs,hf]
  unfold jf
  simp [mput]
theorem riseP_jn (cut:Int):∀ (rl:List Ent) (k:Nat) (sl:List Ent) (b:Bool),(∀ e∈rl,Ok32 e)->∃ (m:Nat) (part:List UInt8) (b':Bool),m<=rl.length/\part.length<195/\riseP cut k (rl.map chg) (jrn sl) b=(jrn (sl++rl.take m)++part,b')/\(b'=false->b=false/\m=0/\part=[])
 | [],k,sl,b,_=>⟨0,[],b,Nat.le_refl _,by simp,by cases k <;> simp [riseP],fun h=>⟨h,rfl,rfl⟩⟩
 | e :: rl,0,sl,b,ho=>by
  have he:=recP_len (ho e List.mem_cons_self)
  show ∃ (m:Nat) (part:List UInt8) (b':Bool),m<=(e :: rl).length/\part.length<195/\(if (chg e).1=1/\0<cutN (chg e) cut then (jrn sl++(chg e).2.take (cutN (chg e) cut).toNat,true) else (jrn sl,b))=_/\_
  have hc:cutN (chg e) cut<=194:=by
   unfold cutN chg
   dsimp only
   rw [he]
   split <;> omega
  by_cases h:(chg e).1=1/\0<cutN (chg e) cut
  ·rw [if_pos h]
   exact ⟨0,(chg e).2.take (cutN (chg e) cut).toNat,true,by omega,by rw [List.length_take]; omega,by simp,fun h=>by cases h⟩
  ·rw [if_neg h]
   exact ⟨0,[],b,by omega,by simp,by simp,fun h=>⟨h,rfl,rfl⟩⟩
 | e :: rl,k+1,sl,b,ho=>by
  obtain ⟨m,part,b',h1,h2,h3,h4⟩:=riseP_jn cut rl k (sl++[e]) true fun x hx=>ho x (List.mem_cons_of_mem _ hx)
  refine ⟨m+1,part,b',by rw [List.length_cons]; omega,h2,?_,fun h=>(by have:=(h4 h).1; cases this)⟩
  show riseP cut k (rl.map chg) (jrn sl++recP e) true=_
  rw [<-jrn_snoc,h3,List.append_assoc]
  rfl
theorem JS.rise {fs:DF} {p:List UInt8} {sl rl:List Ent} (h:JS fs p sl rl) (ho:∀ x∈sl++rl,Ok32 x) (hl:(sl++rl).length<=100) (cut keep:Int):∃ (m:Nat) (part:List UInt8),m<=rl.length/\part.length<195/\kE (kD cut (sortB (fs.map (·.1))) keep fs) p=jrn (sl++rl.take m)++part/\(kD cut (sortB (fs.map (·.1))) keep fs).length<=1/\(fil (kD cut (sortB (fs.map (·.1))) keep fs) p).1.length<=100000/\(fil (kD cut (sortB (fs.map (·.1))) keep fs) p).2.2.2.2=[]:=by
 rcases h with ⟨rfl,rfl,rfl⟩ | ⟨w,rfl,hw⟩
 ·have e:sortB ((([]:DF)).map (·.1))=[]:=by unfold sortB; simp
  rw [e]
  exact ⟨0,[],Nat.le_refl _,by simp,rfl,by simp [kD],by simp [kD,fil,mget,fz],rfl⟩
 ·have e:sortB ((jf p sl rl w).map (·.1))=[p]:=sort1 p
  have hf:fil (jf p sl rl w) p=(jrn (sl++rl),true,jrn sl,w,rl.map chg):=Zo _ _
  have hput:∀ x:Fil,mput (jf p sl rl w) p x=[(p,x)]:=fun x=>by simp [jf,mput]
  rw [e,riseAll_cons,hf]
  by_cases h0:rl=[]
  ·subst h0
   rw [if_pos (by rfl),hput]
   have hj:=jrn_len ho
   refine ⟨0,[],Nat.le_refl _,by simp,?_,Nat.le_refl _,?_,?_⟩
   ·show kE [(p,_)] p=_
    unfold kE ju
    rw [Zo,if_pos rfl]; simp
   ·show (fil [(p,_)] p).1.length<=_
    rw [Zo]
    show (jrn (sl++[])).length<=_
    rw [hj]; omega
   ·show (fil [(p,_)] p).2.2.2.2=_
    rw [Zo]
  ·rw [if_neg (by simpa using h0),hput]
   obtain ⟨m,part,b',h1,h2,h3,h4⟩:=riseP_jn cut rl (keep % 4).toNat sl w fun x hx=>ho x (List.mem_append_right _ hx)
   have hj:=jrn_len (l:=sl++rl.take m) fun x hx=>ho x (by
    rcases List.mem_append.1 hx with h | h
    ·exact List.mem_append_left _ h
    ·exact List.mem_append_right _ (List.mem_of_mem_take h))
   rw [List.length_append] at hl
   refine ⟨m,part,h1,h2,?_,Nat.le_refl _,?_,?_⟩
   ·show kE [(p,_)] p=_
    unfold kE ju
    rw [Zo]
    dsimp only
    rw [h3]
    cases b' with
    | true=>rw [if_pos rfl]
    | false =>
     obtain ⟨g1,g2,g3⟩:=h4 rfl
     rw [if_neg (by simp),hw g1,g2,g3]; rfl
   ·show (fil [(p,_)] p).1.length<=_
    rw [Zo]
    dsimp only
    rw [h3]
    show (jrn (sl++rl.take m)++part).length<=_
    rw [List.length_append,hj,List.length_append,List.length_take]; omega
   ·show (fil [(p,_)] p).2.2.2.2=_
    rw [Zo]
theorem dcall0 (ops:Int):jW ops 0 false=(.ok,ops+1,0,false):=by simp [jW]
theorem js_nil (p:List UInt8):JS [] p [] []:=.inl ⟨rfl,rfl,rfl⟩
theorem open_js {fs:DF} {p:List UInt8} {ops:Int} {sl rl:List Ent} {K0:Er->DF->Int->Int->Bool->Prop} {K:List UInt8->List Ent->Er->DF->Int->Int->Bool->Prop} (hj:JS fs p sl rl) (ho:∀ x∈sl++rl,Ok32 x) (hl:(sl++rl).length<=100) (hp:p.length<=1000) (hv:jY p=true) (h0:0<=ops) (h1:ops<=1000000)
  (h:∀ ops',ops<=ops'->ops'<=ops+3->K p (layE (sl++rl) []) .ok fs ops' 0 false):km fs ops 0 false p K0 K:=by
 have h3:=hj.len
 have h4:=jrn_len ho
 have ht:=hj.text
 have hr:jI (kE fs p)=sl++rl:=by
  have:=readP_jrn [] ho
  rw [List.append_nil,readP_short (s:=[]) (by simp),List.append_nil] at this
  rw [ht,this]
 have hop:openF fs p=fs:=by
  unfold openF
  rw [hr,ht,h4,if_neg (by omega)]
 rw [List.length_append] at hl h4
 refine open0_M hp hv h0 h1 (by omega) (by rw [ht]; omega) (by rw [hj.fil1]; omega) (by rw [hj.since,List.length_map]; omega) fun ops' g1 g2=>?_
 rw [hr,hop]
 exact h ops' g1 g2
theorem cfirst_M {K:Bool->Prop} (h:K true):kP K:=by
 have vj:jY ([106]:List UInt8)=true:=by decide +kernel
 refine new0_M ⟨fun h=>absurd rfl h,fun _=>?_⟩
 refine open_js (js_nil _) (by simp) (by simp) (by simp) vj (by omega) (by omega) fun ops o0 o1=>⟨fun h=>absurd rfl h,fun _=>?_⟩
 refine src_M (by simp) (src_M (by simp) ?_)
 have oe:Ok32 (shaS [97],shaS [98]):=⟨shaS_len _,shaS_len _⟩
 obtain ⟨fs2,hd,hj⟩:=(js_nil [106]).put (e:=(shaS [97],shaS [98])) vj (by simp) oe (by simp)
 have ho:∀ x∈([]:List Ent)++([]++[(shaS [97],shaS [98])]),Ok32 x:=by simpa using oe
 have hlen:=jrn_len ho
 have hf2:=hj.fil1
 have hs2:=hj.since
 have hl2:=hj.len
 refine cput_M (shaS_len _) (shaS_len _) (by simp [layE]) (by simp [layE]) (by omega) (by omega) (by omega) (by simp) (by simp) (by simp [fil,mget,fz]) (by simp [fil,mget,fz]) hd (fun h=>(by simp [layE,mget] at h)) fun _ o l' d=>⟨fun e he hn=>?_,fun he=>?_⟩
 ·rw [dcall0] at he
  simp only [Prod.mk.injEq] at he
  exact absurd he.1.symm hn
 ·rw [dcall0] at he
  simp only [Prod.mk.injEq,true_and] at he
  obtain ⟨rfl,rfl,rfl⟩:=he
  refine src_M (by simp) (src_M (by simp) ?_)
  have hm:mput (layE ([]++[]) []) (shaS [97]) (shaS [98])=[(shaS [97],shaS [98])]:=rfl
  rw [hm]
  obtain ⟨fs3,hd3,_⟩:=hj.put (e:=(shaS [97],shaS [98])) vj ho oe (by simp)
  refine cput_M (shaS_len _) (shaS_len _) (by simp) (by simpa using oe) (by omega) (by omega) (by omega) (by simp) (by omega) (by rw [hf2,hlen]; simp) (by rw [hs2]; simp) hd3 (fun _=>?_) (fun hne=>absurd (by simp [mget]) hne)
  refine dread0_M (by simp [maxLen]) (by omega) (by omega) ?_
  have ht:ju fs2 [106]=true:=by
   rcases hj with ⟨_,_,h⟩ | ⟨w,rfl,_⟩
   ·simp at h
   ·unfold ju jf; rw [Zo]
  rw [hj.text,ht]
  refine ⟨fun b=>b=true,⟨fun _=>?_,fun hf=>?_⟩,fun q hq=>by rw [hq]; exact h⟩
  ·show decide _=true
   simp
  ·rw [hlen] at hf
   simp at hf
end
 
section
open Go Go.RowKit
attribute [local irreducible] shaS manyS hexS Dg recP
theorem layE_snoc (l:List Ent) (k v:List UInt8):layE (l++[(k,v)]) []=mput (layE l []) k v:=layE_app l [(k,v)] []
def cnt (a:List Int):Nat->Nat
 | 0=>0
 | m+1=>cnt a m+if 0<=a.getD m 0 then 1 else 0
theorem cnt_set {a:List Int} {k:Nat} {v:Int} (hv:0<=v):∀ m,m<=a.length->cnt (a.set k v) m=if k<m/\¬ 0<=a.getD k 0 then cnt a m+1 else cnt a m
 | 0,_=>by rw [if_neg (fun h=>absurd h.1 (Nat.not_lt_zero _))]; rfl
 | m+1,h=>by
  have ih:=cnt_set (a:=a) (k:=k) hv m (by omega)
  unfold cnt
  rw [ih]
  by_cases hkm:k=m
  ·subst hkm
   rw [Zu (show k<a.length by omega),if_pos rfl,if_pos hv,if_neg (fun h=>absurd h.1 (Nat.lt_irrefl _))]
   by_cases h0:0<=a.getD k 0
   ·rw [if_pos h0,if_neg (fun h=>h.2 h0)]
   ·rw [if_neg h0,if_pos ⟨by omega,h0⟩]
  ·have e:(a.set k v).getD m 0=a.getD m 0:=by
    by_cases hk:k<a.length
    ·rw [Zu hk,if_neg hkm]
    ·rw [List.set_eq_of_length_le (show a.length<=k by omega)]
   rw [e]
   by_cases h1:k<m/\¬ 0<=a.getD k 0
   ·have h2:k<m+1/\¬ 0<=a.getD k 0:=⟨by omega,h1.2⟩
    rw [if_pos h1,if_pos h2]; omega
   ·have h2:¬ (k<m+1/\¬ 0<=a.getD k 0):=fun h2=>h1 ⟨by omega,h2.2⟩
    rw [if_neg h1,if_neg h2]
structure LI (last:List Int) (cl log:List Ent):Prop where
 l4:last.length=4
 rng:∀ k,k<4 -> -1<=last.getD k 0/\last.getD k 0<3
 get:∀ k,k<4->mget cl (Dg k)=if last.getD k 0<0 then none else some (Dg (last.getD k 0).toNat)
 len:cl.length=cnt last 4
 lay:cl=layE log []
 ok:∀ e∈log,Ok32 e
theorem LI.at {last:List Int} {cl log:List Ent} (h:LI last cl log) {k v:Nat} (hk:k<4) (hv:v<3):mget cl (Dg k)=some (Dg v)↔last.getD k 0=v:=by
 have hr:=h.rng k hk
 rw [h.get k hk]
 constructor
 ·intro e
  by_cases h0:last.getD k 0<0
  ·rw [if_pos h0] at e; cases e
  ·rw [if_neg h0,Option.some.injEq] at e
   have:=Dg_inj (by omega) (by omega) e
   omega
 ·intro e
  rw [e,if_neg (by omega),Int.toNat_natCast]
theorem LI.put {last:List Int} {cl log:List Ent} (h:LI last cl log) {k v:Nat} (hk:k<4) (hv:v<3):LI (last.set k v) (mput cl (Dg k) (Dg v)) (log++[(Dg k,Dg v)]):=by
 have hl:=h.l4
 refine ⟨by rw [List.length_set,hl],fun j hj=>?_,fun j hj=>?_,?_,?_,fun e he=>?_⟩
 ·rw [Zu (by omega)]
  split
  ·omega
  ·exact h.rng j hj
 ·rw [Zu (by omega),Zv]
  by_cases e:k=j
  ·subst e
   rw [if_pos rfl,if_pos rfl,if_neg (by omega),Int.toNat_natCast]
  ·rw [if_neg (fun e2=>e (Dg_inj (by omega) (by omega) e2)),if_neg e]
   exact h.get j hj
 ·rw [mput_len,h.get k hk,h.len,cnt_set (by omega) 4 (by omega)]
  by_cases h0:last.getD k 0<0
  ·have hc:k<4/\¬ 0<=last.getD k 0:=⟨hk,by omega⟩
   rw [if_pos h0,if_pos hc]; rfl
  ·have hc:¬ (k<4/\¬ 0<=last.getD k 0):=fun h=>h.2 (by omega)
   rw [if_neg h0,if_neg hc]; rfl
 ·rw [layE_snoc,<-h.lay]
 ·rcases List.mem_append.1 he with he | he
  ·exact h.ok e he
  ·rw [List.mem_singleton.1 he]; exact ⟨Dg_len _,Dg_len _⟩
end
 
section
open Go Go.RowKit
attribute [local irreducible] shaS manyS hexS Dg recP
def fE (e:Ent):Ent:=(shaS e.1,shaS e.2)
def nE (l:List Int) (i:Nat):Ent:=(nm12 (nix (l.getD i 0)),nm12 (nix (i:Int)))
def nents (l:List Int) (n:Nat):List Ent:=(List.range n).map (nE l)
def Nt (l:List Int) (n:Nat):List Ent:=layE (nents l n) []
def Ct (l:List Int) (n:Nat):List Ent:=(Nt l n).map fE
theorem Dg_eq (k:Nat):Dg k=shaS (nm12 k):=by unfold Dg; rfl
def FPp (l:List Int) (sl rl:List Ent) (safe put:Int):Prop:=∀ m,m<=rl.length->∃ n:Nat,safe<=n/\(n:Int)<=put/\layE (sl++rl.take m) []=Ct l n
structure FI (l:List Int) (safe put i:Int) (p:List UInt8) (cl:List Ent) (fs:DF) (ops left:Int) (down:Bool):Prop where
 i0:0<=i
 i1:i<=l.length
 pi:i=put
 s0:0<=safe
 s1:safe<=i
 pp:p=[106]
 dn:down=false
 l0:0<left
 l1:left<=60
 o0:0<=ops
 o1:ops<=10+2*i
 js:∃ sl rl,JS fs [106] sl rl/\(∀ x∈sl++rl,Ok32 x)/\(sl++rl).length<=i.toNat/\cl=layE (sl++rl) []/\cl=Ct l i.toNat/\FPp l sl rl safe i
structure FE (l:List Int) (safe put:Int) (fs:DF) (ops left:Int):Prop where
 s0:0<=safe
 s1:safe<=put
 p1:put<=l.length
 o0:0<=ops
 o1:ops<=200
 l1:left<=60
 js:∃ sl rl,JS fs [106] sl rl/\(∀ x∈sl++rl,Ok32 x)/\(sl++rl).length<=50/\FPp l sl rl safe put
theorem FPp.snoc {l:List Int} {sl rl:List Ent} {e:Ent} {safe i:Int} (h:FPp l sl rl safe i) (hi:0<=i) (hs:safe<=i) (hc:layE (sl++(rl++[e])) []=Ct l (i.toNat+1)):FPp l sl (rl++[e]) safe (i+1):=fun m hm=>by
 rw [List.length_append,List.length_singleton] at hm
 by_cases hm2:m<=rl.length
 ·obtain ⟨n,h1,h2,h3⟩:=h m hm2
  exact ⟨n,h1,by omega,by rw [List.take_append_of_le_length hm2]; exact h3⟩
 ·refine ⟨i.toNat+1,by omega,by omega,?_⟩
  rw [List.take_of_length_le (by rw [List.length_append,List.length_singleton]; omega)]
  exact hc
end
 
section
open Go Go.RowKit
theorem or_lo (b:Nat) (h:b<16):bits .or .u8 (shlV .u8 ((0:Nat):Int) 4) (b:Int)=b:=by
 have:∀ b:Fin 16,bits .or .u8 (shlV .u8 ((0:Nat):Int) 4) (b.val:Int)=(b.val:Int):=by decide
 exact this ⟨b,h⟩
theorem u8_small (a:Nat) (h:a<16):(UInt8.ofNat a).toNat=a:=by rw [UInt8.toNat_ofNat']; omega
theorem set_mid {L:List UInt8} {n m:Nat} (hL:L.length=n) (x y:UInt8) (r:List UInt8) (hr:m=n):(L++x :: r).set m y=L++y :: r:=by
 subst hr; subst hL
 rw [List.set_append_right _ _ (by omega),Nat.sub_self,List.set_cons_zero]
theorem getD_mid {L:List UInt8} {n m:Nat} (hL:L.length=n) (x:UInt8) (r:List UInt8) (hr:m=n):(L++x :: r).getD m 0=x:=by
 subst hr; subst hL
 simp [List.getD]
theorem rep_cons {n:Nat} (h:n<32):List.replicate (32 - n) (0:UInt8)=0 :: List.replicate (31 - n) 0:=by
 rw [show 32 - n=(31 - n)+1 by omega,List.replicate_succ]
def UI (s:List UInt8) (p:Nat) (out:List UInt8):Prop :=
 (∃ n L,p=2*n/\parN s n=some L/\out=L++List.replicate (32 - n) 0) ∨
 (∃ n L a,p=2*n+1/\parN s n=some L/\digV (s.getD (2*n) 0)=some a/\out=L++UInt8.ofNat a :: List.replicate (31 - n) 0)
theorem UI.none {s:List UInt8} {p:Nat} {out:List UInt8} (h:UI s p out) (hp:p<64) (hl:s.length=64) (hd:digV (s.getD p 0)=none):parS s=none:=by
 unfold parS
 rw [if_pos hl]
 rcases h with ⟨n,L,rfl,h1,h2⟩ | ⟨n,L,a,rfl,h1,h2,h3⟩
 ·have:=parN_none s (n+1) (by rw [parN,h1,hd]) (31 - n)
  rwa [show n+1+(31 - n)=32 by omega] at this
 ·have:=parN_none s (n+1) (by rw [parN,h1,h2,hd]) (31 - n)
  rwa [show n+1+(31 - n)=32 by omega] at this
theorem UI.step {s:List UInt8} {p b:Nat} {out:List UInt8} (h:UI s p out) (hp:p<64) (hd:digV (s.getD p 0)=some b) :
  (0<=bits .or .u8 (shlV .u8 ((out.getD (p / 2) 0).toNat:Int) 4) (b:Int)/\bits .or .u8 (shlV .u8 ((out.getD (p / 2) 0).toNat:Int) 4) (b:Int)<=255)/\UI s (p+1) (out.set (p / 2) (UInt8.ofNat (bits .or .u8 (shlV .u8 ((out.getD (p / 2) 0).toNat:Int) 4) (b:Int)).toNat)):=by
 have hb:=digV_lt hd
 rcases h with ⟨n,L,rfl,h1,h2⟩ | ⟨n,L,a,rfl,h1,h2,h3⟩
 ·have hL:=parN_len s n L h1
  rw [rep_cons (by omega)] at h2
  have e0:out.getD (2*n / 2) 0=0:=by rw [h2]; exact getD_mid hL _ _ (by omega)
  have e1:((0:UInt8).toNat:Int)=((0:Nat):Int):=rfl
  rw [e0,e1,or_lo b hb]
  refine ⟨by omega,.inr ⟨n,L,b,rfl,h1,hd,?_⟩⟩
  rw [h2,set_mid hL _ _ _ (by omega),Int.toNat_natCast]
 ·have hL:=parN_len s n L h1
  have ha:=digV_lt h2
  have e0:(out.getD ((2*n+1) / 2) 0).toNat=a:=by rw [h3,getD_mid hL _ _ (by omega),u8_small a ha]
  rw [e0]
  have ho:=or_in ha hb
  have hlt:=(u8v (bits .or .u8 (shlV .u8 (a:Int) 4) (b:Int))).toNat_lt
  refine ⟨by omega,.inl ⟨n+1,L++[u8v (bits .or .u8 (shlV .u8 (a:Int) 4) (b:Int))],by omega,by rw [parN,h1,h2,hd],?_⟩⟩
  rw [h3,set_mid hL _ _ _ (by omega)]
  have:UInt8.ofNat (bits .or .u8 (shlV .u8 (a:Int) 4) (b:Int)).toNat=u8v (bits .or .u8 (shlV .u8 (a:Int) 4) (b:Int)):=by
   rw [<-ho,Int.toNat_natCast,UInt8.ofNat_toNat,ho]
  rw [this]
  simp
theorem unhex_M {s:List UInt8} {K:List UInt8->Bool->Prop} (h1:∀ l,parS s=some l->K l true) (h0:parS s=none->K (List.replicate 32 0) false):ki s K:=by
 refine ⟨fun hne=>h0 (by unfold parS; rw [if_neg (by omega)]),fun he=>?_⟩
 have hl:s.length=64:=by omega
 refine ⟨fun i _ out=>0<=i/\i<=64/\UI s i.toNat out,fun i _ _=>64 - i.toNat,⟨by omega,by omega,.inl ⟨0,[],rfl,rfl,rfl⟩⟩,fun i t out ⟨a0,a1,a2⟩=>⟨fun hlt=>⟨by omega,?_⟩,fun hge=>?_⟩⟩
 ·generalize hc:s.getD i.toNat 0=c
  refine ⟨fun d=>∃ b:Nat,digV c=some b/\d=b,⟨fun h=>?_,fun h=>⟨fun h'=>?_,fun h'=>?_⟩⟩,?_⟩
  ·simp only [Bool.and_eq_true,decide_eq_true_eq] at h
   exact ⟨by simp only [In]; omega,c.toNat - 48,by unfold digV; rw [if_pos (by omega)],by omega⟩
  ·simp only [Bool.and_eq_false_iff,decide_eq_false_iff_not] at h
   simp only [Bool.and_eq_true,decide_eq_true_eq] at h'
   exact ⟨by simp only [In]; omega,by simp only [In]; omega,c.toNat - 87,by unfold digV; rw [if_neg (by omega),if_pos (by omega)],by omega⟩
  ·simp only [Bool.and_eq_false_iff,decide_eq_false_iff_not] at h h'
   exact h0 (a2.none (by omega) hl (by rw [hc]; unfold digV; rw [if_neg (by omega),if_neg (by omega)]))
  ·rintro _ ⟨b,hb,rfl⟩
   have hi2:(i / 2).toNat=i.toNat / 2:=by omega
   have hs:=a2.step (by omega) (by rw [hc]; exact hb)
   have hol:out.length=32:=by
    rcases a2 with ⟨n,L,e,h2,h3⟩ | ⟨n,L,a,e,h2,_,h3⟩ <;> (have:=parN_len s n L h2; rw [h3]; simp; omega)
   rw [hi2]
   refine ⟨⟨by omega,by omega,by simp only [In]; omega⟩,⟨by omega,by omega,by simp only [In]; omega⟩,by omega,by omega,hs.1,hol,by simp only [In]; omega,⟨by omega,by omega,?_⟩,by dsimp only; omega⟩
   rw [show (i+1).toNat=i.toNat+1 by omega]
   exact hs.2
 ·rcases a2 with ⟨n,L,e,h2,h3⟩ | ⟨n,L,a,e,h2,_,h3⟩
  ·obtain rfl:n=32:=by omega
   have:out=L:=by rw [h3]; simp
   rw [this]
   exact h1 L (by unfold parS; rw [if_pos hl]; exact h2)
  ·omega
end
 
section
open Go Go.RowKit
attribute [local irreducible] shaS manyS hexS Dg
theorem rrecord_M {k o:List UInt8} {K:List UInt8->Prop} (h:Ok32 (k,o)) (hK:K (recP (k,o))):ka k o K:=by
 have h1:=hex64 h.1
 have h2:=hex64 h.2
 dsimp only at h1 h2
 refine hex_M h.1 (hex_M h.2 ⟨by simp only [List.length_cons,List.length_nil]; omega,by simp only [List.length_append,List.length_cons,List.length_nil]; omega,by simp only [List.length_append,List.length_cons,List.length_nil]; omega,rmany_M (by simp) (fun x hx=>?_) (hex_M (manyS_len _) ⟨?_,?_,hK⟩)⟩)
 ·simp only [List.mem_cons,List.not_mem_nil,or_false] at hx
  rcases hx with rfl | rfl <;> omega
 ·have h3:=hex64 (manyS_len [hexS k,hexS o])
  simp only [List.length_append,List.length_cons,List.length_nil]; omega
 ·have h3:=hex64 (manyS_len [hexS k,hexS o])
  simp only [List.length_append,List.length_cons,List.length_nil]; omega
theorem oneP_none {T:List UInt8} (h:parS (T.take 64)=none∨parS ((T.drop 65).take 64)=none):oneP (T.take 195)=none:=by
 have e1:(T.take 195).take 64=T.take 64:=by rw [List.take_take]; rfl
 have e2:((T.take 195).drop 65).take 64=(T.drop 65).take 64:=by rw [List.drop_take,List.take_take]; rfl
 unfold oneP
 rw [e1,e2]
 rcases h with h | h
 ·rw [h]
 ·rw [h]; cases parS (T.take 64) <;> rfl
theorem oneP_two {T k o:List UInt8} (h:parS (T.take 64)=some k) (h2:parS ((T.drop 65).take 64)=some o):oneP (T.take 195)=if recP (k,o)=T.take 195 then some (k,o) else none:=by
 have e1:(T.take 195).take 64=T.take 64:=by rw [List.take_take]; rfl
 have e2:((T.take 195).drop 65).take 64=(T.drop 65).take 64:=by rw [List.drop_take,List.take_take]; rfl
 unfold oneP
 rw [e1,e2,h,h2]
theorem rj_M {text:List UInt8} {K:List Ent->Int->Prop} (ht:text.length<=100000000) (h:K (jI text) (195*(jI text).length:Nat)):jZ text K:=by
 refine ⟨fun l n=>l=jI text/\n=((195*(jI text).length:Nat):Int),?_,fun l n ⟨e1,e2⟩=>by rw [e1,e2]; exact h⟩
 refine ⟨fun l n=>n=((195*l.length:Nat):Int)/\n<=text.length/\l++jI (text.drop (195*l.length))=jI text,fun _ n=>text.length - n.toNat,⟨by simp,by omega,by simp⟩,fun l n ⟨a0,a1,a2⟩=>⟨by simp only [In]; omega,fun hle=>?_,fun hgt=>?_⟩⟩
 ·have hlen:195<=(text.drop (195*l.length)).length:=by rw [List.length_drop]; omega
  have c1:(text.drop n.toNat).take ((n+64).toNat - n.toNat)=(text.drop (195*l.length)).take 64:=by
   rw [show n.toNat=195*l.length by omega,show (n+64).toNat - 195*l.length=64 by omega]
  have c2:(text.drop (n+65).toNat).take ((n+129).toNat - (n+65).toNat)=((text.drop (195*l.length)).drop 65).take 64:=by
   rw [List.drop_drop,show (n+65).toNat=195*l.length+65 by omega,show (n+129).toNat - (195*l.length+65)=64 by omega]
  have c3:(text.drop n.toNat).take ((n+195).toNat - n.toNat)=(text.drop (195*l.length)).take 195:=by
   rw [show n.toNat=195*l.length by omega,show (n+195).toNat - 195*l.length=195 by omega]
  refine ⟨by simp only [In]; omega,⟨by omega,by omega,by omega⟩,?_⟩
  rw [c1,c2,c3]
  generalize hT:text.drop (195*l.length)=T at hlen a2 |-
  have stop:oneP (T.take 195)=none->l=jI text/\n=((195*(jI text).length:Nat):Int):=fun ho=>by
   rw [readP_none ho,List.append_nil] at a2
   exact ⟨a2,by rw [<-a2]; exact a0⟩
  refine unhex_M (fun k hk=>?_) (fun hk=>?_)
  ·refine ⟨by simp only [In]; omega,by simp only [In]; omega,⟨by omega,by omega,by omega⟩,unhex_M (fun o ho=>?_) (fun ho=>?_)⟩
   ·have h2:=oneP_two hk ho
    refine ⟨fun b=>b = !decide (recP (k,o)=T.take 195),⟨fun h=>(by simp at h),fun _=>rrecord_M ⟨parS_len hk,parS_len ho⟩ ⟨by simp only [In]; omega,⟨by omega,by omega,by omega⟩,rfl⟩⟩,fun q hq=>⟨fun h=>?_,fun h=>?_⟩⟩
    ·rw [hq,Bool.not_eq_true',decide_eq_false_iff_not] at h
     rw [if_neg h] at h2
     exact stop h2
    ·rw [hq,Bool.not_eq_false',decide_eq_true_eq] at h
     rw [if_pos h] at h2
     refine ⟨by simp only [List.length_cons,List.length_nil]; omega,by simp only [In]; omega,⟨?_,by omega,?_⟩,by (try dsimp only); omega⟩
     ·simp only [List.length_append,List.length_cons,List.length_nil]; omega
     ·rw [readP_some hlen h2,<-hT,List.drop_drop] at a2
      rw [<-a2,List.append_assoc]
      simp only [List.length_append,List.length_cons,List.length_nil]
      rw [show 195*(l.length+(0+1))=195*l.length+195 by omega]
      rfl
   ·exact ⟨fun b=>b=true,⟨fun _=>rfl,fun h=>(by simp at h)⟩,fun q hq=>⟨fun _=>stop (oneP_none (.inr ho)),fun h=>(by rw [hq] at h; cases h)⟩⟩
  ·refine ⟨by simp only [In]; omega,by simp only [In]; omega,⟨by omega,by omega,by omega⟩,unhex_M (fun o ho=>?_) (fun ho=>?_)⟩
   ·exact ⟨fun b=>b=true,⟨fun _=>rfl,fun h=>(by simp at h)⟩,fun q hq=>⟨fun _=>stop (oneP_none (.inl hk)),fun h=>(by rw [hq] at h; cases h)⟩⟩
   ·exact ⟨fun b=>b=true,⟨fun _=>rfl,fun h=>(by simp at h)⟩,fun q hq=>⟨fun _=>stop (oneP_none (.inl hk)),fun h=>(by rw [hq] at h; cases h)⟩⟩
 ·rw [readP_short (by rw [List.length_drop]; omega),List.append_nil] at a2
  exact ⟨a2,by rw [<-a2]; exact a0⟩
theorem same_M {a:List Ent} {K:Bool->Prop} (ho:∀ e∈a,Ok32 e) (hl:a.length<=1000000) (h:K true):Zb a a K:=by
 intro _ _
 refine ⟨fun hne=>absurd rfl hne,fun _=>⟨fun i=>0<=i/\i<=a.length,fun i=>a.length - i.toNat,⟨by omega,by omega⟩,fun i ⟨a0,a1⟩=>⟨fun hlt=>?_,fun _=>h⟩⟩⟩
 have hi:i.toNat<a.length:=by omega
 have e:a.getD i.toNat ([],[])=a[i.toNat]:=by simp [List.getD,hi]
 have hk:=ho _ (List.getElem_mem hi)
 rw [e]
 refine ⟨⟨a0,hlt⟩,⟨a0,hlt⟩,sameD_M hk.1 rfl ⟨fun b=>b=false,⟨fun h=>(by simp at h),fun _=>⟨⟨a0,hlt⟩,⟨a0,hlt⟩,sameD_M hk.2 rfl rfl⟩⟩,fun q hq=>⟨fun h=>(by rw [hq] at h; cases h),fun _=>⟨by simp only [In]; omega,⟨by omega,by omega⟩,by (try dsimp only); omega⟩⟩⟩⟩
end
 
section
open Go Go.RowKit
theorem hexB_two (b:UInt8):hexB b=[digs.getD (b.toNat / 16) 0,digs.getD (b.toNat % 16) 0]:=by
 have h:(List.range 256).all (fun n=>hexB (UInt8.ofNat n) == [digs.getD (n / 16) 0,digs.getD (n % 16) 0])=true:=by kernel_rfl
 have:=List.all_eq_true.mp h b.toNat (List.mem_range.mpr b.toNat_lt)
 have e:UInt8.ofNat b.toNat=b:=UInt8.ofNat_toNat
 rw [e] at this
 simpa using this
theorem digs_lt:∀ j,j<16->∀ i,i<j->digs.getD i 0<digs.getD j 0:=by decide
theorem hexS_lt:∀ {a b:List UInt8},a.length=b.length->a<b->hexS a<hexS b
 | [],[],_,h=>absurd h (List.lt_irrefl _)
 | [],_ :: _,h,_=>by simp at h
 | _ :: _,[],h,_=>by simp at h
 | x :: a,y :: b,hl,h=>by
  have e1:hexS (x :: a)=digs.getD (x.toNat / 16) 0 :: digs.getD (x.toNat % 16) 0 :: hexS a:=by
   show hexB x++hexS a=_
   rw [hexB_two]; rfl
  have e2:hexS (y :: b)=digs.getD (y.toNat / 16) 0 :: digs.getD (y.toNat % 16) 0 :: hexS b:=by
   show hexB y++hexS b=_
   rw [hexB_two]; rfl
  have hx:=x.toNat_lt
  have hy:=y.toNat_lt
  rw [e1,e2]
  rcases List.cons_lt_cons_iff.1 h with hxy | ⟨rfl,h2⟩
  ·have hn:x.toNat<y.toNat:=hxy
   by_cases hq:x.toNat / 16=y.toNat / 16
   ·rw [hq]
    exact List.cons_lt_cons_iff.2 (.inr ⟨rfl,List.cons_lt_cons_iff.2 (.inl (digs_lt _ (by omega) _ (by omega)))⟩)
   ·exact List.cons_lt_cons_iff.2 (.inl (digs_lt _ (by omega) _ (by omega)))
  ·exact List.cons_lt_cons_iff.2 (.inr ⟨rfl,List.cons_lt_cons_iff.2 (.inr ⟨rfl,hexS_lt (by simpa using hl) h2⟩)⟩)
theorem bs_tri (a b:List UInt8):a<b∨a=b∨b<a:=by
 by_cases h:a<b
 ·exact .inl h
 ·by_cases h2:b<a
  ·exact .inr (.inr h2)
  ·exact .inr (.inl (List.le_antisymm (List.not_lt.1 h2) (List.not_lt.1 h)))
theorem hexS_lt_iff {a b:List UInt8} (hl:a.length=b.length):hexS a<hexS b↔a<b:=by
 refine ⟨fun h=>?_,hexS_lt hl⟩
 rcases bs_tri a b with h1 | rfl | h1
 ·exact h1
 ·exact absurd h (List.lt_irrefl _)
 ·exact absurd (List.lt_trans h (hexS_lt hl.symm h1)) (List.lt_irrefl _)
def Ris (l:List Ent):Prop:=l.Pairwise fun x y=>x.1<y.1
theorem ris_eq {a b:List Ent} (hp:a.Perm b) (ha:Ris a) (hb:Ris b):a=b :=
 List.Perm.eq_of_pairwise (fun x y _ _ h1 h2=>absurd (List.lt_trans h1 h2) (List.lt_irrefl _)) ha hb hp
theorem ris_of {l:List Ent} (hu:Uq l) (hs:∀ i j,i<j->j<l.length->¬ (l.getD j ([],[])).1<(l.getD i ([],[])).1):Ris l:=by
 unfold Uq at hu
 refine List.pairwise_iff_getElem.2 fun i j hi hj hij=>?_
 have h1:=hs i j hij hj
 have e1:l.getD i ([],[])=l[i]:=by simp [List.getD,hi]
 have e2:l.getD j ([],[])=l[j]:=by simp [List.getD,hj]
 rw [e1,e2] at h1
 rcases bs_tri l[i].1 l[j].1 with h | h | h
 ·exact h
 ·have h2:=List.pairwise_iff_getElem.1 hu i j (by simpa using hi) (by simpa using hj) hij
  exact absurd (by simpa using h) h2
 ·exact absurd h h1
theorem ris_ins {l:List Ent} {e:Ent} {k:Nat} (hr:Ris l) (hk:k<=l.length) (h1:∀ j,j<k->(l.getD j ([],[])).1<e.1) (h2:k<l.length->e.1<(l.getD k ([],[])).1):Ris (l.take k++[e]++l.drop k):=by
 unfold Ris at *
 rw [List.append_assoc,List.pairwise_append]
 have hd:∀ x∈l.drop k,e.1<x.1:=fun x hx=>by
  have hlt:k<l.length:=by
   by_cases h:k<l.length
   ·exact h
   ·rw [List.drop_eq_nil_of_le (by omega)] at hx; cases hx
  have h3:=h2 hlt
  rw [show l.getD k ([],[])=l[k] by simp [List.getD,hlt]] at h3
  have hp:(l.drop k).Pairwise fun x y=>x.1<y.1:=hr.sublist (List.drop_sublist _ _)
  rw [List.drop_eq_getElem_cons hlt] at hx hp
  rcases List.mem_cons.1 hx with rfl | hx
  ·exact h3
  ·exact List.lt_trans h3 ((List.pairwise_cons.1 hp).1 x hx)
 have ht:∀ x∈l.take k,x.1<e.1:=fun x hx=>by
  obtain ⟨j,hj,rfl⟩:=List.getElem_of_mem hx
  rw [List.length_take] at hj
  have:=h1 j (by omega)
  rw [show l.getD j ([],[])=l[j] by simp [List.getD,show j<l.length by omega]] at this
  rw [List.getElem_take]
  exact this
 refine ⟨hr.sublist (List.take_sublist _ _),?_,fun x hx y hy=>?_⟩
 ·show ([e]++l.drop k).Pairwise _
  rw [List.singleton_append,List.pairwise_cons]
  exact ⟨hd,hr.sublist (List.drop_sublist _ _)⟩
 ·rw [List.singleton_append] at hy
  rcases List.mem_cons.1 hy with rfl | hy
  ·exact ht x hx
  ·exact List.lt_trans (ht x hx) (hd y hy)
theorem perm_ins {α:Type} (l:List α) (e:α) (k:Nat):(l.take k++[e]++l.drop k).Perm (l++[e]):=by
 have h:(l.take k++[e]++l.drop k).Perm (l.take k++(l.drop k++[e])):=by
  rw [List.append_assoc]
  exact List.Perm.append_left _ List.perm_append_comm
 rwa [<-List.append_assoc,List.take_append_drop] at h
end
 
section
open Go Go.RowKit
def LoopW (P:Program) (Q:Post) (c:Code) (a:Act) (w:World):Prop:=∀ (b:Frame) (k:List Item) (cs:List Frame),
 ∃ e a' w',Q e a' w'/\Arrives P (lone (b.at a (.code c :: .inLoop c :: k)) cs w) b k cs e a' w'
def WCL (P:Program) (N:Nat) (Q:Post) (c:Code) (L:jj) (w:World):Prop:=∀ a w1,Eqv w w1->Has N L a->LoopW P Q c a w1
section
variable {P:Program} {N:Nat} {Q:Post} {L:jj} {w:World} {c:Code}
theorem WC.unr (h:WCL P N Q c L w):WC P N Q (.loop c) L w:=fun a w1 e ha=>by
 intro b k cs
 obtain ⟨e',a',w',hq,harr⟩:=h a w1 e ha b k cs
 exact ⟨e',a',w',hq,.of_steps (.one step_loop) harr⟩
theorem WCL.one (h:WC P N (Exit.then (LoopW P Q c) Q) c L w):WCL P N Q c L w:=fun a w1 e ha b k cs=>by
 obtain ⟨e,a1,w2,hq,harr⟩:=h a w1 e ha b (.inLoop c :: k) cs
 cases e with
 | normal =>
  obtain ⟨e2,a2,w4,hq2,harr2⟩:=hq b k cs
  exact ⟨e2,a2,w4,hq2,.of_steps (Steps.trans harr (.one step_inLoop)) harr2⟩
 | exit id=>exact ⟨_,a1,w2,hq,.pass (x:=.inLoop c) rfl (fun _ _=>.inl (by simp)) harr⟩
 | goto l=>exact ⟨_,a1,w2,hq,.pass (x:=.inLoop c) rfl (fun _ _=>.inl (by simp)) harr⟩
 | ret=>exact ⟨_,a1,w2,hq,.pass (x:=.inLoop c) rfl (fun _ _=>.inl (by simp)) harr⟩
 | panic ch=>exact ⟨_,a1,w2,hq,.pass (x:=.inLoop c) rfl (fun _ _=>.inl (by simp)) harr⟩
 | outgrown=>exact ⟨_,a1,w2,hq,.pass (x:=.inLoop c) rfl (fun _ _=>.inl (by simp)) harr⟩
theorem WX.unr (h:WCL P N Q c L w):WX N (Exit.then (LoopW P Q c) Q) .normal L w:=h
end
end
 
section
open Go Go.RowKit
structure Hdr where
 A:Option Addr
 n:Nat
 c:Nat
def hd0:Hdr:=⟨none,0,0⟩
def vh (h:Hdr):Value:=.slice h.A h.n h.c
theorem One.h:One vh:=fun _=>rfl
structure DE (H X:Type) where
 rel:World->H->X->Prop
 dn:H->X->Option Nat->Prop
 goL:∀ {w w':World} {h:H} {x:X} {ps:List (Option Nat)},rel w h x->GrL ps w w'->AllP (dn h x) ps->rel w' h x
 new:∀ {w:World} {h:H} {x:X} {p:Option Nat},rel w h x->Ge p w.heap.size->dn h x p
 app:∀ {w:World} {h:H} {x:X} {ps:List (Option Nat)} {p:Option Nat},rel w h x->AllP (dn h x) ps->InP ps w.heap.size p->dn h x p
def DE.sl {α:Type} (f:α->Value):DE Hdr (List α) where
 rel w h x:=h.n=x.length/\Rd f w h.A h.c x
 dn h x p:=Dn x (blk h.A) p
 goL h k a:=⟨h.1,h.2.goL k a⟩
 new h k:=Dn.new (fun hx=>h.2.lt' hx) k
 app h a k:=InP.dn k (fun hx=>h.2.lt' hx) a
def RelD {H X:Type} (d:DE H X) (w:World) (hs:List H) (xs:List X):Prop:=hs.length=xs.length/\∀ (i:Nat) (h:H) (x:X),hs[i]? = some h->xs[i]? = some x->d.rel w h x
def DnD {H X:Type} (d:DE H X) (hs:List H) (xs:List X) (p:Option Nat):Prop:=∀ (i:Nat) (h:H) (x:X),hs[i]? = some h->xs[i]? = some x->d.dn h x p
section
variable {H X:Type} {d:DE H X} {w w':World} {hs hs':List H} {xs xs':List X} {ps:List (Option Nat)} {p:Option Nat} {i:Nat} {h:H} {x:X} {row:Option Nat}
theorem RelD.goL (k:RelD d w hs xs) (hg:GrL ps w w') (a:AllP (DnD d hs xs) ps):RelD d w' hs xs:=⟨k.1,fun i h x hh hx=>d.goL (k.2 i h x hh hx) hg fun p hp=>a p hp i h x hh hx⟩
theorem RelD.go (k:RelD d w hs xs) (hg:w.grownBy w' row) (a:DnD d hs xs row):RelD d w' hs xs:=k.goL (GrL.of1 hg) (apC a apN)
theorem RelD.grown (k:RelD d w hs xs) (hg:w.grownBy w' none):RelD d w' hs xs:=k.goL (ps:=[]) (GrL.of0 hg) apN
theorem RelD.new (k:RelD d w hs xs) (hp:Ge p w.heap.size):DnD d hs xs p:=fun i h x hh hx=>d.new (k.2 i h x hh hx) hp
theorem RelD.inp (k:RelD d w hs xs) (a:AllP (DnD d hs xs) ps) (hp:InP ps w.heap.size p):DnD d hs xs p:=fun i h x hh hx=>d.app (k.2 i h x hh hx) (fun q hq=>a q hq i h x hh hx) hp
theorem RelD.app {p':Option Nat} (k:RelD d w hs xs) (a:DnD d hs xs p) (hk:∀ g,p'=some g->p=some g∨w.heap.size<=g):DnD d hs xs p':=fun i h x hh hx=>d.app (k.2 i h x hh hx) (ps:=[p]) (apC (a i h x hh hx) apN) (InP.app (ps:=[p]) (InP.mem (List.Mem.head _)) hk (Nat.le_refl _))
theorem RelD.nil:RelD d w [] []:=⟨rfl,fun i h x hh=>by simp at hh⟩
theorem DnD.nil:DnD d [] [] p:=fun i h x hh=>by simp at hh
theorem DnD.none (k:RelD d w hs xs):DnD d hs xs none:=k.new Ge.none
theorem RelD.cons (k:d.rel w h x) (t:RelD d w hs xs):RelD d w (h :: hs) (x :: xs):=⟨by simp [t.1],fun i h' x' hh hx=>by
 cases i with
 | zero=>simp only [List.getElem?_cons_zero,Option.some.injEq] at hh hx; subst hh; subst hx; exact k
 | succ i=>exact t.2 i h' x' (by simpa using hh) (by simpa using hx)⟩
theorem DnD.cons (k:d.dn h x p) (t:DnD d hs xs p):DnD d (h :: hs) (x :: xs) p:=fun i h' x' hh hx=>by
 cases i with
 | zero=>simp only [List.getElem?_cons_zero,Option.some.injEq] at hh hx; subst hh; subst hx; exact k
 | succ i=>exact t i h' x' (by simpa using hh) (by simpa using hx)
theorem RelD.append (k:RelD d w hs xs) (t:RelD d w hs' xs'):RelD d w (hs++hs') (xs++xs'):=⟨by simp [k.1,t.1],fun i h x hh hx=>by
 by_cases hi:i<hs.length
 ·rw [List.getElem?_append_left hi] at hh
  rw [List.getElem?_append_left (by rw [<-k.1]; exact hi)] at hx
  exact k.2 i h x hh hx
 ·rw [List.getElem?_append_right (by omega)] at hh
  rw [List.getElem?_append_right (by rw [<-k.1]; omega),<-k.1] at hx
  exact t.2 _ h x hh hx⟩
theorem DnD.append (hl:hs.length=xs.length) (k:DnD d hs xs p) (t:DnD d hs' xs' p):DnD d (hs++hs') (xs++xs') p:=fun i h x hh hx=>by
 by_cases hi:i<hs.length
 ·rw [List.getElem?_append_left hi] at hh
  rw [List.getElem?_append_left (by rw [<-hl]; exact hi)] at hx
  exact k i h x hh hx
 ·rw [List.getElem?_append_right (by omega)] at hh
  rw [List.getElem?_append_right (by rw [<-hl]; omega),<-hl] at hx
  exact t _ h x hh hx
theorem RelD.set (k:RelD d w hs xs) (t:d.rel w h x) (j:Nat):RelD d w (hs.set j h) (xs.set j x):=⟨by simp [k.1],fun i h' x' hh hx=>by
 rw [List.getElem?_set] at hh hx
 by_cases hj:j=i
 ·subst hj
  rw [if_pos rfl] at hh hx
  split at hh
  ·split at hx
   ·simp only [Option.some.injEq] at hh hx
    subst hh; subst hx; exact t
   ·cases hx
  ·cases hh
 ·rw [if_neg hj] at hh hx
  exact k.2 i h' x' hh hx⟩
theorem DnD.set (k:DnD d hs xs p) (t:d.dn h x p) (j:Nat):DnD d (hs.set j h) (xs.set j x) p:=fun i h' x' hh hx=>by
 rw [List.getElem?_set] at hh hx
 by_cases hj:j=i
 ·subst hj
  rw [if_pos rfl] at hh hx
  split at hh
  ·split at hx
   ·simp only [Option.some.injEq] at hh hx
    subst hh; subst hx; exact t
   ·cases hx
  ·cases hh
 ·rw [if_neg hj] at hh hx
  exact k i h' x' hh hx
def NewD (d:DE H X) (hs:List H) (xs:List X) (n:Nat):Prop:=∀ p:Option Nat,(∀ g,p=some g->g<n)->DnD d hs xs p
theorem NewD.nil {n:Nat}:NewD d [] [] n:=fun _ _=>DnD.nil
theorem NewD.append {n:Nat} (hl:hs.length=xs.length) (a:NewD d hs xs n) (b:NewD d hs' xs' n):NewD d (hs++hs') (xs++xs') n:=fun p hp=>DnD.append hl (a p hp) (b p hp)
theorem NewD.cons {n:Nat} (a:∀ p:Option Nat,(∀ g,p=some g->g<n)->d.dn h x p) (b:NewD d hs xs n):NewD d (h :: hs) (x :: xs) n:=fun p hp=>DnD.cons (a p hp) (b p hp)
theorem NewD.le {n m:Nat} (a:NewD d hs xs n) (h:m<=n):NewD d hs xs m:=fun p hp=>a p fun g e=>Nat.lt_of_lt_of_le (hp g e) h
theorem RelD.drop (k:RelD d w hs xs) (n:Nat):RelD d w (hs.drop n) (xs.drop n):=⟨by simp [k.1],fun i h x hh hx=>k.2 (n+i) h x (by simpa [List.getElem?_drop] using hh) (by simpa [List.getElem?_drop] using hx)⟩
theorem DnD.drop (k:DnD d hs xs p) (n:Nat):DnD d (hs.drop n) (xs.drop n) p:=fun i h x hh hx=>k (n+i) h x (by simpa [List.getElem?_drop] using hh) (by simpa [List.getElem?_drop] using hx)
theorem RelD.take (k:RelD d w hs xs) (n:Nat):RelD d w (hs.take n) (xs.take n):=⟨by simp [k.1],fun i h x hh hx=>by
 rw [List.getElem?_take] at hh hx
 split at hh
 ·rw [if_pos (by assumption)] at hx; exact k.2 i h x hh hx
 ·cases hh⟩
theorem DnD.take (k:DnD d hs xs p) (n:Nat):DnD d (hs.take n) (xs.take n) p:=fun i h x hh hx=>by
 rw [List.getElem?_take] at hh hx
 split at hh
 ·rw [if_pos (by assumption)] at hx; exact k i h x hh hx
 ·cases hh
theorem RelD.at (k:RelD d w hs xs) (dh:H) (dx:X) {j:Nat} (hj:j<xs.length):∃ h,hs.getD j dh=h/\d.rel w h (xs.getD j dx):=by
 have hj2:j<hs.length:=by rw [k.1]; exact hj
 refine ⟨_,rfl,k.2 j _ _ ?_ ?_⟩
 ·simp [List.getD,hj2]
 ·simp [List.getD,hj]
theorem DnD.at (k:DnD d hs xs p) (hl:hs.length=xs.length) {dh:H} {dx:X} {j:Nat} (hj:j<xs.length) {h:H} (hh:hs.getD j dh=h):d.dn h (xs.getD j dx) p:=by
 have hj2:j<hs.length:=by rw [hl]; exact hj
 subst hh
 exact k j _ _ (by simp [List.getD,hj2]) (by simp [List.getD,hj])
end
section
variable {P:Program} {N:Nat} {L:jj} {w:World} {o:Oper} {u v:Value}
theorem qX (h:Yld P N w o L u) (e:u=v):Yld P N w o L v:=e ▸ h
end
section
variable {P:Program} {N:Nat} {L:jj} {w:World}
end
end
 
section
open Go Go.RowKit
def Lp18 {A0 A1 A2 A3 A4 A5 A6 A7 A8 A9 A10 A11 A12 A13 A14 A15 A16 A17:Type} (b:A0->A1->A2->A3->A4->A5->A6->A7->A8->A9->A10->A11->A12->A13->A14->A15->A16->A17->(A0->A1->A2->A3->A4->A5->A6->A7->A8->A9->A10->A11->A12->A13->A14->A15->A16->A17->Prop)->Prop) (x0:A0) (x1:A1) (x2:A2) (x3:A3) (x4:A4) (x5:A5) (x6:A6) (x7:A7) (x8:A8) (x9:A9) (x10:A10) (x11:A11) (x12:A12) (x13:A13) (x14:A14) (x15:A15) (x16:A16) (x17:A17):Prop:=∃ (I:A0->A1->A2->A3->A4->A5->A6->A7->A8->A9->A10->A11->A12->A13->A14->A15->A16->A17->Prop) (mu:A0->A1->A2->A3->A4->A5->A6->A7->A8->A9->A10->A11->A12->A13->A14->A15->A16->A17->Nat),I x0 x1 x2 x3 x4 x5 x6 x7 x8 x9 x10 x11 x12 x13 x14 x15 x16 x17/\∀ x0 x1 x2 x3 x4 x5 x6 x7 x8 x9 x10 x11 x12 x13 x14 x15 x16 x17,I x0 x1 x2 x3 x4 x5 x6 x7 x8 x9 x10 x11 x12 x13 x14 x15 x16 x17->b x0 x1 x2 x3 x4 x5 x6 x7 x8 x9 x10 x11 x12 x13 x14 x15 x16 x17 fun y0 y1 y2 y3 y4 y5 y6 y7 y8 y9 y10 y11 y12 y13 y14 y15 y16 y17=>I y0 y1 y2 y3 y4 y5 y6 y7 y8 y9 y10 y11 y12 y13 y14 y15 y16 y17/\mu y0 y1 y2 y3 y4 y5 y6 y7 y8 y9 y10 y11 y12 y13 y14 y15 y16 y17<mu x0 x1 x2 x3 x4 x5 x6 x7 x8 x9 x10 x11 x12 x13 x14 x15 x16 x17
theorem InP.out {ps:List (Option Nat)} {n:Nat} {p:Option Nat} (h:InP ps n p) (k:AllP (Dj p) ps):Ge p n:=fun g hg=>by
 rcases h g hg with h1 | h1
 ·exact h1
 ·exact absurd rfl (k _ h1 g hg)
section
variable {P:Program} {N d:Nat} {ops:Array Oper} {Q:Post} {rest:List Oper} {L:jj} {w:World} {T:Tab} {ty t:TypeId} {pos:String} {af:Array Edge} {x y i:Operand}
variable {α:Type} {k:Nat} {f:α->List Value} {A:Option Addr} {c n B:Nat} {xs ys:List α} {e:TypeId}
theorem zZ {dd:Option Tmp} {g k:Nat} {kk:IntKind} {q:Int} {e:TypeId} (hT:T.Ok P) (hs:nk T.sl t=some (e,k)) (hx:opv L x=some (.slice (some ⟨g,0,none⟩) 1 1)) (hi:opv L i=some (.int kk q)) (h:q=0) :
  Yld P N w ⟨dd,.indexAddr t x i,ty,pos,af,none⟩ L (.pointer (some ⟨g,0,none⟩)):=fun a w1 _ ha=>by
 subst h
 obtain ⟨hu,j,hj,hj1⟩:=hT.sl hs
 unfold execOp
 simp [ha.ev hx,ha.ev hi,Instr.indexAt,run_underlying hu,asIntOf,sizeOf,typeInfo,hj,hj1,Addr.add]
theorem qT {A2:Option Addr} {c2 n2:Nat} {b:Nat} (hs:ckOwK P t e k b=true) (hO:OwnK k f w B e A c xs) (hA:A≠none) (hx:opv L x=some (.slice A n c)) (hn:n=xs.length) (hR:RdK k f w A2 c2 ys) (hy:opv L y=some (.slice A2 n2 c2)) (hn2:n2=ys.length) (hroom:xs.length+ys.length<=c) :
  Eff P N w ⟨some d,.call ⟨.builtin .append,⟨[x,y]⟩,⟨[t,t]⟩⟩,ty,pos,af,none⟩ L (fun v w'=>v=.slice A (xs++ys).length c/\OwnK k f w' B e A c (xs++ys)/\w.grownBy w' (blk A)):=fun a w1 hw ha=>by
 obtain ⟨hu,i,z,hi,hz,hi1,hib,hz1⟩:=ckOwK_spec hs
 subst hn; subst hn2
 have hf:=hO.1
 have hfx:=hf.flen xs
 have hfy:=hf.flen ys
 have hS:=src_rdK hu (hR.eqv hw)
 rcases (hO.eqv hw).2.2 with ⟨hv,hn⟩ | ⟨g,cap,cur,hv,hb,hg,hnc,hcm',hcs,htake⟩
 ·simp only [Value.slice.injEq] at hv
  exact absurd hv.1 hA
 ·simp only [Value.slice.injEq] at hv
  obtain ⟨rfl,_,rfl⟩:=hv
  have hB1:Bl w1 g e cur.toList:=hg
  have hcl:cur.toList.length=c*k:=by simpa using hcs
  have hxk:xs.length*k+ys.length*k<=c*k:=by rw [<-Nat.add_mul]; exact Nat.mul_le_mul_right k hroom
  have hr:=run_append_room_src (P:=P) w1 t t ty e i hu hi g 0 xs.length c (.slice A2 ys.length c2) ys.length (ys.flatMap f) (by rw [hi1]; exact hS) hroom (fun j hj=>by
   rw [hi1,hB1.cell]
   rw [List.getElem?_eq_getElem (by omega)]
   rfl) (fun j _=>hB1.frozen _)
  have hst:=run_storeCells_at P g (xs.length*k) e (ys.flatMap f) 0 cur w1 hg (by simp at hcl; omega) hS.one
  have hst2:=run_storeCells_cells (P:=P) g (xs.length*k) (ys.flatMap f) 0 w1 (fun j hj=>by
   rw [hB1.cell]
   rw [List.getElem?_eq_getElem (by omega)]
   rfl) (fun j _=>hB1.frozen _) hS.one
  have hw2:w1.setCells g (0+xs.length*i.size) (ys.flatMap f)=w1.setRow g (List.take (xs.length*k+0) cur.toList++ys.flatMap f++List.drop (xs.length*k+0+(ys.flatMap f).length) cur.toList).toArray:=by
   rw [hst] at hst2
   injection hst2 with _ h2
   rw [hi1,Nat.zero_add]
   exact h2.symm
  rw [hw2] at hr
  refine ⟨.slice (some ⟨g,0,none⟩) (xs++ys).length c,w1.setRow g (List.take (xs.length*k+0) cur.toList++ys.flatMap f++List.drop (xs.length*k+0+(ys.flatMap f).length) cur.toList).toArray,?_,rfl,⟨hf,?_⟩,kh hw ⟨rfl,rfl,rfl,by simp,fun k _ hk=>setRow_other w1 g k _ (fun e=>hk (by simp [blk,e]))⟩⟩
  ·unfold execOp
   simp [resolve,invoke,builtin,ha.ev hx,ha.ev hy,hr,List.length_append]
  ·refine ⟨hf.flen _,.inr ⟨g,c,_,by rw [List.length_append],hb,setRow_heap w1 g cur _ e _ hg,by rw [List.length_append]; exact hroom,hcm',?_,?_⟩⟩
   ·simp only [List.size_toArray,List.length_append,List.length_take,List.length_drop,hcl,hfy]
    omega
   ·rw [hf.flen (xs++ys) |>.symm]
    simp only [Nat.add_zero,htake,List.flatMap_append]
    rw [List.take_left' (by simp)]
theorem OwnK.bl1 {g:Nat} {p:α} (h:OwnK k f w B e (some ⟨g,0,none⟩) 1 [p]):Bl w g e (f p):=by
 rcases h.2.2 with ⟨hv,hn⟩ | ⟨g2,cap,cur,hv,hb,hg,hnc,hcm,hcs,htake⟩
 ·simp at hn
 ·simp only [Value.slice.injEq,Option.some.injEq,Addr.mk.injEq] at hv
  obtain ⟨⟨rfl,_⟩,_,rfl⟩:=hv
  have hl:cur.toList.length=1*k:=by simpa using hcs
  have e1:cur.toList=f p:=by
   have e2:[p].flatMap f=f p:=by simp
   rw [e2] at htake
   rw [<-htake,List.take_of_length_le (by rw [hl]; simp)]
  unfold Bl
  rw [<-e1]
  exact hg
theorem splitP {a X b:List Value} {o m:Nat} (h:o+m<=X.length):(a++X++b).take (a.length+o)=a++X.take o/\(a++X++b).drop (a.length+o+m)=X.drop (o+m)++b:=by
 constructor
 ·rw [List.append_assoc,List.take_append,List.take_of_length_le (Nat.le_add_right _ _),Nat.add_sub_cancel_left,List.take_append_of_le_length (by omega)]
 ·rw [List.append_assoc,Nat.add_assoc,List.drop_append,List.drop_eq_nil_of_le (Nat.le_add_right _ _),Nat.add_sub_cancel_left,List.nil_append,List.drop_append_of_le_length h]
theorem Ef0.ostoreP {j o m:Nat} {vs:List Value} {v:α} (dv:α) (hT:T.Ok P) (h1:nk T.agg t=some m) (hO:OwnK k f w B e A c xs) (hx:opv L x=some (.pointer (A.map (·.add (j*k+o))))) (hy:opv L y=some (.agg ⟨vs⟩)) (hj:j<xs.length) (hm:vs.length=m) (ho:o+m<=k) (hv:f v=(f (xs.getD j dv)).take o++vs++(f (xs.getD j dv)).drop (o+m)) :
  Ef0 P N w ⟨none,.store t x y,ty,pos,af,none⟩ L fun w'=>OwnK k f w' B e A c (xs.set j v)/\w.grownBy w' (blk A):=by
 have hfl:=hO.1.flen xs
 have hone:∀ u∈vs,u.oneCell'=true:=fun u hu=>hO.1.one v u (by rw [hv]; simp [hu])
 have hset:(xs.set j v).flatMap f=(xs.flatMap f).take (j*k+o)++vs++(xs.flatMap f).drop (j*k+o+m):=by
  have e1:=hO.1.fset xs j (xs.getD j dv) hj
  have e0:xs.set j (xs.getD j dv)=xs:=by
   rw [show xs.getD j dv=xs[j] by simp [List.getD,hj]]
   exact List.set_getElem_self hj
  rw [e0] at e1
  have hjk:j*k+k<=xs.length*k:=by rw [<-Nat.succ_mul]; exact Nat.mul_le_mul_right k (by omega)
  have hlt:((xs.flatMap f).take (j*k)).length=j*k:=by rw [List.length_take]; omega
  have hsp:=splitP (a:=(xs.flatMap f).take (j*k)) (X:=f (xs.getD j dv)) (b:=(xs.flatMap f).drop (j*k+k)) (o:=o) (m:=m) (by rw [hO.1.len]; exact ho)
  rw [hlt,<-e1] at hsp
  rw [hO.1.fset xs j v hj,hsp.1,hsp.2,hv]
  simp only [List.append_assoc]
 rcases hO.2.2 with ⟨hv,hn⟩ | ⟨g,cap,cur,hs,hb,hg,hnc,hcm,hcs,htake⟩
 ·omega
 ·simp only [Value.slice.injEq] at hs
  obtain ⟨rfl,_,rfl⟩:=hs
  have hcl:cur.toList.length=c*k:=by simpa using hcs
  have hjk:j*k+k<=xs.length*k:=by rw [<-Nat.succ_mul]; exact Nat.mul_le_mul_right k (by omega)
  have hck:xs.length*k<=c*k:=Nat.mul_le_mul_right k hnc
  intro a w1 hw ha
  obtain ⟨_,i,hi,hi1⟩:=hT.agg h1
  have hg1:w1.heap[g]? = some (.cells cur e (0,0)):=by rw [hw.heap]; exact hg
  have hst:=run_storeCells_at P g (j*k+o) e vs 0 cur w1 hg1 (by omega) hone
  refine ⟨w1.setRow g (List.take (j*k+o+0) cur.toList++vs++List.drop (j*k+o+0+vs.length) cur.toList).toArray,?_,⟨hO.1,hO.1.flen _,.inr ⟨g,c,_,by simp,hb,setRow_heap w1 g cur _ e _ hg1,by simpa using hnc,hcm,?_,?_⟩⟩,kh hw ⟨rfl,rfl,rfl,by simp,fun p _ hp=>setRow_other w1 g p _ (fun e=>hp (by simp [blk,e]))⟩⟩
  ·unfold execOp
   have hcell:(Value.agg ⟨vs⟩).cells=⟨vs⟩:=rfl
   have hsz:(⟨vs⟩:Array Value).size=m:=hm
   simp only [ha.ev hx,ha.ev hy,Option.map_some,Addr.add_mid,Nat.zero_add,Sem.run_bind,Instr.storeAt,Instr.sureAddr,Sem.run_pure,Result.andThen_ok,storeVar,hcell,sizeOf,typeInfo,program,Sem.run,hi,hi1]
   simp only [hsz,ne_eq,not_true_eq_false,if_false]
   rw [hst]
   rfl
  ·simp only [List.size_toArray,List.length_append,List.length_take,List.length_drop,hm,hcl]
   omega
  ·rw [hset,List.length_set,<-htake]
   simp only [Nat.add_zero,hm]
   exact splice_take hm (by omega) (by omega)
end
def encE0 (p:List UInt8):List Value:=[vs p,.bool false,vs [],.bool false,vs [],.slice none 0 0]
theorem encE0_ok:OneK 6 encE0:=⟨by omega,fun _=>rfl,fun _=>(jd rfl (jd rfl (jd rfl (jd rfl (jd rfl (jd rfl kg))))))⟩
theorem owE0:ckOwK Tryz.prog 71 89 6 88=true:=by kernel_rfl
attribute [local irreducible] WL WC WX WQ WK WJ Yld Eff Ef0 Fn
set_option maxRecDepth 100000 in
theorem find0_fn {w:World} {g:Nat} {ops armed:Int} {down:Bool} {p:List UInt8} (hd:Bl w g 73 [.slice none 0 0,.int .i64 ops,.int .i64 armed,.bool down]) :
  Fn Tryz.prog 39 ⟨[.pointer (some ⟨g,0,none⟩),vs p]⟩ w (fun v w'=>w=w'/\v=.int .i64 (-1:Int)):=by
 refine Fn.enter (by kernel_rfl) Tryz.func39 rfl Tryz.ntmps39 rfl ?_
 refine zd (zb ?_)
 refine zg rfl (zc qY rfl) ?_
 refine zf (za ?_)
 refine zd (zd (zb ?_))
 refine zg rfl (zc qY rfl) ?_
 refine zf (za ?_)
 refine WC.block (WC.unr (WCL.one ?_))
 refine zd (zd (zb ?_))
 refine zg rfl (zc qY rfl) ?_
 refine zg rfl (zc qY rfl) ?_
 refine zg rfl (zc qY rfl) ?_
 refine zg rfl (zc qY rfl) ?_
 refine zg rfl (zk qY hd rfl rfl rfl) ?_
 refine zg rfl (qX (v:=.int .i64 (0:Int)) (zc qY rfl) rfl) ?_
 refine zg rfl (qX (v:=.bool false) (zc qY rfl) rfl) ?_
 refine zf (za ?_)
 refine zp rfl (fun h=>by cases h) (fun _=>?_)
 refine zD (zj (zj (zm (za ?_))))
 refine zd (zb ?_)
 refine zg rfl (zc qY rfl) ?_
 refine zf (za ?_)
 refine zq ?_
 exact zw rfl rfl ⟨rfl,rfl⟩
set_option maxRecDepth 100000 in
set_option maxHeartbeats 4000000 in
theorem entry0_fn {w:World} {g:Nat} {ops armed:Int} {down:Bool} {p:List UInt8} (hd:Bl w g 73 [.slice none 0 0,.int .i64 ops,.int .i64 armed,.bool down]) :
  Fn Tryz.prog 40 ⟨[.pointer (some ⟨g,0,none⟩),vs p]⟩ w (fun v w'=>∃ g',v=.int .i64 (0:Int)/\Bl w' g 73 [.slice (some ⟨g',0,none⟩) 1 1,.int .i64 ops,.int .i64 armed,.bool down]/\Bl w' g' 89 (encE0 p)/\GrL [some g] w w'/\Ge (some g') w.heap.size):=by
 refine Fn.enter (by kernel_rfl) Tryz.func40 rfl Tryz.ntmps40 rfl ?_
 refine zd (zb ?_)
 refine zg rfl (zc qY rfl) ?_
 refine zf (za ?_)
 refine zd (zb ?_)
 refine zg rfl (zc qY rfl) ?_
 refine zf (za ?_)
 refine zd (WC.block (WC.unr (WCL.one ?_)))
 refine zd (zd (zb ?_))
 refine zg rfl (zc qY rfl) ?_
 refine zg rfl (zc qY rfl) ?_
 refine zg rfl (zc qY rfl) ?_
 refine zg rfl (zc qY rfl) ?_
 refine zg rfl (zk qY hd rfl rfl rfl) ?_
 refine zg rfl (qX (v:=.int .i64 (0:Int)) (zc qY rfl) rfl) ?_
 refine zg rfl (qX (v:=.bool false) (zc qY rfl) rfl) ?_
 refine zg rfl (zc qY rfl) ?_
 repeat (first | refine zV rfl rfl rfl rfl ?_ | refine qo rfl rfl rfl rfl ?_)
 refine zg rfl (zr rfl rfl) ?_
 refine zf (za ?_)
 refine zp rfl (fun h=>by cases h) (fun _=>?_)
 refine zD (zj (zj (zm (za ?_))))
 refine zd (zd (zb ?_))
 refine zg rfl (zc qY rfl) ?_
 refine zg rfl (zc qY rfl) ?_
 refine zg rfl (zc qY rfl) ?_
 refine zg rfl (zc qY rfl) ?_
 refine zg rfl (zk qY hd rfl rfl rfl) ?_
 refine zg rfl (qX (v:=.int .i64 (0:Int)) (zc qY rfl) rfl) ?_
 refine zg rfl (qX (v:=.bool false) (zc qY rfl) rfl) ?_
 refine zg rfl (zc qY rfl) ?_
 repeat (first | refine zV rfl rfl rfl rfl ?_ | refine qo rfl rfl rfl rfl ?_)
 refine zg rfl (zr rfl rfl) ?_
 refine zf (za ?_)
 refine zp rfl (fun h=>by cases h) (fun _=>?_)
 refine zo (za ?_)
 refine zd ?_
 refine zO (fun k => !(Nat.beq k 6 || Nat.beq k 13)) (LD [3,10] (fun w'=>Bl w' g 73 [.slice none 0 0,.int .i64 ops,.int .i64 armed,.bool down])) mixed (by kernel_rfl) (fun k w' h _=>ji h hd) ?_
 refine zl rfl rfl (fun w' hw'=>zc qY rfl) ?_
 refine zl rfl rfl (fun w' hw'=>zc qY rfl) ?_
 refine zl rfl rfl (fun w' hw'=>zc qY rfl) ?_
 refine zl rfl rfl (fun w' hw'=>zk qY (hw' rfl) rfl rfl rfl) ?_
 refine zl rfl rfl (fun w' hw'=>qX (v:=.int .i64 (0:Int)) (zc qY rfl) rfl) ?_
 refine zl rfl rfl (fun w' hw'=>qX (v:=.int .i64 (1:Int)) (Yld.add rfl rfl (by simp only [In]; omega)) rfl) ?_
 refine qr rfl (je) rfl (Eff.makeCK (f:=encE0) (B:=w.heap.size) encE0_ok owE0 rfl rfl (by omega) (by omega) (by omega) (Nat.le_refl _)) (fun v w' ⟨_,_,h⟩=>DD.keep (hd.g0 h)) ?_
 rintro _ w4 ⟨rfl,hO1,hg1⟩
 have hd1:=hd.g0 hg1
 obtain ⟨g',hl1⟩:∃ g,g=w.heap.size:=⟨_,rfl⟩
 rw [<-hl1] at hO1
 rw [<-hl1]
 refine zl rfl rfl (fun w' hw'=>zc qY rfl) ?_
 refine zl rfl rfl (fun w' hw'=>zc qY rfl) ?_
 refine zl rfl rfl (fun w' hw'=>zc qY rfl) ?_
 refine zl rfl rfl (fun w' hw'=>zk qY (hw' rfl) rfl rfl rfl) ?_
 refine zl rfl rfl (fun w' hw'=>zc qY rfl) ?_
 refine zl rfl rfl (fun w' hw'=>Yld.ocutYK (xs:=([]:List (List UInt8))) qY (RdK.nil encE0_ok w4 (A:=none) (c:=0) (Nat.zero_le _)) rfl rfl rfl rfl rfl (Int.le_refl 0) (Int.le_refl 0)) ?_
 refine qr rfl (je) rfl (qT (f:=encE0) (ys:=([]:List (List UInt8))) owE0 hO1 (by simp) rfl rfl (RdK.nil encE0_ok w4 (A:=none) (c:=0) (Nat.zero_le _)) rfl rfl (by simp)) (fun v w' h=>qf (by kernel_rfl)) ?_
 rintro _ w5 ⟨rfl,hO2,hg2⟩
 have hne:g≠g':=fun e=>by have:=hd.lt; omega
 have hd2:=hd1.go hg2 (fun x hx hy=>hne (by simp [blk] at hx hy; omega))
 refine zl rfl rfl (fun w' hw'=>zc qY rfl) ?_
 refine z8 (za ?_)
 refine zd (zb ?_)
 refine zg rfl (zc qY rfl) ?_
 refine zg rfl (zc qY rfl) ?_
 refine zg rfl (z6 (us:=encE0 p) zero89 places89 rfl rfl) ?_
 refine qO (f:=encE0) [p] encE0_ok rfl owE0 rfl rfl rfl (fun g1 w6 hB2 hg3 hl2=>?_)
 have hO3:=hO2.grown hg3
 have hd3:=hd2.g0 hg3
 refine qQ je rfl (qT (f:=encE0) owE0 hO3 (by simp) rfl rfl (OwnK.ofBl encE0_ok hB2 (Nat.zero_le _) (by simp [maxLen]) rfl).rd rfl rfl (by simp)) ?_
 rintro _ w7 ⟨rfl,hO4,hg4⟩
 have hd4:=hd3.go hg4 (fun x hx hy=>hne (by simp [blk] at hx hy; omega))
 refine zg rfl (zc qY rfl) ?_
 refine zf (za ?_)
 refine zd (zb ?_)
 refine zg rfl (zc qY rfl) ?_
 refine zg rfl (zc qY rfl) ?_
 refine zg rfl (zc qY rfl) ?_
 refine zg rfl (zc qY rfl) ?_
 refine zg rfl (zc qY rfl) ?_
 refine zg rfl (zk qY hd4 rfl rfl rfl) ?_
 refine zg rfl (zc qY rfl) ?_
 refine WL.cutFK (xs:=([]:List (List UInt8))) qY (RdK.nil encE0_ok w7 (A:=none) (c:=0) (Nat.zero_le _)) rfl rfl rfl rfl rfl (Int.le_refl 0) (Int.le_refl 0) (fun A_t c_t hR1 hb1=>?_)
 refine qQ je rfl (qT (f:=encE0) owE0 hO4 (by simp) rfl rfl hR1 rfl rfl (by simp)) ?_
 rintro _ w8 ⟨rfl,hO5,hg5⟩
 have hd5:=hd4.go hg5 (fun x hx hy=>hne (by simp [blk] at hx hy; omega))
 refine zg rfl (zc qY rfl) ?_
 refine zg rfl (zc qY rfl) ?_
 refine zR one71 rfl rfl rfl hd5 (by simp) (fun w9 hB9 hg9=>?_)
 refine zf (za ?_)
 refine zd (zb ?_)
 refine zg rfl (zc qY rfl) ?_
 refine zg rfl (zc qY rfl) ?_
 refine zf (za ?_)
 refine zq ?_
 have hge:Ge (some g') w.heap.size:=Ge.box (Nat.le_of_eq hl1.symm)
 have gr1:=GrL.of0 (ps:=[some g]) hg1
 have gr2:GrL [some g] w w5:=GrL.mod gr1 hg2 (InP.ge hge)
 have gr3:=GrL.add0 gr2 hg3
 have gr4:GrL [some g] w w7:=GrL.mod gr3 hg4 (InP.ge hge)
 have gr5:GrL [some g] w w8:=GrL.mod gr4 hg5 (InP.ge hge)
 have gr6:GrL [some g] w w9:=GrL.mod gr5 hg9 (InP.mem (List.Mem.head _))
 have hE:Bl w8 g' 89 (encE0 p):=OwnK.bl1 hO5
 exact zw rfl rfl ⟨g',rfl,hB9,hE.go hg9 (fun x hx hy=>hne (by simp at hx hy; omega)),gr6,Ge.box (Nat.le_refl _)⟩
end
 end Go.Proofs.YtafpeckmdjplnaaGreatDoor
