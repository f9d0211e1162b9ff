/- Texts of this claim, joined by a program: GLp, GLq, Lpp. -/
import Derived.Test.YtjoepdjeekadcaaGreatDoorJ4
namespace Go.Proofs.YtjoepdjeekadcaaGreatDoor

section
open Go Go.RowKit
attribute [local irreducible] WL WC WX WQ WK WJ Yld Eff Ef0 Fn
def kj (n:Int) (m_n:Nat) (K:Int->Prop):Prop :=
 M_num_Num_Int n m_n (fun (t70:Int) (t71:Bool) =>
 ((t71=true->K t70) /\
 (t71=false->kb n m_n 0 0 (fun (t16:Int) =>
 ((t16<(0:Int)->K (-9223372036854775808:Int)) /\
 (¬ (t16<(0:Int))->K (9223372036854775807:Int)))))))
def M_str_bound (n:Int) (i:Int) (K:Int->Prop):Prop :=
 ∃ J1:Int->Prop,(((i<(0:Int)->(In .i64 (i+n)) /\
 J1 (i+n)) /\
 (¬ (i<(0:Int))->J1 i))) /\
 (∀ i2:Int,J1 i2->K (if n<(if i2<(0:Int) then (0:Int) else i2) then n else (if i2<(0:Int) then (0:Int) else i2)))
def M_str_Cut (n:Int) (from_:Int) (to_:Int) (has:Bool) (until_:Bool) (K:Int->Int->Prop):Prop :=
 ∃ J1:Int->Prop,((((!has)=true->J1 (0:Int)) /\
 ((!has)=false->J1 from_))) /\
 (∀ from_2:Int,J1 from_2->∃ J2:Int->Prop,((((!until_)=true->J2 (if n<(0:Int) then (0:Int) else n)) /\
 ((!until_)=false->J2 to_))) /\
 (∀ to_2:Int,J2 to_2->M_str_bound (if n<(0:Int) then (0:Int) else n) from_2 (fun (from_3:Int) =>
 M_str_bound (if n<(0:Int) then (0:Int) else n) to_2 (fun (to_3:Int) =>
 K from_3 (if from_3<to_3 then to_3 else from_3)))))
def jI (p_b:List UInt8) (v_l:List PV) (v_frozen:Bool) (v_over:Int) (deep:Int) (K:(List UInt8)->Prop):Prop :=
 (p_b.length<=maxLen ->
 (v_l.length<=maxLen ->
 (((60:Int)<=deep->qL p_b ([([46,46,46]:List UInt8)]:List (List UInt8)) (fun (p_:List UInt8) =>
 K p_)) /\
 (¬ ((60:Int)<=deep)->qL p_b ([([91]:List UInt8)]:List (List UInt8)) (fun (p_2:List UInt8) =>
 (In .i64 (deep+(1:Int))) /\
 jP p_2 v_l (deep+(1:Int)) (fun (p_3:List UInt8) =>
 qL p_3 ([([93]:List UInt8)]:List (List UInt8)) (fun (p_4:List UInt8) =>
 K p_4)))))))
def jL (p_b:List UInt8) (v_l:List PV) (v_frozen:Bool) (v_over:Int) (deep:Int) (K:(List UInt8)->Prop):Prop :=
 (p_b.length<=maxLen ->
 (v_l.length<=maxLen ->
 q8 p_b (fun (t17:Bool) =>
 ((t17=true->K p_b) /\
 (t17=false->jI p_b v_l v_frozen v_over deep (fun (p_:List UInt8) =>
 K p_))))))
def jH (v_l:List PV) (v_frozen:Bool) (v_over:Int) (K:(List UInt8)->Prop):Prop :=
 (v_l.length<=maxLen ->
 jL [] v_l v_frozen v_over (0:Int) (fun (t5_:List UInt8) =>
 K t5_))
def M_val_asStr_List0 (v_l:List PV) (v_frozen:Bool) (v_over:Int) (K:(List UInt8)->Bool->Prop):Prop :=
 (v_l.length<=maxLen ->
 K ([]:List UInt8) false)
def M_val_AsStr_List0 (v_l:List PV) (v_frozen:Bool) (v_over:Int) (K:(List UInt8)->Bool->Prop):Prop :=
 (v_l.length<=maxLen ->
 M_val_asStr_List0 v_l v_frozen v_over (fun (t50:List UInt8) (t51:Bool) =>
 K t50 t51))
def kx (v_l:List PV) (v_frozen:Bool) (v_over:Int) (K:Int->Bool->Prop):Prop :=
 (v_l.length<=maxLen ->
 K (v_l.length:Int) true)
def M_val_Len_List0 (v_l:List PV) (v_frozen:Bool) (v_over:Int) (K:Int->Bool->Prop):Prop :=
 (v_l.length<=maxLen ->
 kx v_l v_frozen v_over (fun (t50:Int) (t51:Bool) =>
 K t50 t51))
def M_list_size_List0 (v_l:List PV) (v_frozen:Bool) (v_over:Int) (K:Int->Bool->Prop):Prop :=
 (v_l.length<=maxLen ->
 M_val_Len_List0 v_l v_frozen v_over (fun (t230:Int) (t231:Bool) =>
 K t230 t231))
def jh (v_l:List PV) (v_frozen:Bool) (v_over:Int) (from_:Int) (m_from:Nat) (to_:Int) (m_to:Nat) (has:Bool) (until_:Bool) (K0:Er->Prop) (K:(List PV)->Bool->Int->Er->Prop):Prop :=
 (v_l.length<=maxLen ->
 M_list_size_List0 v_l v_frozen v_over (fun (t240:Int) (t241:Bool) =>
 (((!t241)=true->False) /\
 ((!t241)=false->kj from_ m_from (fun (t33:Int) =>
 kj to_ m_to (fun (t35:Int) =>
 M_str_Cut t240 t33 t35 has until_ (fun (t380:Int) (t381:Int) =>
 M_val_AsStr_List0 v_l v_frozen v_over (fun (t430:List UInt8) (t431:Bool) =>
 ((t431=true->False) /\
 (t431=false->(In .i64 (t381 - t380)) /\
 (((1024:Int)<(t381 - t380)->K0 (Er.e 7)) /\
 (¬ ((1024:Int)<(t381 - t380))->je v_l v_frozen v_over (fun (t590:List PV) (t591:Bool) =>
 ((t591=true->(0<=t380/\t380<=t381/\t381<=((t590).length:Nat)) /\
 kc ((t590.drop t380.toNat).take (t381.toNat - t380.toNat)) (
 False) (fun (f4:List PV) (c9:Bool) (d5:Int) =>
 K f4 c9 d5 Er.ok)) /\
 (t591=false->False)))))))))))))))
def M_list_place (i:Int) (m_i:Nat) (n:Int) (K:Int->Bool->Prop):Prop :=
 M_num_Num_Int i m_i (fun (t100:Int) (t101:Bool) =>
 ∃ J1:Int->Prop,((((t101 && (decide (t100<(0:Int))))=true->(In .i64 (t100+n)) /\
 J1 (t100+n)) /\
 ((t101 && (decide (t100<(0:Int))))=false->J1 t100))) /\
 (∀ k:Int,J1 k->K k ((t101 && (decide ((0:Int)<=k))) && (decide (k<n)))))
def M_pval_List_Put (l_l:List PV) (l_frozen:Bool) (l_over:Int) (items:List PV) (K:(List PV)->Bool->Int->Prop):Prop :=
 (l_l.length<=maxLen ->
 (items.length<=maxLen ->
 K items l_frozen l_over))
def M_list_items (l_l:List PV) (l_frozen:Bool) (l_over:Int) (K:(List PV)->Prop):Prop :=
 (l_l.length<=maxLen ->
 je l_l l_frozen l_over (fun (t80:List PV) (t81:Bool) =>
 K t80))
def ks (l_l:List PV) (l_frozen:Bool) (l_over:Int) (items:List PV) (K:Er->(List PV)->Bool->Int->Prop):Prop :=
 (l_l.length<=maxLen ->
 (items.length<=maxLen ->
 ju l_l l_frozen l_over (fun (t6:Bool) =>
 (((!t6)=true->K (Er.e 3) l_l l_frozen l_over) /\
 ((!t6)=false->(((1024:Int)<(items.length:Int)->K (Er.e 7) l_l l_frozen l_over) /\
 (¬ ((1024:Int)<(items.length:Int))->M_pval_List_Put l_l l_frozen l_over items (fun (l_:List PV) (l_2:Bool) (l_3:Int) =>
 K Er.ok l_ l_2 l_3))))))))
def M_list_Insert (l_l:List PV) (l_frozen:Bool) (l_over:Int) (i:Int) (m_i:Nat) (x:PV) (K:Er->(List PV)->Bool->Int->Prop):Prop :=
 (l_l.length<=maxLen ->
 M_list_items l_l l_frozen l_over (fun (all:List PV) =>
 kj i m_i (fun (t16:Int) =>
 M_str_Cut (all.length:Int) t16 (0:Int) true false (fun (t170:Int) (t171:Int) =>
 (0<=t170/\t170<=all.length/\all.length<=1000000) /\
 ks l_l l_frozen l_over (all.take t170.toNat++([x]:List PV)++all.drop t170.toNat) (fun (t6:Er) (l_:List PV) (l_2:Bool) (l_3:Int) =>
 K t6 l_ l_2 l_3)))))
def M_list_Pop (l_l:List PV) (l_frozen:Bool) (l_over:Int) (i:Int) (m_i:Nat) (K:PV->Er->(List PV)->Bool->Int->Prop):Prop :=
 (l_l.length<=maxLen ->
 M_list_items l_l l_frozen l_over (fun (all:List PV) =>
 M_list_place i m_i (all.length:Int) (fun (t160:Int) (t161:Bool) =>
 ∃ J1:Bool->Prop,((((!t161)=true->J1 true) /\
 ((!t161)=false->ju l_l l_frozen l_over (fun (t23:Bool) =>
 J1 (!t23))))) /\
 (∀ q1:Bool,J1 q1->((q1=true->K PV.nil (Er.e 3) l_l l_frozen l_over) /\
 (q1=false->(0<=t160/\t160<(all.length:Nat)) /\
 (In .i64 (t160+(1:Int))) /\
 (0<=t160/\t160<all.length/\(t160+(1:Int))=t160+1) /\
 ks l_l l_frozen l_over (all.take t160.toNat++all.drop (t160.toNat+1)) (fun (t5:Er) (l_:List PV) (l_2:Bool) (l_3:Int) =>
 K (all.getD t160.toNat PV.nil) t5 l_ l_2 l_3)))))))
def M_val_NewLooker (K0:Prop) (K:Int->Prop):Prop :=
 K (4096:Int)
def jz (k_looker_left:Int) (a:PV) (b:PV) (K:Bool->Er->Int->Prop):Prop :=
 j0 k_looker_left a b (0:Int) (fun (t130:Bool) (t131:Er) (k_:Int) =>
 K t130 t131 k_)
def M_list_find_List0 (v_l:List PV) (v_frozen:Bool) (v_over:Int) (x:PV) (K:Int->Er->Prop):Prop :=
 (v_l.length<=maxLen ->
 je v_l v_frozen v_over (fun (t240:List PV) (t241:Bool) =>
 M_val_NewLooker (
 Lp1 (fun (t30:Int) kont1=>((t30<(t240.length:Int)->(0<=t30/\t30<(t240.length:Nat)) /\
 False) /\
 (¬ (t30<(t240.length:Int))->K (-1:Int) Er.ok))) (0:Int)) (fun (k_looker_left:Int) =>
 Lp2 (fun (t302:Int) (k0:Int) kont2=>((t302<(t240.length:Int)->(0<=t302/\t302<(t240.length:Nat)) /\
 jz k0 (t240.getD t302.toNat PV.nil) x (fun (t390:Bool) (t391:Er) (k_:Int) =>
 ((¬ (t391=Er.ok)->K (0:Int) t391) /\
 (t391=Er.ok->((t390=true->K t302 Er.ok) /\
 (t390=false->(In .i64 (t302+(1:Int))) /\
 kont2 (t302+(1:Int)) k_)))))) /\
 (¬ (t302<(t240.length:Int))->K (-1:Int) Er.ok))) (0:Int) k_looker_left)))
def j3 (v_l:List PV) (v_frozen:Bool) (v_over:Int) (x:PV) (K:Int->Er->Prop):Prop :=
 (v_l.length<=maxLen ->
 M_list_find_List0 v_l v_frozen v_over x (fun (t110:Int) (t111:Er) =>
 ∃ J1:Er->Prop,(((((decide (t111=Er.ok)) && (decide (t110<(0:Int))))=true->J1 (Er.e 3)) /\
 (((decide (t111=Er.ok)) && (decide (t110<(0:Int))))=false->J1 t111))) /\
 (∀ err:Er,J1 err->((¬ (err=Er.ok)->K (0:Int) err) /\
 (err=Er.ok->K t110 Er.ok)))))
set_option maxHeartbeats 8000000 in
theorem W_list_bound {w:World} {v_n:Value} {v_n2:Value} {n:Int} {m_n:Nat} {K:Int->Prop} (hn:Nm w (.agg ⟨[v_n,v_n2]⟩) n m_n) (H:kj n m_n K):Fn Tryz.prog 92 ⟨[.agg ⟨[v_n,v_n2]⟩]⟩ w (fun v w'=>w.grownBy w' none/\∃ (r:Int),v=.int .i64 r/\K r):=by
 unfold kj at H
 refine Fn.enter (by kernel_rfl) Tryz.func92 rfl Tryz.ntmps92 rfl ?_
 refine zd (zb (qa (us:=[v_n,v_n2]) rfl rfl rfl (fun g1 w1 hB1 hg1 hl1=>?_)))
 have gr1:=hg1
 refine yp (h:=(ze (za (zd (zb (zf rfl (z3 (vs:=[v_n,v_n2]) qB hB1 rfl rfl rfl rfl) (zx rfl rfl (W_num_Num_Int (hn.grown gr1) H) ?_)))))))
 rintro _ w2 ⟨hg2,t70,t71,rfl,H⟩
 have gr2:=qC gr1 hg2
 refine yp (h:=(yp (h:=(yp (h:=(yp (h:=(yp (h:=(ze (za (zd (WC.block (zd (zb (yp (h:=(yp (h:=(ze (za (zp rfl (fun b1=>?_) (fun b1=>?_)))))))))))))))))))))))
 ·replace H:=H.1 (b1)
  exact zd (zb (yp (h:=(yp (h:=(ze (za (zu (zl (zi (zM rfl rfl ⟨gr2,t70,rfl,H⟩)))))))))))
 ·replace H:=H.2 (b1)
  refine zd (zb (zf rfl (z3 (vs:=[v_n,v_n2]) qB (hB1.g0 hg2) rfl rfl rfl rfl) (zf rfl (zU (us:=[.bool false,.slice none 0 0]) zero75 places75 rfl rfl) (zx rfl rfl (kt (hn.grown gr2) (Nm.zero (w:=w2)) H) ?_))))
  rintro _ w3 ⟨hg3,t16,rfl,H⟩
  have gr3:=qC gr2 hg3
  refine yp (h:=(yp (h:=(ze (za (zp rfl (fun b2=>?_) (fun b2=>?_)))))))
  ·replace H:=H.1 (of_decide_eq_true b2)
   exact zd (zb (yp (h:=(ze (za (zu (zl (zi (zM rfl rfl ⟨gr3,(-9223372036854775808:Int),rfl,H⟩)))))))))
  ·replace H:=H.2 (of_decide_eq_false b2)
   exact zr (zh (za (zd (zb (yp (h:=(ze (za (zu (zM rfl rfl ⟨gr3,(9223372036854775807:Int),rfl,H⟩))))))))))
set_option maxHeartbeats 8000000 in
theorem W_str_bound {w:World} {n:Int} {i:Int} {K:Int->Prop} (H:M_str_bound n i K):Fn Tryz.prog 155 ⟨[.int .i64 n,.int .i64 i]⟩ w (fun v w'=>w=w'/\∃ (r:Int),v=.int .i64 r/\K r):=by
 unfold M_str_bound at H
 refine Fn.enter (by kernel_rfl) Tryz.func155 rfl Tryz.ntmps155 rfl ?_
 refine zd (zb (yp (h:=(ze (za (zd ?_))))))
 obtain ⟨J1,H,hJ1⟩:=H
 refine qf (fun L' w'=>∃ (i2:Int),L'=[(0,.int .i64 n),(1,.int .i64 i2)]/\J1 i2/\w=w') ?_ (fun hQ=>?_)
 ·clear H
  rintro _ _ ⟨i2,rfl,H,rfl⟩
  replace H:=hJ1 i2 H
  exact za (zd (zb (yp (h:=(zf rfl (zE rfl rfl) (yp (h:=(zf rfl (zD rfl rfl) (yp (h:=(ze (za (zu (zM rfl rfl ⟨rfl,(if n<(if i2<(0:Int) then (0:Int) else i2) then n else (if i2<(0:Int) then (0:Int) else i2)),rfl,H⟩))))))))))))))
 ·clear hJ1
  refine zd (zb (yp (h:=(yp (h:=(ze (za (zp rfl (fun b1=>?_) (fun b1=>?_)))))))))
  ·replace H:=H.1 (of_decide_eq_true b1)
   refine zb (yp (h:=(yp (h:=?_))))
   obtain ⟨h1,H⟩:=H
   exact zf rfl (Yld.add rfl rfl h1) (yp (h:=(ze (WX.weaken sb (hQ _ _ ⟨i+n,rfl,H,rfl⟩)))))
  ·replace H:=H.2 (of_decide_eq_false b1)
   exact zr (WX.weaken sb (hQ _ _ ⟨i,rfl,H,rfl⟩))
set_option maxHeartbeats 8000000 in
theorem W_str_Cut {w:World} {n:Int} {from_:Int} {to_:Int} {has:Bool} {until_:Bool} {K:Int->Int->Prop} (H:M_str_Cut n from_ to_ has until_ K):Fn Tryz.prog 91 ⟨[.int .i64 n,.int .i64 from_,.int .i64 to_,.bool has,.bool until_]⟩ w (fun v w'=>w=w'/\∃ (r0:Int),∃ (r1:Int),v=.tuple #[.int .i64 r0,.int .i64 r1]/\K r0 r1):=by
 unfold M_str_Cut at H
 refine Fn.enter (by kernel_rfl) Tryz.func91 rfl Tryz.ntmps91 rfl ?_
 refine zd (zb (yp (h:=(yp (h:=(ze (za (zd (zb (yp (h:=(zf rfl (zE rfl rfl) (yp (h:=(ze (za (zd ?_)))))))))))))))))
 obtain ⟨J1,H,hJ1⟩:=H
 refine qf (fun L' w'=>∃ (from_2:Int),L'=[(0,.int .i64 (if n<(0:Int) then (0:Int) else n)),(1,.int .i64 from_2),(2,.int .i64 to_),(4,.bool until_)]/\J1 from_2/\w=w') ?_ (fun hQ=>?_)
 ·clear H
  rintro _ _ ⟨from_2,rfl,H,rfl⟩
  replace H:=hJ1 from_2 H
  refine za (zd ?_)
  obtain ⟨J2,H,hJ2⟩:=H
  refine qf (fun L' w'=>∃ (to_2:Int),L'=[(0,.int .i64 (if n<(0:Int) then (0:Int) else n)),(1,.int .i64 from_2),(2,.int .i64 to_2)]/\J2 to_2/\w=w') ?_ (fun hQ=>?_)
  ·clear H
   rintro _ _ ⟨to_2,rfl,H,rfl⟩
   replace H:=hJ2 to_2 H
   refine za (zd (zb (yp (h:=(yp (h:=(zx rfl rfl (W_str_bound H) ?_)))))))
   rintro _ _ ⟨rfl,from_3,rfl,H⟩
   refine yp (h:=(yp (h:=(zx rfl rfl (W_str_bound H) ?_))))
   rintro _ _ ⟨rfl,to_3,rfl,H⟩
   exact yp (h:=(yp (h:=(ze (za (zd (zb (yp (h:=(yp (h:=(yp (h:=(zf rfl (zE rfl rfl) (yp (h:=(yp (h:=(ze (za (zu (zQ rfl rfl rfl ⟨rfl,from_3,(if from_3<to_3 then to_3 else from_3),rfl,H⟩))))))))))))))))))))))
  ·clear hJ2
   refine zd (zb (yp (h:=(yp (h:=(ze (za (zp rfl (fun b1=>?_) (fun b1=>?_)))))))))
   ·replace H:=H.1 (b1)
    exact zb (yp (h:=(yp (h:=(ze (WX.weaken sb (hQ _ _ ⟨(if n<(0:Int) then (0:Int) else n),rfl,H,rfl⟩)))))))
   ·replace H:=H.2 (b1)
    exact zr (WX.weaken sb (hQ _ _ ⟨to_,rfl,H,rfl⟩))
 ·clear hJ1
  refine zd (zb (yp (h:=(yp (h:=(ze (za (zp rfl (fun b2=>?_) (fun b2=>?_)))))))))
  ·replace H:=H.1 (b2)
   exact zb (yp (h:=(ze (WX.weaken sb (hQ _ _ ⟨(0:Int),rfl,H,rfl⟩)))))
  ·replace H:=H.2 (b2)
   exact zr (WX.weaken sb (hQ _ _ ⟨from_,rfl,H,rfl⟩))
set_option maxHeartbeats 8000000 in
theorem W_pval_printer_parts_List1 {w:World} {g_p:Nat} {p_b:List UInt8} {a9:Option Addr} {d6:Nat} {g_v:Nat} {v_l:List PV} {a6:Option Addr} {b0:Nat} {a2:List VH} {v_frozen:Bool} {v_over:Int} {deep:Int} {e2:Nat} {b5:Nat} {K:(List UInt8)->Prop} (hp_b:Own vb w 0 5 a9 d6 p_b) (e3:e2=p_b.length) (hp:Bl w g_p 153 [.slice a9 e2 d6]) (hv_l:Rd vv w a6 b0 a2) (b6:b5=v_l.length) (a1:RelD deV w a2 v_l) (hv:Bl w g_v 166 [.slice a6 b5 b0,.bool v_frozen,.int .i64 v_over]) (hdj0_1:Dj (some g_p) (blk a9)) (hap0:AllP (Dn a2 (blk a6)) [(some g_p),(blk a9)]) (hap1:AllP (DnD deV a2 v_l) [(some g_p),(blk a9)]) (hap2:AllP (Dj (some g_v)) [(some g_p),(blk a9)]) (H:jI p_b v_l v_frozen v_over deep K):Fn Tryz.prog 142 ⟨[.pointer (some ⟨g_p,0,none⟩),.iface 61 (.pointer (some ⟨g_v,0,none⟩)),.int .i64 deep]⟩ w (fun v w'=>GrL [(some g_p),(blk a9)] w w'/\∃ (p_b2:List UInt8),∃ (c4:Option Addr),∃ (d3:Nat),v=.tuple #[]/\Bl w' g_p 153 [.slice c4 p_b2.length d3]/\Own vb w' 0 5 c4 d3 p_b2/\InP [(some g_p),(blk a9)] w.heap.size (blk c4)/\Dj (some g_p) (blk c4)/\K p_b2):=by
 subst e3
 subst b6
 unfold jI at H
 refine Fn.enter (by kernel_rfl) Tryz.func142 rfl Tryz.ntmps142 rfl ?_
 replace H:=H (Nat.le_trans hp_b.rd.cap hp_b.rd.max)
 replace H:=H (by rw [<-a1.1]; exact Nat.le_trans hv_l.cap hv_l.max)
 have hNoAt:AllP (NoAt w) [(some g_p),(blk a9)]:=(apC (NoAt.bl hp rfl) (apC (NoAt.own hp_b rfl) apN))
 refine zd (zd (zb (yp (h:=(yp (h:=(ze (za (zp rfl (fun b1=>?_) (fun b1=>?_))))))))))
 ·replace H:=H.1 (of_decide_eq_true b1)
  refine zd (zb (yp (h:=(z6 qB rfl rfl rfl (qF rfl qY) rfl (by omega) (fun g1 w1 hB1 hg1 hl1=>?_)))))
  have hO1:Own vs w1 w.heap.size 9 (some ⟨g1,0,none⟩) 1 ([([46,46,46]:List UInt8)]:List (List UInt8)):=Own.ofBl hB1 (Nat.le_trans (Nat.le_refl _) hl1) (by simp [maxLen]) rfl
  have gr1:=(GrL.of0 (ps:=[(some g_p),(blk a9)]) hg1)
  refine zx rfl rfl (qQ (hp_b.grown hg1) rfl (hp.g0 hg1) hO1.rd rfl hdj0_1 (apC (Dn.of (Dj.new hp.lt' (Ge.box hl1)).symm) (apC (Dn.of (Dj.new hp_b.lt' (Ge.box hl1)).symm) apN)) H) ?_
  rintro _ w2 ⟨hgl1,p_,e8,g4,rfl,hB2,hO2,hi1,dj1,H⟩
  have hi2:InP [(some g_p),(blk a9)] w.heap.size (blk e8):=InP.trans hi1 (apC (InP.mem (List.Mem.head _)) (apC (InP.mem (List.Mem.tail _ (List.Mem.head _))) apN)) (GrL.sizeL gr1)
  have gr2:GrL [(some g_p),(blk a9)] w w2:=GrL.modL gr1 hgl1 (apC (InP.mem (List.Mem.head _)) (apC (InP.mem (List.Mem.tail _ (List.Mem.head _))) apN))
  exact ze (za (zu (zi (qv rfl ⟨gr2,p_,e8,g4,rfl,hB2,hO2,hi2,dj1,H⟩))))
 ·replace H:=H.2 (of_decide_eq_false b1)
  refine zr (za (zd (zb (yp (h:=(ze (za (WC.block (zd (zb (zf rfl (qP (v:=⟨.iface 61 (.pointer (some ⟨g_v,0,none⟩)),rfl⟩) Tryz.underlying61 rfl rfl rfl) (yp (h:=(yp (h:=(ze (za (zp rfl (fun _=>zd (zb (yp (h:=(ze (za (zd (zb (yp (h:=(z6 qB rfl rfl rfl (qF rfl qY) rfl (by omega) (fun g2 w3 hB3 hg2 hl2=>?_)))))))))))) (fun h=>by cases h)))))))))))))))))))
  have hO3:Own vs w3 w.heap.size 9 (some ⟨g2,0,none⟩) 1 ([([91]:List UInt8)]:List (List UInt8)):=Own.ofBl hB3 (Nat.le_trans (Nat.le_refl _) hl2) (by simp [maxLen]) rfl
  have gr3:=(GrL.of0 (ps:=[(some g_p),(blk a9)]) hg2)
  refine zx rfl rfl (qQ (hp_b.grown hg2) rfl (hp.g0 hg2) hO3.rd rfl hdj0_1 (apC (Dn.of (Dj.new hp.lt' (Ge.box hl2)).symm) (apC (Dn.of (Dj.new hp_b.lt' (Ge.box hl2)).symm) apN)) H) ?_
  rintro _ w4 ⟨hgl2,p_2,g7,i6,rfl,hB4,hO4,hi3,dj2,H⟩
  have hi4:InP [(some g_p),(blk a9)] w.heap.size (blk g7):=InP.trans hi3 (apC (InP.mem (List.Mem.head _)) (apC (InP.mem (List.Mem.tail _ (List.Mem.head _))) apN)) (GrL.sizeL gr3)
  have gr4:GrL [(some g_p),(blk a9)] w w4:=GrL.modL gr3 hgl2 (apC (InP.mem (List.Mem.head _)) (apC (InP.mem (List.Mem.tail _ (List.Mem.head _))) apN))
  refine ze (za (zd (zb (yp (h:=(yp (h:=(yp (h:=(zf rfl (zY (o:=0) (by kernel_rfl) rfl) (zf rfl (zB qB (hv.goL gr4 hap2) rfl rfl rfl) (yp (h:=?_)))))))))))))
  obtain ⟨h1,H⟩:=H
  refine zf rfl (Yld.add rfl rfl h1) (zx rfl rfl (W_val_printer_itemsT hO4 rfl hB4 (hv_l.goL gr4 hap0) rfl (a1.goL gr4 hap1) dj2 (apC (InP.dn (InP.mem (List.Mem.head _)) (fun hx_=>hv_l.lt' hx_) hap0) (apC (InP.dn hi4 (fun hx_=>hv_l.lt' hx_) hap0) apN)) (apC (a1.inp hap1 (InP.mem (List.Mem.head _))) (apC (a1.inp hap1 hi4) apN)) H) ?_)
  rintro _ w5 ⟨hgl3,p_3,g8,i7,rfl,hB5,hO5,hi5,dj3,H⟩
  have hi6:InP [(some g_p),(blk a9)] w.heap.size (blk g8):=InP.trans hi5 (apC (InP.mem (List.Mem.head _)) (apC hi4 apN)) (GrL.sizeL gr4)
  have gr5:GrL [(some g_p),(blk a9)] w w5:=GrL.modL gr4 hgl3 (apC (InP.mem (List.Mem.head _)) (apC hi4 apN))
  refine ze (za (zb (yp (h:=(z6 qB rfl rfl rfl (qF rfl qY) rfl (by omega) (fun g3 w6 hB6 hg3 hl3=>?_))))))
  have hO6:Own vs w6 w.heap.size 9 (some ⟨g3,0,none⟩) 1 ([([93]:List UInt8)]:List (List UInt8)):=Own.ofBl hB6 (Nat.le_trans (GrL.sizeL gr5) hl3) (by simp [maxLen]) rfl
  have gr6:=GrL.add0 gr5 hg3
  refine zx rfl rfl (qQ (hO5.grown hg3) rfl (hB5.g0 hg3) hO6.rd rfl dj3 (apC (Dn.of (Dj.new hB5.lt' (Ge.box hl3)).symm) (apC (Dn.of (Dj.new hO5.lt' (Ge.box hl3)).symm) apN)) H) ?_
  rintro _ w7 ⟨hgl4,p_4,f8,h6,rfl,hB7,hO7,hi7,dj4,H⟩
  have hi8:InP [(some g_p),(blk a9)] w.heap.size (blk f8):=InP.trans hi7 (apC (InP.mem (List.Mem.head _)) (apC hi6 apN)) (GrL.sizeL gr6)
  have gr7:GrL [(some g_p),(blk a9)] w w7:=GrL.modL gr6 hgl4 (apC (InP.mem (List.Mem.head _)) (apC hi6 apN))
  exact ze (zh (z7 rfl ⟨gr7,p_4,f8,h6,rfl,hB7,hO7,hi8,dj4,H⟩))
set_option maxHeartbeats 8000000 in
theorem W_pval_printer_repr_List1 {w:World} {g_p:Nat} {p_b:List UInt8} {a9:Option Addr} {d6:Nat} {g_v:Nat} {v_l:List PV} {a6:Option Addr} {b0:Nat} {a2:List VH} {v_frozen:Bool} {v_over:Int} {deep:Int} {e2:Nat} {b5:Nat} {K:(List UInt8)->Prop} (hp_b:Own vb w 0 5 a9 d6 p_b) (e3:e2=p_b.length) (hp:Bl w g_p 153 [.slice a9 e2 d6]) (hv_l:Rd vv w a6 b0 a2) (b6:b5=v_l.length) (a1:RelD deV w a2 v_l) (hv:Bl w g_v 166 [.slice a6 b5 b0,.bool v_frozen,.int .i64 v_over]) (hdj0_1:Dj (some g_p) (blk a9)) (hap0:AllP (Dn a2 (blk a6)) [(some g_p),(blk a9)]) (hap1:AllP (DnD deV a2 v_l) [(some g_p),(blk a9)]) (hap2:AllP (Dj (some g_v)) [(some g_p),(blk a9)]) (H:jL p_b v_l v_frozen v_over deep K):Fn Tryz.prog 82 ⟨[.pointer (some ⟨g_p,0,none⟩),.iface 61 (.pointer (some ⟨g_v,0,none⟩)),.int .i64 deep]⟩ w (fun v w'=>GrL [(some g_p),(blk a9)] w w'/\∃ (p_b2:List UInt8),∃ (c4:Option Addr),∃ (d3:Nat),v=.tuple #[]/\Bl w' g_p 153 [.slice c4 p_b2.length d3]/\Own vb w' 0 5 c4 d3 p_b2/\InP [(some g_p),(blk a9)] w.heap.size (blk c4)/\Dj (some g_p) (blk c4)/\K p_b2):=by
 subst e3
 subst b6
 unfold jL at H
 refine Fn.enter (by kernel_rfl) Tryz.func82 rfl Tryz.ntmps82 rfl ?_
 replace H:=H (Nat.le_trans hp_b.rd.cap hp_b.rd.max)
 replace H:=H (by rw [<-a1.1]; exact Nat.le_trans hv_l.cap hv_l.max)
 have hNoAt:AllP (NoAt w) [(some g_p),(blk a9)]:=(apC (NoAt.bl hp rfl) (apC (NoAt.own hp_b rfl) apN))
 refine zd (zd (zb (yp (h:=(zx rfl rfl (jB hp_b.rd rfl hp H) ?_)))))
 rintro _ _ ⟨rfl,t17,rfl,H⟩
 refine ze (za (zp rfl (fun b1=>?_) (fun b1=>?_)))
 ·replace H:=H.1 (b1)
  exact zu (zi (qv rfl ⟨(GrL.refl _),p_b,a9,d6,rfl,hp,hp_b,(InP.mem (List.Mem.tail _ (List.Mem.head _))),hdj0_1,H⟩))
 ·replace H:=H.2 (b1)
  refine zr (za (zd (zb (yp (h:=(ze (za (WC.block (zd (zb (zf rfl (assertNoX (z:=.agg ⟨[]⟩) Tryz.underlying221 rfl (fun _=>by kernel_rfl) rfl rfl) (yp (h:=(yp (h:=(ze (za (zp rfl (fun h=>by cases h) (fun _=>zd (zb (zf rfl (assertNoX (z:=.bool false) Tryz.underlying223 rfl (fun _=>by kernel_rfl) rfl rfl) (yp (h:=(yp (h:=(ze (za (zp rfl (fun h=>by cases h) (fun _=>zd (zb (zf rfl (assertNoX (z:=.agg ⟨[.bool false,.slice none 0 0]⟩) Tryz.underlying208 rfl (fun _=>by kernel_rfl) rfl rfl) (yp (h:=(yp (h:=(ze (za (zp rfl (fun h=>by cases h) (fun _=>zd (zb (zf rfl (assertNoX (z:=vs ([]:List UInt8)) Tryz.underlying169 rfl (fun _=>by kernel_rfl) rfl rfl) (yp (h:=(yp (h:=(ze (za (zp rfl (fun h=>by cases h) (fun _=>zd (zb (zf rfl (assertNoIX (z:=.nilIface) Tryz.underlying227 (fun _=>by kernel_rfl) (by decide +kernel) rfl) (yp (h:=(yp (h:=(ze (za (zp rfl (fun h=>by cases h) (fun _=>zd (zb (zf rfl (assertNoIX (z:=.nilIface) Tryz.underlying229 (fun _=>by kernel_rfl) (by decide +kernel) rfl) (yp (h:=(yp (h:=?_)))))))))))))))))))))))))))))))))))))))))))))))))))))))))))))))))
  refine ze (za (zp rfl (fun h=>by cases h) (fun _=>zd (zb (zf rfl (assertNoIX (z:=.nilIface) Tryz.underlying232 (fun _=>by kernel_rfl) (by decide +kernel) rfl) (yp (h:=(yp (h:=(ze (za (zp rfl (fun h=>by cases h) (fun _=>zd (zb (yp (h:=(ze (za (zb (yp (h:=(yp (h:=(yp (h:=(zx rfl rfl (W_pval_printer_parts_List1 hp_b rfl hp hv_l rfl a1 hv hdj0_1 (apC (InP.dn (InP.mem (List.Mem.head _)) (fun hx_=>hv_l.lt' hx_) hap0) (apC (InP.dn (InP.mem (List.Mem.tail _ (List.Mem.head _))) (fun hx_=>hv_l.lt' hx_) hap0) apN)) (apC (a1.inp hap1 (InP.mem (List.Mem.head _))) (apC (a1.inp hap1 (InP.mem (List.Mem.tail _ (List.Mem.head _)))) apN)) (apC (InP.dj (InP.mem (List.Mem.head _)) hv.lt' hap2).symm (apC (InP.dj (InP.mem (List.Mem.tail _ (List.Mem.head _))) hv.lt' hap2).symm apN)) H) ?_))))))))))))))))))))))))))
  rintro _ w1 ⟨hgl1,p_,e8,g4,rfl,hB1,hO1,hi1,dj1,H⟩
  have hi2:InP [(some g_p),(blk a9)] w.heap.size (blk e8):=InP.trans hi1 (apC (InP.mem (List.Mem.head _)) (apC (InP.mem (List.Mem.tail _ (List.Mem.head _))) apN)) (Nat.le_refl _)
  have gr1:GrL [(some g_p),(blk a9)] w w1:=GrL.modL (GrL.refl _) hgl1 (apC (InP.mem (List.Mem.head _)) (apC (InP.mem (List.Mem.tail _ (List.Mem.head _))) apN))
  exact ze (zh (z7 rfl ⟨gr1,p_,e8,g4,rfl,hB1,hO1,hi2,dj1,H⟩))
set_option maxHeartbeats 8000000 in
theorem W_val_Repr_List0 {w:World} {g_v:Nat} {v_l:List PV} {a6:Option Addr} {b0:Nat} {a2:List VH} {v_frozen:Bool} {v_over:Int} {b5:Nat} {K:(List UInt8)->Prop} (hv_l:Rd vv w a6 b0 a2) (b6:b5=v_l.length) (a1:RelD deV w a2 v_l) (hv:Bl w g_v 166 [.slice a6 b5 b0,.bool v_frozen,.int .i64 v_over]) (H:jH v_l v_frozen v_over K):Fn Tryz.prog 18 ⟨[.iface 61 (.pointer (some ⟨g_v,0,none⟩))]⟩ w (fun v w'=>w.grownBy w' none/\∃ (r:List UInt8),v=vs r/\K r):=by
 subst b6
 unfold jH at H
 refine Fn.enter (by kernel_rfl) Tryz.func18 rfl Tryz.ntmps18 rfl ?_
 replace H:=H (by rw [<-a1.1]; exact Nat.le_trans hv_l.cap hv_l.max)
 refine zd (zb (yp (h:=(ze (za (zd (zb (zf rfl (zU (us:=[.slice none 0 0]) zero153 places153 rfl rfl) (qa (us:=[.slice none 0 0]) rfl rfl rfl (fun g1 w1 hB1 hg1 hl1=>?_))))))))))
 have gr1:=hg1
 refine yp (h:=(ze (za (zd (zb (yp (h:=(yp (h:=(zx rfl rfl (W_pval_printer_repr_List1 ((Own.nil vb w1 w.heap.size 5).base (fun _ _=>Nat.zero_le _)) rfl hB1 (hv_l.grown gr1) rfl (a1.grown gr1) (hv.g0 gr1) Dj.nr (apC (Dn.new (fun hx_=>hv_l.lt' hx_) (Ge.le (Ge.box hl1) (Nat.le_refl _))) (apC Dn.nr apN)) (apC (a1.new (Ge.le (Ge.box hl1) (Nat.le_refl _))) (apC (DnD.none a1) apN)) (apC (Dj.new hv.lt' (Ge.le (Ge.box hl1) (Nat.le_refl _))) (apC (Dj.new hv.lt' (Own.nil vb w1 w.heap.size 5).ge') apN)) H) ?_))))))))))
 rintro _ w2 ⟨hgl1,t5_,i5,l0,rfl,hB2,hO1,hi1,dj1,H⟩
 have hO2:=hO1.base (InP.toGe hi1 (apC (Ge.le (Ge.box hl1) (Nat.le_refl _)) (apC Ge.none apN)) (qD gr1))
 exact ze (za (zd (zb (yp (h:=(yp (h:=(yp (h:=(zf rfl (zB qB hB2 rfl rfl rfl) (zf rfl (Yld.b2s qB hO2.rd rfl rfl rfl rfl rfl) (yp (h:=(ze (za (zu (zM rfl rfl ⟨(gr_modL gr1 hgl1 (apC (Ge.le (Ge.box hl1) (Nat.le_refl _)) (apC Ge.none apN))),t5_,rfl,H⟩)))))))))))))))))
set_option maxHeartbeats 8000000 in
theorem W_val_asStr_List0 {w:World} {g_v:Nat} {v_l:List PV} {a6:Option Addr} {b0:Nat} {a2:List VH} {v_frozen:Bool} {v_over:Int} {b5:Nat} {K:(List UInt8)->Bool->Prop} (hv_l:Rd vv w a6 b0 a2) (b6:b5=v_l.length) (a1:RelD deV w a2 v_l) (hv:Bl w g_v 166 [.slice a6 b5 b0,.bool v_frozen,.int .i64 v_over]) (H:M_val_asStr_List0 v_l v_frozen v_over K):Fn Tryz.prog 156 ⟨[.iface 61 (.pointer (some ⟨g_v,0,none⟩))]⟩ w (fun v w'=>w=w'/\∃ (r0:List UInt8),∃ (r1:Bool),v=.tuple #[vs r0,.bool r1]/\K r0 r1):=by
 subst b6
 unfold M_val_asStr_List0 at H
 refine Fn.enter (by kernel_rfl) Tryz.func156 rfl Tryz.ntmps156 rfl ?_
 replace H:=H (by rw [<-a1.1]; exact Nat.le_trans hv_l.cap hv_l.max)
 exact zd (zb (yp (h:=(yp (h:=(ze (za (zd (zb (yp (h:=(zf rfl (assertNoX (z:=vs ([]:List UInt8)) Tryz.underlying169 rfl (fun _=>by kernel_rfl) rfl rfl) (yp (h:=(yp (h:=(yp (h:=(yp (h:=(yp (h:=(ze (za (zd (zb (yp (h:=(yp (h:=(yp (h:=(yp (h:=(ze (za (zu (zQ rfl rfl rfl ⟨rfl,([]:List UInt8),false,rfl,H⟩))))))))))))))))))))))))))))))))))))))
set_option maxHeartbeats 8000000 in
theorem W_val_AsStr_List0 {w:World} {g_v:Nat} {v_l:List PV} {a6:Option Addr} {b0:Nat} {a2:List VH} {v_frozen:Bool} {v_over:Int} {b5:Nat} {K:(List UInt8)->Bool->Prop} (hv_l:Rd vv w a6 b0 a2) (b6:b5=v_l.length) (a1:RelD deV w a2 v_l) (hv:Bl w g_v 166 [.slice a6 b5 b0,.bool v_frozen,.int .i64 v_over]) (H:M_val_AsStr_List0 v_l v_frozen v_over K):Fn Tryz.prog 93 ⟨[.iface 61 (.pointer (some ⟨g_v,0,none⟩))]⟩ w (fun v w'=>w=w'/\∃ (r0:List UInt8),∃ (r1:Bool),v=.tuple #[vs r0,.bool r1]/\K r0 r1):=by
 subst b6
 unfold M_val_AsStr_List0 at H
 refine Fn.enter (by kernel_rfl) Tryz.func93 rfl Tryz.ntmps93 rfl ?_
 replace H:=H (by rw [<-a1.1]; exact Nat.le_trans hv_l.cap hv_l.max)
 refine zd (zb (yp (h:=(yp (h:=(ze (za (zd (zb (yp (h:=(zx rfl rfl (W_val_asStr_List0 hv_l rfl a1 hv H) ?_))))))))))))
 rintro _ _ ⟨rfl,t50,t51,rfl,H⟩
 exact yp (h:=(yp (h:=(yp (h:=(yp (h:=(ze (za (zu (zQ rfl rfl rfl ⟨rfl,t50,t51,rfl,H⟩)))))))))))
set_option maxHeartbeats 8000000 in
theorem W_val_length_List0 {w:World} {g_v:Nat} {v_l:List PV} {a6:Option Addr} {b0:Nat} {a2:List VH} {v_frozen:Bool} {v_over:Int} {b5:Nat} {K:Int->Bool->Prop} (hv_l:Rd vv w a6 b0 a2) (b6:b5=v_l.length) (a1:RelD deV w a2 v_l) (hv:Bl w g_v 166 [.slice a6 b5 b0,.bool v_frozen,.int .i64 v_over]) (H:kx v_l v_frozen v_over K):Fn Tryz.prog 190 ⟨[.iface 61 (.pointer (some ⟨g_v,0,none⟩))]⟩ w (fun v w'=>w=w'/\∃ (r0:Int),∃ (r1:Bool),v=.tuple #[.int .i64 r0,.bool r1]/\K r0 r1):=by
 subst b6
 unfold kx at H
 refine Fn.enter (by kernel_rfl) Tryz.func190 rfl Tryz.ntmps190 rfl ?_
 replace H:=H (by rw [<-a1.1]; exact Nat.le_trans hv_l.cap hv_l.max)
 exact zd (zb (yp (h:=(yp (h:=(ze (za (zd (zd (zb (yp (h:=(ze (za (WC.block (zd (zb (zf rfl (assertNoX (z:=vs ([]:List UInt8)) Tryz.underlying169 rfl (fun _=>by kernel_rfl) rfl rfl) (yp (h:=(yp (h:=(ze (za (zp rfl (fun h=>by cases h) (fun _=>zd (zb (zf rfl (qP (v:=⟨.iface 61 (.pointer (some ⟨g_v,0,none⟩)),rfl⟩) Tryz.underlying61 rfl rfl rfl) (yp (h:=(yp (h:=(ze (za (zp rfl (fun _=>zd (zb (yp (h:=(ze (za (zd (zb (yp (h:=(yp (h:=(zf rfl (zY (o:=0) (by kernel_rfl) rfl) (zf rfl (zB qB hv rfl rfl rfl) (yp (h:=(yp (h:=(yp (h:=(ze (za (zu (zl (zi (zQ rfl rfl rfl ⟨rfl,(v_l.length:Int),true,rfl,H⟩)))))))))))))))))))))))))) (fun h=>by cases h))))))))))))))))))))))))))))))))))))
set_option maxHeartbeats 8000000 in
theorem W_val_Len_List0 {w:World} {g_v:Nat} {v_l:List PV} {a6:Option Addr} {b0:Nat} {a2:List VH} {v_frozen:Bool} {v_over:Int} {b5:Nat} {K:Int->Bool->Prop} (hv_l:Rd vv w a6 b0 a2) (b6:b5=v_l.length) (a1:RelD deV w a2 v_l) (hv:Bl w g_v 166 [.slice a6 b5 b0,.bool v_frozen,.int .i64 v_over]) (H:M_val_Len_List0 v_l v_frozen v_over K):Fn Tryz.prog 154 ⟨[.iface 61 (.pointer (some ⟨g_v,0,none⟩))]⟩ w (fun v w'=>w=w'/\∃ (r0:Int),∃ (r1:Bool),v=.tuple #[.int .i64 r0,.bool r1]/\K r0 r1):=by
 subst b6
 unfold M_val_Len_List0 at H
 refine Fn.enter (by kernel_rfl) Tryz.func154 rfl Tryz.ntmps154 rfl ?_
 replace H:=H (by rw [<-a1.1]; exact Nat.le_trans hv_l.cap hv_l.max)
 refine zd (zb (yp (h:=(yp (h:=(ze (za (zd (zb (yp (h:=(zx rfl rfl (W_val_length_List0 hv_l rfl a1 hv H) ?_))))))))))))
 rintro _ _ ⟨rfl,t50,t51,rfl,H⟩
 exact yp (h:=(yp (h:=(yp (h:=(yp (h:=(ze (za (zu (zQ rfl rfl rfl ⟨rfl,t50,t51,rfl,H⟩)))))))))))
set_option maxHeartbeats 8000000 in
theorem W_list_size_List0 {w:World} {g_v:Nat} {v_l:List PV} {a6:Option Addr} {b0:Nat} {a2:List VH} {v_frozen:Bool} {v_over:Int} {b5:Nat} {K:Int->Bool->Prop} (hv_l:Rd vv w a6 b0 a2) (b6:b5=v_l.length) (a1:RelD deV w a2 v_l) (hv:Bl w g_v 166 [.slice a6 b5 b0,.bool v_frozen,.int .i64 v_over]) (H:M_list_size_List0 v_l v_frozen v_over K):Fn Tryz.prog 90 ⟨[.iface 61 (.pointer (some ⟨g_v,0,none⟩))]⟩ w (fun v w'=>w.grownBy w' none/\∃ (r0:Int),∃ (r1:Bool),v=.tuple #[.int .i64 r0,.bool r1]/\K r0 r1):=by
 subst b6
 unfold M_list_size_List0 at H
 refine Fn.enter (by kernel_rfl) Tryz.func90 rfl Tryz.ntmps90 rfl ?_
 replace H:=H (by rw [<-a1.1]; exact Nat.le_trans hv_l.cap hv_l.max)
 refine zd (zb (yp (h:=(yp (h:=(ze (za (zd (zd (zb (yp (h:=(zf rfl (assertNoX (z:=.pointer none) Tryz.underlying187 rfl (fun _=>by kernel_rfl) rfl rfl) (yp (h:=(yp (h:=(yp (h:=(yp (h:=(yp (h:=(ze (za (zd (zb (yp (h:=(ze (za (zp rfl (fun h=>by cases h) (fun _=>zr (za (zd (zd (zb (yp (h:=(qo rfl rfl (fun w=>by kernel_rfl) rfl (kindL_fn (u:=.pointer (some ⟨g_v,0,none⟩))) ?_))))))))))))))))))))))))))))))))))))))))
 rintro _ w1 ⟨hg1,rfl⟩
 have gr1:=hg1
 refine yp (h:=(ze (za (zp rfl (fun h=>by cases h) (fun _=>zr (za (zd (zb (yp (h:=(zx rfl rfl (W_val_Len_List0 (hv_l.grown gr1) rfl (a1.grown gr1) (hv.g0 gr1) H) ?_)))))))))))
 rintro _ _ ⟨rfl,t230,t231,rfl,H⟩
 exact yp (h:=(yp (h:=(yp (h:=(yp (h:=(yp (h:=(ze (za (zd (zb (yp (h:=(yp (h:=(yp (h:=(yp (h:=(ze (za (zu (zQ rfl rfl rfl ⟨gr1,t230,t231,rfl,H⟩)))))))))))))))))))))))))
set_option maxHeartbeats 8000000 in
theorem ky {S:List Nat} {w:World} {g_v:Nat} {v_l:List PV} {a6:Option Addr} {b0:Nat} {a2:List VH} {v_frozen:Bool} {v_over:Int} {v_from:Value} {v_from2:Value} {from_:Int} {m_from:Nat} {v_to:Value} {v_to2:Value} {to_:Int} {m_to:Nat} {has:Bool} {until_:Bool} {b5:Nat} {K0:Er->Prop} {K:(List PV)->Bool->Int->Er->Prop} (hG:GOK S w) (hS7:7∈S) (hv_l:Rd vv w a6 b0 a2) (b6:b5=v_l.length) (a1:RelD deV w a2 v_l) (hv:Bl w g_v 166 [.slice a6 b5 b0,.bool v_frozen,.int .i64 v_over]) (hfrom_:Nm w (.agg ⟨[v_from,v_from2]⟩) from_ m_from) (hto_:Nm w (.agg ⟨[v_to,v_to2]⟩) to_ m_to) (H:jh v_l v_frozen v_over from_ m_from to_ m_to has until_ K0 K):Fn Tryz.prog 38 ⟨[.iface 61 (.pointer (some ⟨g_v,0,none⟩)),.agg ⟨[v_from,v_from2]⟩,.agg ⟨[v_to,v_to2]⟩,.bool has,.bool until_]⟩ w (fun v w'=>w.grownBy w' none/\((∃ (v_r12:Value),∃ (r12:Er),v=.tuple #[.nilIface,v_r12]/\ErrR S w' v_r12 r12/\K0 r12)∨(∃ (f1:Nat),∃ (e4:List PV),∃ (d2:Option Addr),∃ (f0:Nat),∃ (c8:List VH),∃ (d7:Bool),∃ (e6:Int),∃ (v_r1:Value),∃ (r1:Er),v=.tuple #[.iface 61 (.pointer (some ⟨f1,0,none⟩)),v_r1]/\Own vv w' w.heap.size 32 d2 f0 c8/\RelD deV w' c8 e4/\(∀ p:Option Nat,Lt p w.heap.size->DnD deV a2 v_l p->DnD deV c8 e4 p)/\DnD deV c8 e4 (blk d2)/\ErrR S w' v_r1 r1/\Bl w' f1 166 [.slice d2 e4.length f0,.bool d7,.int .i64 e6]/\Ge (some f1) w.heap.size/\DnD deV c8 e4 (blk d2)/\DnD deV c8 e4 (some f1)/\Dj (blk d2) (some f1)/\K e4 d7 e6 r1))):=by
 subst b6
 unfold jh at H
 refine Fn.enter (by kernel_rfl) Tryz.func38 rfl Tryz.ntmps38 rfl ?_
 replace H:=H (by rw [<-a1.1]; exact Nat.le_trans hv_l.cap hv_l.max)
 refine zd (zb (qa (us:=[v_from,v_from2]) rfl rfl rfl (fun g1 w1 hB1 hg1 hl1=>qa (us:=[v_to,v_to2]) rfl rfl rfl (fun g2 w2 hB2 hg2 hl2=>?_))))
 have gr2:=qC hg1 hg2
 have hv1:RelD deV w2 [(vnil,noF)] [PV.nil]:=deV_nil
 refine yp (h:=(yp (h:=(ze (za (zd (zb (yp (h:=(zx rfl rfl (W_list_size_List0 (hv_l.grown gr2) rfl (a1.grown gr2) (hv.g0 gr2) H) ?_))))))))))
 rintro _ w3 ⟨hg3,t240,t241,rfl,H⟩
 have gr3:=qC gr2 hg3
 have k2:=(hB1.g0 hg2).g0 hg3
 have k3:=hB2.g0 hg3
 refine yp (h:=(yp (h:=(yp (h:=(yp (h:=(yp (h:=(ze (za (zd (zd (zb (yp (h:=(yp (h:=(ze (za (zp rfl (fun b1=>?_) (fun b1=>?_))))))))))))))))))))))
 ·replace H:=H.1 (b1)
  exact zd (False.elim H)
 ·replace H:=H.2 (b1)
  refine zr (za (zd (zV (fun k => !(Nat.beq k 2 || Nat.beq k 4 || Nat.beq k 7)) (LD [1,3] (fun w'=>Bl w' g1 75 [v_from,v_from2]/\Bl w' g2 75 [v_to,v_to2])) jg (by kernel_rfl) (fun k w' h _=>⟨(jc h k2),(jc h k3)⟩) (zC rfl rfl (fun w' hw'=>zg qB rfl) (zC rfl rfl (fun w' hw'=>z3 (vs:=[v_from,v_from2]) qB (hw' rfl).1 rfl rfl rfl rfl) (qg rfl (qS) rfl rfl (W_list_bound (hfrom_.grown gr3) H) (fun v w' h w2 e=>DD.keep (⟨(Bl.g0 k2 (jj h.1 e)),(Bl.g0 k3 (jj h.1 e))⟩)) ?_))))))
  rintro _ w4 ⟨hg4,t33,rfl,H⟩
  have gr4:=qC gr3 hg4
  have k4:=k2.g0 hg4
  have k5:=k3.g0 hg4
  refine zC rfl rfl (fun w' hw'=>z3 (vs:=[v_to,v_to2]) qB (hw' rfl).2 rfl rfl rfl rfl) (qg rfl (qS) rfl rfl (W_list_bound (hto_.grown gr4) H) (fun v w' h w2 e=>DD.keep (⟨(Bl.g0 k4 (jj h.1 e)),(Bl.g0 k5 (jj h.1 e))⟩)) ?_)
  rintro _ w5 ⟨hg5,t35,rfl,H⟩
  have gr5:=qC gr4 hg5
  have k6:=k4.g0 hg5
  refine zC rfl rfl (fun w' hw'=>zg qB rfl) (zC rfl rfl (fun w' hw'=>zg qB rfl) (qg rfl (qS) rfl rfl (W_str_Cut H) (fun v w' h w2 e=>DD.keep (⟨(jc (eqvL h.1 e) k6),(jc (eqvL h.1 e) (k5.g0 hg5))⟩)) ?_))
  rintro _ _ ⟨rfl,t380,t381,rfl,H⟩
  refine zC rfl rfl (fun w' hw'=>zg qB rfl) (zC rfl rfl (fun w' hw'=>zg qB rfl) (zC rfl rfl (fun w' hw'=>zg qB rfl) (zC rfl rfl (fun w' hw'=>zg qB rfl) (zC rfl rfl (fun w' hw'=>zg qB rfl) (qd (za (zd (zd (zb (yp (h:=(zx rfl rfl (W_val_AsStr_List0 (hv_l.grown gr5) rfl (a1.grown gr5) (hv.g0 gr5) H) ?_))))))))))))
  rintro _ _ ⟨rfl,t430,t431,rfl,H⟩
  refine yp (h:=(yp (h:=(yp (h:=(yp (h:=(yp (h:=(ze (za (zd (zb (yp (h:=(ze (za (zp rfl (fun b2=>?_) (fun b2=>?_)))))))))))))))))))
  ·replace H:=H.1 (b2)
   exact zd (False.elim H)
  ·replace H:=H.2 (b2)
   refine zr (za (zd (zd (zb (yp (h:=(yp (h:=?_))))))))
   obtain ⟨h1,H⟩:=H
   refine zf rfl (Yld.sub rfl rfl h1) (yp (h:=(ze (za (zp rfl (fun b3=>?_) (fun b3=>?_))))))
   ·replace H:=H.1 (of_decide_eq_true b3)
    refine zd (qn jg (by kernel_rfl) ?_)
    obtain ⟨vE1,_,hE1⟩:=GOK.get (hG.grown gr5) 7 1 hS7 rfl rfl
    refine z5 rfl (Yld.cell qB (ErrR.cell hE1 rfl) rfl rfl) ?_
    have hv2:RelD deV w5 [(vnil,noF)] [PV.nil]:=deV_nil
    exact z5 rfl (zg qB rfl) (z5 rfl (zg qB rfl) (qz (za (zu (zi (zQ rfl rfl rfl ⟨gr5,Or.inl ⟨vE1,(Er.e 7),rfl,hE1,H⟩⟩))))))
   ·replace H:=H.2 (of_decide_eq_false b3)
    refine zr (za (zd (zb (yp (h:=(ze (za (zd (zd (zb (yp (h:=(zx rfl rfl (jQ (hv_l.grown gr5) rfl (a1.grown gr5) (hv.g0 gr5) H) ?_)))))))))))))
    rintro _ w6 ⟨hg6,t590,i3,i4,i1,t591,rfl,ht590,e5,ho1,dj1,H⟩
    have hb1:=ht590.ge'
    refine yp (h:=(yp (h:=(yp (h:=(yp (h:=(yp (h:=(ze (za (zd (zb (yp (h:=(ze (za (zp rfl (fun b4=>?_) (fun b4=>?_)))))))))))))))))))
    ·replace H:=H.1 (b4)
     refine zb (yp (h:=(yp (h:=(yp (h:=?_))))))
     obtain ⟨h2,H⟩:=H
     have hl3:=h2.2.2
     refine WL.cut qB (ht590.base (fun g hg=>Nat.le_trans (qD gr5) (hb1 g hg))).rd rfl rfl rfl e5.1.symm rfl rfl h2.1 h2.2.1 hl3 (fun A_l c_l hR1 hb2=>?_)
     have hr1:=(RelD.drop e5 t380.toNat).take (t381.toNat - t380.toNat)
     refine yp (h:=(ze (za (zd (zd (zb (yp (h:=(qo rfl rfl (fun w=>by kernel_rfl) rfl (kindL_fn (u:=.pointer (some ⟨g_v,0,none⟩))) ?_)))))))))
     rintro _ w7 ⟨hg7,rfl⟩
     have gr7:=qC (qC gr5 hg6) hg7
     have k10:=hr1.grown hg7
     refine yp (h:=(ze (za (zp rfl (fun h=>by cases h) (fun _=>zr (za (zd (zb (yp (h:=(zx rfl rfl (W_val_NewList (hR1.grown hg7) (rfl.trans k10.1) k10 H) ?_)))))))))))
     rintro v_ w8 ⟨hg_,hc_ | hc_⟩
     ·obtain ⟨rfl,H⟩:=hc_
      have hg8:=hg_
      have gr8:=qC gr7 hg8
      exact False.elim H
     ·obtain ⟨h8,f4,f5,f6,f3,c9,d5,rfl,ht85_l,f2,ho2,dj2,ht85,hge1,dj3,dj4,dj5,H⟩:=hc_
      have hg9:=hg_
      have hb3:=ht85_l.ge'
      exact zf rfl (qk Tryz.underlying61 rfl rfl) (yp (h:=(yp (h:=(ze (za (zu (zQ rfl rfl rfl ⟨(qC gr7 hg9),Or.inr ⟨h8,f4,f5,f6,f3,c9,d5,.nilIface,Er.ok,rfl,(ht85_l.base (fun g hg=>Nat.le_trans (qD gr7) (hb3 g hg))),f2,(fun p_ hp_ v0_=>have q_:=v0_; ho2 p_ (fun g_ e_=>Nat.lt_of_lt_of_le (hp_ g_ e_) (qD gr7)) (((DnD.drop (ho1 p_ (fun g_ e_=>Nat.lt_of_lt_of_le (hp_ g_ e_) (qD gr5)) (q_)) t380.toNat).take (t381.toNat - t380.toNat)))),dj3,(ErrR.okR (S:=S) (w:=w8)),ht85,(Ge.le hge1 (qD gr7)),dj3,dj4,dj5,H⟩⟩))))))))
    ·replace H:=H.2 (b4)
     exact zd (False.elim H)
set_option maxHeartbeats 8000000 in
theorem W_list_place {w:World} {v_i:Value} {v_i2:Value} {i:Int} {m_i:Nat} {n:Int} {K:Int->Bool->Prop} (hi:Nm w (.agg ⟨[v_i,v_i2]⟩) i m_i) (H:M_list_place i m_i n K):Fn Tryz.prog 103 ⟨[.agg ⟨[v_i,v_i2]⟩,.int .i64 n]⟩ w (fun v w'=>w.grownBy w' none/\∃ (r0:Int),∃ (r1:Bool),v=.tuple #[.int .i64 r0,.bool r1]/\K r0 r1):=by
 unfold M_list_place at H
 refine Fn.enter (by kernel_rfl) Tryz.func103 rfl Tryz.ntmps103 rfl ?_
 refine zd (zb (qa (us:=[v_i,v_i2]) rfl rfl rfl (fun g1 w1 hB1 hg1 hl1=>?_)))
 have gr1:=hg1
 refine yp (h:=(yp (h:=(ze (za (zd (zb (zf rfl (z3 (vs:=[v_i,v_i2]) qB hB1 rfl rfl rfl rfl) (zx rfl rfl (W_num_Num_Int (hi.grown gr1) H) ?_)))))))))
 rintro _ w2 ⟨hg2,t100,t101,rfl,H⟩
 refine yp (h:=(yp (h:=(yp (h:=(yp (h:=(yp (h:=(ze (za (zd ?_))))))))))))
 obtain ⟨J1,H,hJ1⟩:=H
 refine qf (fun L' w'=>∃ (k:Int),L'=[(1,.int .i64 n),(6,.int .i64 k),(7,.bool t101)]/\J1 k/\w2=w') ?_ (fun hQ=>?_)
 ·clear H
  rintro _ _ ⟨k,rfl,H,rfl⟩
  replace H:=hJ1 k H
  refine za (zd (zb (yp (h:=(yp (h:=(yp (h:=(zX 3 (fun L' w'=>∃ q1:Bool,L'=[(26,.bool q1),(1,.int .i64 n),(6,.int .i64 k),(21,.int .i64 k)]/\(t101 && (decide ((0:Int)<=k)))=q1/\w2=w') ?_ (fun hQ=>?_))))))))))
  ·rintro _ _ ⟨q1,rfl,rfl,rfl⟩
   refine yp (h:=(zX 4 (fun L' w'=>∃ q2:Bool,L'=[(31,.bool q2),(21,.int .i64 k)]/\((t101 && (decide ((0:Int)<=k))) && (decide (k<n)))=q2/\w2=w') ?_ (fun hQ=>?_)))
   ·rintro _ _ ⟨q2,rfl,rfl,rfl⟩
    exact yp (h:=(yp (h:=(ze (za (zu (zQ rfl rfl rfl ⟨(qC gr1 hg2),k,(t101 && (decide ((0:Int)<=k))) && (decide (k<n)),rfl,H⟩)))))))
   ·clear H
    rcases Bool.eq_false_or_eq_true (t101 && (decide ((0:Int)<=k))) with b1 | b1
    ·exact gp b1 (h:=(gp b1 (h:=(gp b1 (h:=(zf rfl (zR (okb b1) rfl) (wk (hQ _ _ ⟨decide (k<n),rfl,by rw [b1] <;> rfl,rfl⟩))))))))
    ·exact gn b1 (h:=(gn b1 (h:=(gn b1 (h:=(zf rfl (zO (okb b1) rfl) (wk (hQ _ _ ⟨false,rfl,by rw [b1] <;> rfl,rfl⟩))))))))
  ·clear H
   rcases Bool.eq_false_or_eq_true (t101) with b2 | b2
   ·exact gp b2 (h:=(gp b2 (h:=(zf rfl (zR (okb b2) rfl) (wk (hQ _ _ ⟨decide ((0:Int)<=k),rfl,by rw [b2] <;> rfl,rfl⟩))))))
   ·exact gn b2 (h:=(gn b2 (h:=(zf rfl (zO (okb b2) rfl) (wk (hQ _ _ ⟨false,rfl,by rw [b2] <;> rfl,rfl⟩))))))
 ·clear hJ1
  refine zd (zb (yp (h:=(yp (h:=(zX 3 (fun L' w'=>∃ q3:Bool,L'=[(17,.bool q3),(1,.int .i64 n),(6,.int .i64 t100),(7,.bool t101)]/\(t101 && (decide (t100<(0:Int))))=q3/\w2=w') ?_ (fun hQ=>?_)))))))
  ·rintro _ _ ⟨q3,rfl,rfl,rfl⟩
   refine ze (za (zp rfl (fun b3=>?_) (fun b3=>?_)))
   ·replace H:=H.1 (b3)
    refine zb (yp (h:=(yp (h:=?_))))
    obtain ⟨h1,H⟩:=H
    exact zf rfl (Yld.add rfl rfl h1) (yp (h:=(ze (WX.weaken sb (hQ _ _ ⟨t100+n,rfl,H,rfl⟩)))))
   ·replace H:=H.2 (b3)
    exact zr (WX.weaken sb (hQ _ _ ⟨t100,rfl,H,rfl⟩))
  ·clear H
   rcases Bool.eq_false_or_eq_true (t101) with b4 | b4
   ·exact gp b4 (h:=(gp b4 (h:=(zf rfl (zR (okb b4) rfl) (wk (hQ _ _ ⟨decide (t100<(0:Int)),rfl,by rw [b4] <;> rfl,rfl⟩))))))
   ·exact gn b4 (h:=(gn b4 (h:=(zf rfl (zO (okb b4) rfl) (wk (hQ _ _ ⟨false,rfl,by rw [b4] <;> rfl,rfl⟩))))))
set_option maxHeartbeats 8000000 in
theorem W_pval_List_Put {w:World} {g_l:Nat} {l_l:List PV} {a0:Option Addr} {c1:Nat} {a5:List VH} {l_frozen:Bool} {l_over:Int} {items:List PV} {a3:Option Addr} {c5:Nat} {b9:List VH} {c3:Nat} {d0:Nat} {K:(List PV)->Bool->Int->Prop} (hl_l:Own vv w 0 32 a0 c1 a5) (c6:c3=l_l.length) (b8:RelD deV w a5 l_l) (hl:Bl w g_l 166 [.slice a0 c3 c1,.bool l_frozen,.int .i64 l_over]) (hitems:Own vv w 0 32 a3 c5 b9) (d4:d0=items.length) (c7:RelD deV w b9 items) (hdj0_1:Dj (some g_l) (blk a0)) (hdj0_2:Dj (some g_l) (blk a3)) (hdj1_2:Dj (blk a0) (blk a3)) (hap0:AllP (DnD deV a5 l_l) [(some g_l),(blk a0),(blk a3)]) (hap1:AllP (DnD deV b9 items) [(some g_l),(blk a0),(blk a3)]) (H:M_pval_List_Put l_l l_frozen l_over items K):Fn Tryz.prog 158 ⟨[.pointer (some ⟨g_l,0,none⟩),.slice a3 d0 c5]⟩ w (fun v w'=>GrL [(some g_l),(blk a0),(blk a3)] w w'/\∃ (l_l2:List PV),∃ (a8:Option Addr),∃ (c2:Nat),∃ (a4:List VH),∃ (l_frozen2:Bool),∃ (l_over2:Int),v=.tuple #[]/\Bl w' g_l 166 [.slice a8 l_l2.length c2,.bool l_frozen2,.int .i64 l_over2]/\Own vv w' 0 32 a8 c2 a4/\InP [(some g_l),(blk a0),(blk a3)] w.heap.size (blk a8)/\RelD deV w' a4 l_l2/\(∀ p:Option Nat,Lt p w.heap.size->DnD deV a5 l_l p->DnD deV b9 items p->DnD deV a4 l_l2 p)/\Dj (some g_l) (blk a8)/\DnD deV a4 l_l2 (some g_l)/\DnD deV a4 l_l2 (blk a8)/\K l_l2 l_frozen2 l_over2):=by
 subst c6
 subst d4
 unfold M_pval_List_Put at H
 refine Fn.enter (by kernel_rfl) Tryz.func158 rfl Tryz.ntmps158 rfl ?_
 replace H:=H (by rw [<-b8.1]; exact Nat.le_trans hl_l.rd.cap hl_l.rd.max)
 replace H:=H (by rw [<-c7.1]; exact Nat.le_trans hitems.rd.cap hitems.rd.max)
 have hNoAt:AllP (NoAt w) [(some g_l),(blk a0),(blk a3)]:=(apC (NoAt.bl hl rfl) (apC (NoAt.own hl_l rfl) (apC (NoAt.own hitems rfl) apN)))
 refine zb (yp (h:=(yp (h:=(yp (h:=(zf rfl (zY (o:=0) (by kernel_rfl) rfl) (qm one27 rfl rfl rfl hl (by simp) (fun w1 hB2 hg1=>?_)))))))))
 have hB1:Bl w1 g_l 166 [.slice a3 items.length c5,.bool l_frozen,.int .i64 l_over]:=hB2
 have gr1:GrL [(some g_l),(blk a0),(blk a3)] w w1:=GrL.mod (GrL.refl _) hg1 (InP.mem (List.Mem.head _))
 exact ze (z7 rfl ⟨gr1,items,a3,c5,b9,l_frozen,l_over,rfl,hB1,(hitems.go hg1 hdj0_2.symm),(InP.mem (List.Mem.tail _ (List.Mem.tail _ (List.Mem.head _)))),(c7.go hg1 (hap1 _ (List.Mem.head _))),(fun p_ hp_ v0_ v1_=>have q_:=And.intro v0_ v1_; q_.2),hdj0_2,(hap1 _ (List.Mem.head _)),(hap1 _ (List.Mem.tail _ (List.Mem.tail _ (List.Mem.head _)))),H⟩)
set_option maxHeartbeats 8000000 in
theorem W_list_items {w:World} {g_l:Nat} {l_l:List PV} {a0:Option Addr} {c1:Nat} {a5:List VH} {l_frozen:Bool} {l_over:Int} {c3:Nat} {K:(List PV)->Prop} (hl_l:Rd vv w a0 c1 a5) (c6:c3=l_l.length) (b8:RelD deV w a5 l_l) (hl:Bl w g_l 166 [.slice a0 c3 c1,.bool l_frozen,.int .i64 l_over]) (H:M_list_items l_l l_frozen l_over K):Fn Tryz.prog 99 ⟨[.pointer (some ⟨g_l,0,none⟩)]⟩ w (fun v w'=>w.grownBy w' none/\∃ (r:List PV),∃ (A_r:Option Addr),∃ (c_r:Nat),∃ (f7:List VH),v=.slice A_r r.length c_r/\Own vv w' w.heap.size 32 A_r c_r f7/\RelD deV w' f7 r/\(∀ p:Option Nat,Lt p w.heap.size->DnD deV a5 l_l p->DnD deV f7 r p)/\DnD deV f7 r (blk A_r)/\K r):=by
 subst c6
 unfold M_list_items at H
 refine Fn.enter (by kernel_rfl) Tryz.func99 rfl Tryz.ntmps99 rfl ?_
 replace H:=H (by rw [<-b8.1]; exact Nat.le_trans hl_l.cap hl_l.max)
 refine zd (zb (yp (h:=(ze (za (zd (zb (yp (h:=(zf rfl (qk Tryz.underlying61 rfl rfl) (zx rfl rfl (jQ hl_l rfl b8 hl H) ?_)))))))))))
 rintro _ w1 ⟨hg1,t80,h5,h7,g6,t81,rfl,ht80,g5,ho1,dj1,H⟩
 have hb1:=ht80.ge'
 exact yp (h:=(yp (h:=(yp (h:=(yp (h:=(yp (h:=(ze (za (zd (zb (yp (h:=(yp (h:=(ze (za (zu (zM rfl rfl ⟨hg1,t80,h5,h7,g6,rfl,(ht80.base (fun g hg=>Nat.le_trans (Nat.le_refl _) (hb1 g hg))),g5,(fun p_ hp_ v0_=>have q_:=v0_; ho1 p_ (fun g_ e_=>Nat.lt_of_lt_of_le (hp_ g_ e_) (Nat.le_refl _)) (q_)),dj1,H⟩)))))))))))))))))))))
set_option maxHeartbeats 8000000 in
theorem W_list_change {S:List Nat} {B:Nat} {w:World} {g_l:Nat} {l_l:List PV} {a0:Option Addr} {c1:Nat} {a5:List VH} {l_frozen:Bool} {l_over:Int} {items:List PV} {a3:Option Addr} {c5:Nat} {b9:List VH} {c3:Nat} {d0:Nat} {K:Er->(List PV)->Bool->Int->Prop} (hG:GB S B w) (hB:B<=w.heap.size) (hP:AllP (fun p=>Ge p B) [(some g_l),(blk a0),(blk a3)]) (hS3:3∈S) (hS7:7∈S) (hl_l:Own vv w 0 32 a0 c1 a5) (c6:c3=l_l.length) (b8:RelD deV w a5 l_l) (hl:Bl w g_l 166 [.slice a0 c3 c1,.bool l_frozen,.int .i64 l_over]) (hitems:Own vv w 0 32 a3 c5 b9) (d4:d0=items.length) (c7:RelD deV w b9 items) (hdj0_1:Dj (some g_l) (blk a0)) (hdj0_2:Dj (some g_l) (blk a3)) (hdj1_2:Dj (blk a0) (blk a3)) (hap0:AllP (DnD deV a5 l_l) [(some g_l),(blk a0),(blk a3)]) (hap1:AllP (DnD deV b9 items) [(some g_l),(blk a0),(blk a3)]) (H:ks l_l l_frozen l_over items K):Fn Tryz.prog 100 ⟨[.pointer (some ⟨g_l,0,none⟩),.slice a3 d0 c5]⟩ w (fun v w'=>GrL [(some g_l),(blk a0),(blk a3)] w w'/\∃ (v_r:Value),∃ (r:Er),∃ (l_l2:List PV),∃ (a8:Option Addr),∃ (c2:Nat),∃ (a4:List VH),∃ (l_frozen2:Bool),∃ (l_over2:Int),v=v_r/\ErrR S w' v_r r/\Bl w' g_l 166 [.slice a8 l_l2.length c2,.bool l_frozen2,.int .i64 l_over2]/\Own vv w' 0 32 a8 c2 a4/\InP [(some g_l),(blk a0),(blk a3)] w.heap.size (blk a8)/\RelD deV w' a4 l_l2/\(∀ p:Option Nat,Lt p w.heap.size->DnD deV a5 l_l p->DnD deV b9 items p->DnD deV a4 l_l2 p)/\Dj (some g_l) (blk a8)/\DnD deV a4 l_l2 (some g_l)/\DnD deV a4 l_l2 (blk a8)/\K r l_l2 l_frozen2 l_over2):=by
 subst c6
 subst d4
 unfold ks at H
 refine Fn.enter (by kernel_rfl) Tryz.func100 rfl Tryz.ntmps100 rfl ?_
 replace H:=H (by rw [<-b8.1]; exact Nat.le_trans hl_l.rd.cap hl_l.rd.max)
 replace H:=H (by rw [<-c7.1]; exact Nat.le_trans hitems.rd.cap hitems.rd.max)
 have hNoAt:AllP (NoAt w) [(some g_l),(blk a0),(blk a3)]:=(apC (NoAt.bl hl rfl) (apC (NoAt.own hl_l rfl) (apC (NoAt.own hitems rfl) apN)))
 refine zd (zb (yp (h:=(ze (za (zd (zd (zb (yp (h:=(zx rfl rfl (W_pval_List_Loose hl_l.rd rfl b8 hl H) ?_)))))))))))
 rintro _ _ ⟨rfl,t6,rfl,H⟩
 refine yp (h:=(ze (za (zp rfl (fun b1=>?_) (fun b1=>?_)))))
 ·replace H:=H.1 (b1)
  refine zd (zb ?_)
  obtain ⟨vE1,_,hE1⟩:=GOK.get hG.ok 3 0 hS3 rfl rfl
  exact zf rfl (Yld.cell qB (ErrR.cell hE1 rfl) rfl rfl) (yp (h:=(ze (za (zu (zi (zM rfl rfl ⟨(GrL.refl _),vE1,(Er.e 3),l_l,a0,c1,a5,l_frozen,l_over,rfl,hE1,hl,hl_l,(InP.mem (List.Mem.tail _ (List.Mem.head _))),b8,(fun p_ hp_ v0_ v1_=>have q_:=And.intro v0_ v1_; q_.1),hdj0_1,(hap0 _ (List.Mem.head _)),(hap0 _ (List.Mem.tail _ (List.Mem.head _))),H⟩)))))))
 ·replace H:=H.2 (b1)
  refine zr (za (zd (zd (zb (yp (h:=(yp (h:=(yp (h:=(ze (za (zp rfl (fun b2=>?_) (fun b2=>?_))))))))))))))
  ·replace H:=H.1 (of_decide_eq_true b2)
   refine zd (zb ?_)
   obtain ⟨vE2,_,hE2⟩:=GOK.get hG.ok 7 1 hS7 rfl rfl
   exact zf rfl (Yld.cell qB (ErrR.cell hE2 rfl) rfl rfl) (yp (h:=(ze (za (zu (zi (zM rfl rfl ⟨(GrL.refl _),vE2,(Er.e 7),l_l,a0,c1,a5,l_frozen,l_over,rfl,hE2,hl,hl_l,(InP.mem (List.Mem.tail _ (List.Mem.head _))),b8,(fun p_ hp_ v0_ v1_=>have q_:=And.intro v0_ v1_; q_.1),hdj0_1,(hap0 _ (List.Mem.head _)),(hap0 _ (List.Mem.tail _ (List.Mem.head _))),H⟩)))))))
  ·replace H:=H.2 (of_decide_eq_false b2)
   refine zr (za (zd (zb (yp (h:=(yp (h:=(zx rfl rfl (W_pval_List_Put hl_l rfl b8 hl hitems rfl c7 hdj0_1 hdj0_2 hdj1_2 (apC (hap0 _ (List.Mem.head _)) (apC (hap0 _ (List.Mem.tail _ (List.Mem.head _))) (apC (hap0 _ (List.Mem.tail _ (List.Mem.tail _ (List.Mem.head _)))) apN))) (apC (hap1 _ (List.Mem.head _)) (apC (hap1 _ (List.Mem.tail _ (List.Mem.head _))) (apC (hap1 _ (List.Mem.tail _ (List.Mem.tail _ (List.Mem.head _)))) apN))) H) ?_))))))))
   rintro _ w1 ⟨hgl1,l_,e0,e9,e1,l_2,l_3,rfl,hB1,hO1,hi1,hr1,ho1,dj1,dj2,dj3,H⟩
   have hi2:InP [(some g_l),(blk a0),(blk a3)] w.heap.size (blk e0):=InP.trans hi1 (apC (InP.mem (List.Mem.head _)) (apC (InP.mem (List.Mem.tail _ (List.Mem.head _))) (apC (InP.mem (List.Mem.tail _ (List.Mem.tail _ (List.Mem.head _)))) apN))) (Nat.le_refl _)
   have gr1:GrL [(some g_l),(blk a0),(blk a3)] w w1:=GrL.modL (GrL.refl _) hgl1 (apC (InP.mem (List.Mem.head _)) (apC (InP.mem (List.Mem.tail _ (List.Mem.head _))) (apC (InP.mem (List.Mem.tail _ (List.Mem.tail _ (List.Mem.head _)))) apN)))
   have k1:=b8.goL hgl1 (apC (hap0 _ (List.Mem.head _)) (apC (hap0 _ (List.Mem.tail _ (List.Mem.head _))) (apC (hap0 _ (List.Mem.tail _ (List.Mem.tail _ (List.Mem.head _)))) apN)))
   exact ze (za (zd (zb (yp (h:=(ze (za (zu (zM rfl rfl ⟨gr1,.nilIface,Er.ok,l_,e0,e9,e1,l_2,l_3,rfl,(ErrR.okR (S:=S) (w:=w1)),hB1,hO1,hi2,hr1,(fun p_ hp_ v0_ v1_=>have q_:=And.intro v0_ v1_; ho1 p_ (fun g_ e_=>Nat.lt_of_lt_of_le (hp_ g_ e_) (Nat.le_refl _)) (q_.1) (q_.2)),dj1,dj2,dj3,H⟩)))))))))
set_option maxHeartbeats 8000000 in
theorem W_list_Insert {S:List Nat} {B:Nat} {w:World} {g_l:Nat} {l_l:List PV} {a0:Option Addr} {c1:Nat} {a5:List VH} {l_frozen:Bool} {l_over:Int} {v_i:Value} {v_i2:Value} {i:Int} {m_i:Nat} {v_x:OV} {F_x:Nat->Prop} {x:PV} {c3:Nat} {K:Er->(List PV)->Bool->Int->Prop} (hG:GB S B w) (hB:B<=w.heap.size) (hP:AllP (fun p=>Ge p B) [(some g_l),(blk a0)]) (hS3:3∈S) (hS7:7∈S) (hl_l:Own vv w 0 32 a0 c1 a5) (c6:c3=l_l.length) (b8:RelD deV w a5 l_l) (hl:Bl w g_l 166 [.slice a0 c3 c1,.bool l_frozen,.int .i64 l_over]) (hi:Nm w (.agg ⟨[v_i,v_i2]⟩) i m_i) (hx:RelD deV w [(v_x,F_x)] [x]) (hdj0_1:Dj (some g_l) (blk a0)) (hap0:AllP (DnD deV a5 l_l) [(some g_l),(blk a0)]) (hap1:AllP (DnD deV [(v_x,F_x)] [x]) [(some g_l),(blk a0)]) (H:M_list_Insert l_l l_frozen l_over i m_i x K):Fn Tryz.prog 41 ⟨[.pointer (some ⟨g_l,0,none⟩),.agg ⟨[v_i,v_i2]⟩,v_x.1]⟩ w (fun v w'=>GrL [(some g_l),(blk a0)] w w'/\∃ (v_r:Value),∃ (r:Er),∃ (l_l2:List PV),∃ (a8:Option Addr),∃ (c2:Nat),∃ (a4:List VH),∃ (l_frozen2:Bool),∃ (l_over2:Int),v=v_r/\ErrR S w' v_r r/\Bl w' g_l 166 [.slice a8 l_l2.length c2,.bool l_frozen2,.int .i64 l_over2]/\Own vv w' 0 32 a8 c2 a4/\InP [(some g_l),(blk a0)] w.heap.size (blk a8)/\RelD deV w' a4 l_l2/\(∀ p:Option Nat,Lt p w.heap.size->DnD deV a5 l_l p->DnD deV [(v_x,F_x)] [x] p->DnD deV a4 l_l2 p)/\Dj (some g_l) (blk a8)/\DnD deV a4 l_l2 (some g_l)/\DnD deV a4 l_l2 (blk a8)/\K r l_l2 l_frozen2 l_over2):=by
 subst c6
 unfold M_list_Insert at H
 refine Fn.enter (by kernel_rfl) Tryz.func41 rfl Tryz.ntmps41 rfl ?_
 replace H:=H (by rw [<-b8.1]; exact Nat.le_trans hl_l.rd.cap hl_l.rd.max)
 have hNoAt:AllP (NoAt w) [(some g_l),(blk a0)]:=(apC (NoAt.bl hl rfl) (apC (NoAt.own hl_l rfl) apN))
 refine zd (zb (qa (us:=[v_i,v_i2]) rfl rfl rfl (fun g1 w1 hB1 hg1 hl1=>?_)))
 have gr1:=(GrL.of0 (ps:=[(some g_l),(blk a0)]) hg1)
 have k1:=hl_l.grown hg1
 have k2:=b8.grown hg1
 have k3:=hl.g0 hg1
 refine yp (h:=(ze (za (zd (zb (yp (h:=(zx rfl rfl (W_list_items k1.rd rfl k2 k3 H) ?_))))))))
 rintro _ w2 ⟨hg2,all,e7,f9,a7,rfl,hall,b7,ho1,dj1,H⟩
 have hb1:=hall.ge'
 refine yp (h:=(ze (za (zd (zb (yp (h:=(yp (h:=(zf rfl (z3 (vs:=[v_i,v_i2]) qB (hB1.g0 hg2) rfl rfl rfl rfl) (zx rfl rfl (W_list_bound ((hi.grown hg1).grown hg2) H) ?_)))))))))))
 rintro _ w3 ⟨hg3,t16,rfl,H⟩
 have gr3:=GrL.add0 (GrL.add0 gr1 hg2) hg3
 have k14:=(hall.base (fun g hg=>Nat.le_trans (GrL.sizeL gr1) (hb1 g hg))).grown hg3
 have k15:=b7.grown hg3
 refine zx rfl rfl (W_str_Cut H) ?_
 rintro _ _ ⟨rfl,t170,t171,rfl,H⟩
 refine yp (h:=(yp (h:=(yp (h:=(yp (h:=(yp (h:=(ze (za (zd (zb (yp (h:=(yp (h:=(yp (h:=(yp (h:=(z6 (us:=[v_x.1]) qB rfl rfl rfl (qF v_x.2 qY) rfl (by omega) (fun g3 w5 hB3 hg5 hl3=>?_)))))))))))))))))))))))
 have hO2:Own vv w5 w.heap.size 32 (some ⟨g3,0,none⟩) 1 ([(v_x,F_x)]:List VH):=Own.ofBl hB3 (Nat.le_trans (GrL.sizeL gr3) hl3) (by simp [maxLen]) rfl
 have gr4:=GrL.add0 gr3 hg5
 have k16:=((k1.grown hg2).grown hg3).grown hg5
 have k17:=((k2.grown hg2).grown hg3).grown hg5
 have k18:=((k3.g0 hg2).g0 hg3).g0 hg5
 have k19:=k14.grown hg5
 have k20:=k15.grown hg5
 have hr1:RelD deV w5 ([(v_x,F_x)]:List VH) ([x]:List PV):=(RelD.cons (RelD.one (hx.goL gr4 hap1)) RelD.nil)
 have nd1:OrD (fun p=>DnD deV a5 l_l p/\DnD deV [(v_x,F_x)] [x] p) deV ([(v_x,F_x)]:List VH) ([x]:List PV) w.heap.size:=(OrD.cons (d:=deV) (fun p_ hp_ q_=>(DnD.one (q_.2))) (fun _ _ _=>DnD.nil))
 have dj2:DnD deV ([(v_x,F_x)]:List VH) ([x]:List PV) (blk a0):=(DnD.cons (d:=deV) (DnD.one (hx.inp hap1 (InP.mem (List.Mem.tail _ (List.Mem.head _))))) DnD.nil)
 have dj3:DnD deV ([(v_x,F_x)]:List VH) ([x]:List PV) (some g_l):=(DnD.cons (d:=deV) (DnD.one (hx.inp hap1 (InP.mem (List.Mem.head _)))) DnD.nil)
 have dj4:DnD deV ([(v_x,F_x)]:List VH) ([x]:List PV) (blk e7):=(DnD.cons (d:=deV) (DnD.one (hx.inp hap1 (InP.ge k19.ge'))) DnD.nil)
 have dj5:DnD deV ([(v_x,F_x)]:List VH) ([x]:List PV) (blk (some ⟨g3,0,none⟩)):=(DnD.cons (d:=deV) (DnD.one (hx.inp hap1 (InP.ge hO2.ge'))) DnD.nil)
 obtain ⟨h1,H⟩:=H
 have h2:(a7:List VH).length=all.length:=k20.1
 refine zx rfl rfl (ins_v k19 b7.1.symm hO2 rfl (Dj.new k14.lt' (Ge.box hl3)).symm h1.1 (by rw [h2]; exact h1.2.1) (by rw [h2]; exact h1.2.2) (GrL.sizeL gr4)) ?_
 rintro _ w6 ⟨g9,i8,rfl,hO3,hg6,hk1⟩
 have el1:(a7.take t170.toNat++([(v_x,F_x)]:List VH)++a7.drop t170.toNat).length=(all.take t170.toNat++([x]:List PV)++all.drop t170.toNat).length:=(RelD.append (RelD.append (RelD.take k20 t170.toNat) hr1) (RelD.drop k20 t170.toNat)).1
 rw [el1]
 have gr5:GrL [(some g_l),(blk a0)] w w6:=GrL.mod gr4 hg6 (InP.ge k19.ge')
 have k22:=k17.go hg6 (k2.new hb1)
 have k24:=k20.go hg6 dj1
 have hr2:RelD deV w6 (a7.take t170.toNat++([(v_x,F_x)]:List VH)++a7.drop t170.toNat) (all.take t170.toNat++([x]:List PV)++all.drop t170.toNat):=RelD.append (RelD.append (RelD.take k24 t170.toNat) (hr1.go hg6 dj4)) (RelD.drop k24 t170.toNat)
 have dj6:DnD deV (a7.take t170.toNat++([(v_x,F_x)]:List VH)++a7.drop t170.toNat) (all.take t170.toNat++([x]:List PV)++all.drop t170.toNat) (blk a0):=(DnD.append ((RelD.take k20 t170.toNat).append hr1).1 (DnD.append (RelD.take k20 t170.toNat).1 (DnD.take (ho1 _ k1.lt' (hap0 _ (List.Mem.tail _ (List.Mem.head _)))) t170.toNat) dj2) (DnD.drop (ho1 _ k1.lt' (hap0 _ (List.Mem.tail _ (List.Mem.head _)))) t170.toNat))
 have dj7:DnD deV (a7.take t170.toNat++([(v_x,F_x)]:List VH)++a7.drop t170.toNat) (all.take t170.toNat++([x]:List PV)++all.drop t170.toNat) (some g_l):=(DnD.append ((RelD.take k20 t170.toNat).append hr1).1 (DnD.append (RelD.take k20 t170.toNat).1 (DnD.take (ho1 _ k3.lt' (hap0 _ (List.Mem.head _))) t170.toNat) dj3) (DnD.drop (ho1 _ k3.lt' (hap0 _ (List.Mem.head _))) t170.toNat))
 have dj8:DnD deV (a7.take t170.toNat++([(v_x,F_x)]:List VH)++a7.drop t170.toNat) (all.take t170.toNat++([x]:List PV)++all.drop t170.toNat) (blk (some ⟨g3,0,none⟩)):=(DnD.append ((RelD.take k20 t170.toNat).append hr1).1 (DnD.append (RelD.take k20 t170.toNat).1 (DnD.take (k15.new (Ge.box hl3)) t170.toNat) dj5) (DnD.drop (k15.new (Ge.box hl3)) t170.toNat))
 have dj9:DnD deV (a7.take t170.toNat++([(v_x,F_x)]:List VH)++a7.drop t170.toNat) (all.take t170.toNat++([x]:List PV)++all.drop t170.toNat) (blk g9):=(DnD.append ((RelD.take k20 t170.toNat).append hr1).1 (DnD.append (RelD.take k20 t170.toNat).1 (DnD.take (RelD.app k20 dj1 hk1) t170.toNat) (RelD.app hr1 dj4 hk1)) (DnD.drop (RelD.app k20 dj1 hk1) t170.toNat))
 refine zx rfl rfl (W_list_change (hG.goL gr5 hP) (Nat.le_trans hB (GrL.sizeL gr5)) (apC (InP.toGe (InP.mem (List.Mem.head _)) hP hB) (apC (InP.toGe (InP.mem (List.Mem.tail _ (List.Mem.head _))) hP hB) (apC (InP.toGe (InP.ge hO3.ge') hP hB) apN))) hS3 hS7 (k16.go hg6 (Dj.new k1.lt' hb1)) rfl k22 (k18.go hg6 (Dj.new k3.lt' hb1)) (hO3.base (fun _ _=>Nat.zero_le _)) rfl hr2 hdj0_1 (Dj.app (Dj.new k3.lt' hb1).symm k18.lt' hk1).symm (Dj.app (Dj.new k1.lt' hb1).symm k16.lt' hk1).symm (apC (hap0 _ (List.Mem.head _)) (apC (hap0 _ (List.Mem.tail _ (List.Mem.head _))) (apC (RelD.app k17 (k2.new hb1) hk1) apN))) (apC dj7 (apC dj6 (apC dj9 apN))) H) ?_
 rintro v_t6 w7 ⟨hgl1,_,t6,l_,e0,e9,e1,l_2,l_3,rfl,ht6,hB4,hO4,hi1,hr3,ho2,dj10,dj11,dj12,H⟩
 have hi2:InP [(some g_l),(blk a0)] w.heap.size (blk e0):=InP.trans hi1 (apC (InP.mem (List.Mem.head _)) (apC (InP.mem (List.Mem.tail _ (List.Mem.head _))) (apC (InP.ge hO3.ge') apN))) (GrL.sizeL gr5)
 have gr6:GrL [(some g_l),(blk a0)] w w7:=GrL.modL gr5 hgl1 (apC (InP.mem (List.Mem.head _)) (apC (InP.mem (List.Mem.tail _ (List.Mem.head _))) (apC (InP.ge hO3.ge') apN)))
 have k26:=k22.goL hgl1 (apC (hap0 _ (List.Mem.head _)) (apC (hap0 _ (List.Mem.tail _ (List.Mem.head _))) (apC (RelD.app k17 (k2.new hb1) hk1) apN)))
 exact yp (h:=(ze (za (zu (zM rfl rfl ⟨gr6,v_t6,t6,l_,e0,e9,e1,l_2,l_3,rfl,ht6,hB4,hO4,hi2,hr3,(fun p_ hp_ v0_ v1_=>have q_:=And.intro v0_ v1_; ho2 p_ (fun g_ e_=>Nat.lt_of_lt_of_le (hp_ g_ e_) (GrL.sizeL gr5)) (q_.1) ((DnD.append ((RelD.take k20 t170.toNat).append hr1).1 (DnD.append (RelD.take k20 t170.toNat).1 (DnD.take (ho1 p_ (fun g_ e_=>Nat.lt_of_lt_of_le (hp_ g_ e_) (GrL.sizeL gr1)) (q_.1)) t170.toNat) (nd1 p_ hp_ q_)) (DnD.drop (ho1 p_ (fun g_ e_=>Nat.lt_of_lt_of_le (hp_ g_ e_) (GrL.sizeL gr1)) (q_.1)) t170.toNat)))),dj10,dj11,dj12,H⟩)))))
set_option maxHeartbeats 8000000 in
theorem W_list_Pop {S:List Nat} {B:Nat} {w:World} {g_l:Nat} {l_l:List PV} {a0:Option Addr} {c1:Nat} {a5:List VH} {l_frozen:Bool} {l_over:Int} {v_i:Value} {v_i2:Value} {i:Int} {m_i:Nat} {c3:Nat} {K:PV->Er->(List PV)->Bool->Int->Prop} (hG:GB S B w) (hB:B<=w.heap.size) (hP:AllP (fun p=>Ge p B) [(some g_l),(blk a0)]) (hS3:3∈S) (hS7:7∈S) (hl_l:Own vv w 0 32 a0 c1 a5) (c6:c3=l_l.length) (b8:RelD deV w a5 l_l) (hl:Bl w g_l 166 [.slice a0 c3 c1,.bool l_frozen,.int .i64 l_over]) (hi:Nm w (.agg ⟨[v_i,v_i2]⟩) i m_i) (hdj0_1:Dj (some g_l) (blk a0)) (hap0:AllP (DnD deV a5 l_l) [(some g_l),(blk a0)]) (H:M_list_Pop l_l l_frozen l_over i m_i K):Fn Tryz.prog 43 ⟨[.pointer (some ⟨g_l,0,none⟩),.agg ⟨[v_i,v_i2]⟩]⟩ w (fun v w'=>GrL [(some g_l),(blk a0)] w w'/\∃ (v_r0:OV),∃ (F_r0:Nat->Prop),∃ (r0:PV),∃ (v_r1:Value),∃ (r1:Er),∃ (l_l2:List PV),∃ (a8:Option Addr),∃ (c2:Nat),∃ (a4:List VH),∃ (l_frozen2:Bool),∃ (l_over2:Int),v=.tuple #[v_r0.1,v_r1]/\RelD deV w' [(v_r0,F_r0)] [r0]/\(∀ p:Option Nat,Lt p w.heap.size->DnD deV a5 l_l p->DnD deV [(v_r0,F_r0)] [r0] p)/\ErrR S w' v_r1 r1/\Bl w' g_l 166 [.slice a8 l_l2.length c2,.bool l_frozen2,.int .i64 l_over2]/\Own vv w' 0 32 a8 c2 a4/\InP [(some g_l),(blk a0)] w.heap.size (blk a8)/\RelD deV w' a4 l_l2/\(∀ p:Option Nat,Lt p w.heap.size->DnD deV a5 l_l p->DnD deV a4 l_l2 p)/\Dj (some g_l) (blk a8)/\DnD deV a4 l_l2 (some g_l)/\DnD deV a4 l_l2 (blk a8)/\DnD deV [(v_r0,F_r0)] [r0] (some g_l)/\DnD deV [(v_r0,F_r0)] [r0] (blk a8)/\K r0 r1 l_l2 l_frozen2 l_over2):=by
 subst c6
 unfold M_list_Pop at H
 refine Fn.enter (by kernel_rfl) Tryz.func43 rfl Tryz.ntmps43 rfl ?_
 replace H:=H (by rw [<-b8.1]; exact Nat.le_trans hl_l.rd.cap hl_l.rd.max)
 have hNoAt:AllP (NoAt w) [(some g_l),(blk a0)]:=(apC (NoAt.bl hl rfl) (apC (NoAt.own hl_l rfl) apN))
 refine zd (zb (qa (us:=[v_i,v_i2]) rfl rfl rfl (fun g1 w1 hB1 hg1 hl1=>?_)))
 have gr1:=(GrL.of0 (ps:=[(some g_l),(blk a0)]) hg1)
 have k1:=hl_l.grown hg1
 have k2:=b8.grown hg1
 have k3:=hl.g0 hg1
 have hv1:RelD deV w1 [(vnil,noF)] [PV.nil]:=deV_nil
 refine yp (h:=(yp (h:=(ze (za (zd (zb (yp (h:=(zx rfl rfl (W_list_items k1.rd rfl k2 k3 H) ?_))))))))))
 rintro _ w2 ⟨hg2,all,e7,f9,a7,rfl,hall,b7,ho1,dj1,H⟩
 have hb1:=hall.ge'
 refine yp (h:=(ze (za (zd (zb (zf rfl (z3 (vs:=[v_i,v_i2]) qB (hB1.g0 hg2) rfl rfl rfl rfl) (yp (h:=(yp (h:=(zx rfl rfl (W_list_place ((hi.grown hg1).grown hg2) H) ?_)))))))))))
 rintro _ w3 ⟨hg3,t160,t161,rfl,H⟩
 have gr3:=GrL.add0 (GrL.add0 gr1 hg2) hg3
 have k11:=(k1.grown hg2).grown hg3
 have k12:=(k2.grown hg2).grown hg3
 have k13:=(k3.g0 hg2).g0 hg3
 have k14:=(hall.base (fun g hg=>Nat.le_trans (GrL.sizeL gr1) (hb1 g hg))).grown hg3
 have k15:=b7.grown hg3
 refine yp (h:=(yp (h:=(yp (h:=(yp (h:=(yp (h:=(ze (za (zd (zd (zb (yp (h:=(yp (h:=(yp (h:=?_))))))))))))))))))))
 obtain ⟨J1,H,hJ1⟩:=H
 refine zX 4 (fun L' w'=>∃ q1:Bool,L'=[(25,.bool q1),(0,.pointer (some ⟨g_l,0,none⟩)),(6,.slice e7 all.length f9),(7,.int .i64 t160)]/\J1 q1/\w3=w') ?_ (fun hQ=>?_)
 ·clear H
  rintro _ _ ⟨q1,rfl,H,rfl⟩
  replace H:=hJ1 q1 H
  refine ze (za (zp rfl (fun b1=>?_) (fun b1=>?_)))
  ·replace H:=H.1 (b1)
   refine zd (qn jg (by kernel_rfl) ?_)
   obtain ⟨vE1,_,hE1⟩:=GOK.get (hG.goL gr3 hP).ok 3 0 hS3 rfl rfl
   refine z5 rfl (Yld.cell qB (ErrR.cell hE1 rfl) rfl rfl) ?_
   have hv2:RelD deV w3 [(vnil,noF)] [PV.nil]:=deV_nil
   exact z5 rfl (zg qB rfl) (z5 rfl (zg qB rfl) (qz (za (zu (zi (zQ rfl rfl rfl ⟨gr3,vnil,noF,PV.nil,vE1,(Er.e 3),l_l,a0,c1,a5,l_frozen,l_over,rfl,hv2,(fun p_ hp_ v0_=>deV_nilD),hE1,k13,k11,(InP.mem (List.Mem.tail _ (List.Mem.head _))),k12,(fun p_ hp_ v0_=>have q_:=v0_; q_),hdj0_1,(hap0 _ (List.Mem.head _)),(hap0 _ (List.Mem.tail _ (List.Mem.head _))),deV_nilD,deV_nilD,H⟩))))))
  ·replace H:=H.2 (b1)
   refine zr (za (zd (zb (yp (h:=(yp (h:=?_)))))))
   obtain ⟨h1,H⟩:=H
   refine zf rfl (zN qB k14.rd rfl rfl b7.1.symm rfl h1.1 h1.2) ?_
   obtain ⟨⟨v_el,F_el⟩,eh1,hR1⟩:=RelD.at k15 vh0 PV.nil (j:=t160.toNat) (Nat.lt_of_lt_of_eq (iltN h1 b7.1.symm) k15.1)
   have hv3:RelD deV w3 [(v_el,F_el)] [all.getD t160.toNat PV.nil]:=RelD.cons hR1 RelD.nil
   refine zf rfl (z8 (v:=v_el.1) (zP vh0 qB k14.rd rfl rfl (iltN h1 b7.1.symm)) (congrArg vv eh1)) (yp (h:=(ze (za (zd (zb (yp (h:=(yp (h:=(yp (h:=(yp (h:=(yp (h:=?_))))))))))))))))
   obtain ⟨h2,H⟩:=H
   refine zf rfl (Yld.add rfl rfl h2) ?_
   obtain ⟨h3,H⟩:=H
   have h4:(a7:List VH).length=all.length:=k15.1
   refine zx rfl rfl (del_v k14 b7.1.symm h3.1 (by rw [h4]; exact h3.2.1) h3.2.2) ?_
   rintro _ w4 ⟨h0,i9,rfl,hO1,hg4,hk1⟩
   have el1:(a7.take t160.toNat++a7.drop (t160.toNat+1)).length=(all.take t160.toNat++all.drop (t160.toNat+1)).length:=(RelD.append (RelD.take k15 t160.toNat) (RelD.drop k15 (t160.toNat+1))).1
   rw [el1]
   have gr4:GrL [(some g_l),(blk a0)] w w4:=GrL.mod gr3 hg4 (InP.ge k14.ge')
   have k17:=k12.go hg4 (k2.new hb1)
   have k19:=k15.go hg4 dj1
   have k20:=hv3.go hg4 (DnD.cons (DnD.at dj1 k15.1 (Nat.lt_of_lt_of_eq (iltN h1 b7.1.symm) k15.1) eh1) DnD.nil)
   have hr1:RelD deV w4 (a7.take t160.toNat++a7.drop (t160.toNat+1)) (all.take t160.toNat++all.drop (t160.toNat+1)):=RelD.append (RelD.take k19 t160.toNat) (RelD.drop k19 (t160.toNat+1))
   have dj2:DnD deV (a7.take t160.toNat++a7.drop (t160.toNat+1)) (all.take t160.toNat++all.drop (t160.toNat+1)) (blk a0):=(DnD.append (RelD.take k15 t160.toNat).1 (DnD.take (ho1 _ k1.lt' (hap0 _ (List.Mem.tail _ (List.Mem.head _)))) t160.toNat) (DnD.drop (ho1 _ k1.lt' (hap0 _ (List.Mem.tail _ (List.Mem.head _)))) (t160.toNat+1)))
   have dj3:DnD deV (a7.take t160.toNat++a7.drop (t160.toNat+1)) (all.take t160.toNat++all.drop (t160.toNat+1)) (some g_l):=(DnD.append (RelD.take k15 t160.toNat).1 (DnD.take (ho1 _ k3.lt' (hap0 _ (List.Mem.head _))) t160.toNat) (DnD.drop (ho1 _ k3.lt' (hap0 _ (List.Mem.head _))) (t160.toNat+1)))
   have dj4:DnD deV (a7.take t160.toNat++a7.drop (t160.toNat+1)) (all.take t160.toNat++all.drop (t160.toNat+1)) (blk h0):=(DnD.append (RelD.take k15 t160.toNat).1 (DnD.take (RelD.app k15 dj1 hk1) t160.toNat) (DnD.drop (RelD.app k15 dj1 hk1) (t160.toNat+1)))
   refine zx rfl rfl (W_list_change (hG.goL gr4 hP) (Nat.le_trans hB (GrL.sizeL gr4)) (apC (InP.toGe (InP.mem (List.Mem.head _)) hP hB) (apC (InP.toGe (InP.mem (List.Mem.tail _ (List.Mem.head _))) hP hB) (apC (InP.toGe (InP.ge hO1.ge') hP hB) apN))) hS3 hS7 (k11.go hg4 (Dj.new k1.lt' hb1)) rfl k17 (k13.go hg4 (Dj.new k3.lt' hb1)) (hO1.base (fun _ _=>Nat.zero_le _)) rfl hr1 hdj0_1 (Dj.app (Dj.new k3.lt' hb1).symm k13.lt' hk1).symm (Dj.app (Dj.new k1.lt' hb1).symm k11.lt' hk1).symm (apC (hap0 _ (List.Mem.head _)) (apC (hap0 _ (List.Mem.tail _ (List.Mem.head _))) (apC (RelD.app k12 (k2.new hb1) hk1) apN))) (apC dj3 (apC dj2 (apC dj4 apN))) H) ?_
   rintro v_t5 w5 ⟨hgl1,_,t5,l_,e0,e9,e1,l_2,l_3,rfl,ht5,hB2,hO2,hi1,hr2,ho2,dj5,dj6,dj7,H⟩
   have hi2:InP [(some g_l),(blk a0)] w.heap.size (blk e0):=InP.trans hi1 (apC (InP.mem (List.Mem.head _)) (apC (InP.mem (List.Mem.tail _ (List.Mem.head _))) (apC (InP.ge hO1.ge') apN))) (GrL.sizeL gr4)
   have gr5:GrL [(some g_l),(blk a0)] w w5:=GrL.modL gr4 hgl1 (apC (InP.mem (List.Mem.head _)) (apC (InP.mem (List.Mem.tail _ (List.Mem.head _))) (apC (InP.ge hO1.ge') apN)))
   have k21:=k17.goL hgl1 (apC (hap0 _ (List.Mem.head _)) (apC (hap0 _ (List.Mem.tail _ (List.Mem.head _))) (apC (RelD.app k12 (k2.new hb1) hk1) apN)))
   refine yp (h:=(yp (h:=(ze (za (zu ?_))))))
   exact zQ rfl rfl rfl ⟨gr5,v_el,F_el,(all.getD t160.toNat PV.nil),v_t5,t5,l_,e0,e9,e1,l_2,l_3,rfl,(k20.goL hgl1 (apC (DnD.cons (DnD.at (ho1 _ k3.lt' (hap0 _ (List.Mem.head _))) k15.1 (Nat.lt_of_lt_of_eq (iltN h1 b7.1.symm) k15.1) eh1) DnD.nil) (apC (DnD.cons (DnD.at (ho1 _ k1.lt' (hap0 _ (List.Mem.tail _ (List.Mem.head _)))) k15.1 (Nat.lt_of_lt_of_eq (iltN h1 b7.1.symm) k15.1) eh1) DnD.nil) (apC (RelD.app hv3 (DnD.cons (DnD.at dj1 k15.1 (Nat.lt_of_lt_of_eq (iltN h1 b7.1.symm) k15.1) eh1) DnD.nil) hk1) apN)))),(fun p_ hp_ v0_=>have q_:=v0_; DnD.cons (DnD.at (ho1 p_ (fun g_ e_=>Nat.lt_of_lt_of_le (hp_ g_ e_) (GrL.sizeL gr1)) (q_)) k15.1 (Nat.lt_of_lt_of_eq (iltN h1 b7.1.symm) k15.1) eh1) DnD.nil),ht5,hB2,hO2,hi2,hr2,(fun p_ hp_ v0_=>have q_:=v0_; ho2 p_ (fun g_ e_=>Nat.lt_of_lt_of_le (hp_ g_ e_) (GrL.sizeL gr4)) (q_) ((DnD.append (RelD.take k15 t160.toNat).1 (DnD.take (ho1 p_ (fun g_ e_=>Nat.lt_of_lt_of_le (hp_ g_ e_) (GrL.sizeL gr1)) (q_)) t160.toNat) (DnD.drop (ho1 p_ (fun g_ e_=>Nat.lt_of_lt_of_le (hp_ g_ e_) (GrL.sizeL gr1)) (q_)) (t160.toNat+1))))),dj5,dj6,dj7,(DnD.cons (DnD.at (ho1 _ k3.lt' (hap0 _ (List.Mem.head _))) k15.1 (Nat.lt_of_lt_of_eq (iltN h1 b7.1.symm) k15.1) eh1) DnD.nil),(RelD.inp k20 (apC (DnD.cons (DnD.at (ho1 _ k3.lt' (hap0 _ (List.Mem.head _))) k15.1 (Nat.lt_of_lt_of_eq (iltN h1 b7.1.symm) k15.1) eh1) DnD.nil) (apC (DnD.cons (DnD.at (ho1 _ k1.lt' (hap0 _ (List.Mem.tail _ (List.Mem.head _)))) k15.1 (Nat.lt_of_lt_of_eq (iltN h1 b7.1.symm) k15.1) eh1) DnD.nil) (apC (RelD.app hv3 (DnD.cons (DnD.at dj1 k15.1 (Nat.lt_of_lt_of_eq (iltN h1 b7.1.symm) k15.1) eh1) DnD.nil) hk1) apN))) hi1),H⟩
 ·clear hJ1
  rcases Bool.eq_false_or_eq_true (!t161) with b2 | b2
  ·replace H:=H.1 b2
   exact gn b2 (h:=(gn b2 (h:=(gn b2 (h:=(zf rfl (zR (okb b2) rfl) (wk (hQ _ _ ⟨true,rfl,H,rfl⟩))))))))
  ·replace H:=H.2 b2
   refine gp b2 (h:=(qp (qG rfl rfl (okb b2)) rfl rfl (W_pval_List_Loose k11.rd rfl k12 k13 H) ?_))
   rintro _ _ ⟨rfl,t23,rfl,H⟩
   exact gp b2 (h:=(zf rfl (zO (okb b2) rfl) (wk (hQ _ _ ⟨!t23,rfl,H,rfl⟩))))
set_option maxHeartbeats 8000000 in
theorem W_val_NewLooker {w:World} {K0:Prop} {K:Int->Prop} (H:M_val_NewLooker K0 K):Fn Tryz.prog 161 ⟨[]⟩ w (fun v w'=>w.grownBy w' none/\((v=.pointer none/\K0 )∨(∃ (g_r:Nat),∃ (r_looker_left:Int),v=.pointer (some ⟨g_r,0,none⟩)/\Bl w' g_r 291 [.int .i64 r_looker_left]/\Ge (some g_r) w.heap.size/\K r_looker_left))):=by
 unfold M_val_NewLooker at H
 refine Fn.enter (by kernel_rfl) Tryz.func161 rfl Tryz.ntmps161 rfl ?_
 exact zd (zb (yp (h:=(ze (za (zd (zb (zf rfl (zU (us:=[.int .i64 (4096:Int)]) zero287 places287 rfl rfl) (zf rfl (zU (us:=[.int .i64 (4096:Int)]) zero291 places291 rfl rfl) (qa (us:=[.int .i64 (4096:Int)]) rfl rfl rfl (fun g1 w1 hB1 hg1 hl1=>yp (h:=(ze (za (zu (zM rfl rfl ⟨hg1,Or.inr ⟨g1,(4096:Int),rfl,hB1,(Ge.le (Ge.box hl1) (Nat.le_refl _)),H⟩⟩))))))))))))))))
set_option maxHeartbeats 8000000 in
theorem W_pval_Looker_Equal {S:List Nat} {B:Nat} {w:World} {g_k:Nat} {k_looker_left:Int} {v_a:OV} {F_a:Nat->Prop} {a:PV} {v_b:OV} {F_b:Nat->Prop} {b:PV} {K:Bool->Er->Int->Prop} (hG:GB S B w) (hB:B<=w.heap.size) (hP:AllP (fun p=>Ge p B) [(some g_k)]) (hS7:7∈S) (hk:Bl w g_k 291 [.int .i64 k_looker_left]) (ha:RelD deV w [(v_a,F_a)] [a]) (hb:RelD deV w [(v_b,F_b)] [b]) (hap0:AllP (DnD deV [(v_a,F_a)] [a]) [(some g_k)]) (hap1:AllP (DnD deV [(v_b,F_b)] [b]) [(some g_k)]) (H:jz k_looker_left a b K):Fn Tryz.prog 162 ⟨[.pointer (some ⟨g_k,0,none⟩),v_a.1,v_b.1]⟩ w (fun v w'=>GrL [(some g_k)] w w'/\∃ (r0:Bool),∃ (v_r1:Value),∃ (r1:Er),∃ (k_looker_left2:Int),v=.tuple #[.bool r0,v_r1]/\ErrR S w' v_r1 r1/\Bl w' g_k 291 [.int .i64 k_looker_left2]/\K r0 r1 k_looker_left2):=by
 unfold jz at H
 refine Fn.enter (by kernel_rfl) Tryz.func162 rfl Tryz.ntmps162 rfl ?_
 have hNoAt:AllP (NoAt w) [(some g_k)]:=(apC (NoAt.bl hk rfl) apN)
 refine zd (zb (yp (h:=(yp (h:=(ze (za (zd (zb (yp (h:=(yp (h:=(yp (h:=(yp (h:=(yp (h:=(zx rfl rfl (W_val_looker_equalT hG (Nat.le_trans hB (Nat.le_refl _)) (apC (InP.toGe (InP.mem (List.Mem.head _)) hP hB) apN) hS7 hk rfl ha hb (apC (ha.inp hap0 (InP.mem (List.Mem.head _))) apN) (apC (hb.inp hap1 (InP.mem (List.Mem.head _))) apN) H) ?_))))))))))))))))))))
 rintro _ w1 ⟨hgl1,t130,v_t131,t131,k_,rfl,ht131,hB1,H⟩
 have gr1:GrL [(some g_k)] w w1:=GrL.modL (GrL.refl _) hgl1 (apC (InP.mem (List.Mem.head _)) apN)
 exact yp (h:=(yp (h:=(yp (h:=(yp (h:=(ze (za (zu (zQ rfl rfl rfl ⟨gr1,t130,v_t131,t131,k_,rfl,ht131,hB1,H⟩)))))))))))
set_option maxHeartbeats 8000000 in
theorem W_list_find_List0 {S:List Nat} {w:World} {g_v:Nat} {v_l:List PV} {a6:Option Addr} {b0:Nat} {a2:List VH} {v_frozen:Bool} {v_over:Int} {v_x:OV} {F_x:Nat->Prop} {x:PV} {b5:Nat} {K:Int->Er->Prop} (hG:GOK S w) (hS7:7∈S) (hv_l:Rd vv w a6 b0 a2) (b6:b5=v_l.length) (a1:RelD deV w a2 v_l) (hv:Bl w g_v 166 [.slice a6 b5 b0,.bool v_frozen,.int .i64 v_over]) (hx:RelD deV w [(v_x,F_x)] [x]) (H:M_list_find_List0 v_l v_frozen v_over x K):Fn Tryz.prog 102 ⟨[.iface 61 (.pointer (some ⟨g_v,0,none⟩)),v_x.1]⟩ w (fun v w'=>w.grownBy w' none/\∃ (r0:Int),∃ (v_r1:Value),∃ (r1:Er),v=.tuple #[.int .i64 r0,v_r1]/\ErrR S w' v_r1 r1/\K r0 r1):=by
 subst b6
 unfold M_list_find_List0 at H
 refine Fn.enter (by kernel_rfl) Tryz.func102 rfl Tryz.ntmps102 rfl ?_
 replace H:=H (by rw [<-a1.1]; exact Nat.le_trans hv_l.cap hv_l.max)
 refine zd (zb (yp (h:=(yp (h:=(ze (za (zd (zd (zb (yp (h:=(qo rfl rfl (fun w=>by kernel_rfl) rfl (kindL_fn (u:=.pointer (some ⟨g_v,0,none⟩))) ?_)))))))))))))
 rintro _ w1 ⟨hg1,rfl⟩
 refine yp (h:=(yp (h:=(zX 4 (fun L' w'=>L'=[(20,.bool false),(0,.iface 61 (.pointer (some ⟨g_v,0,none⟩))),(1,v_x.1)]/\w.grownBy w' none) ?_ (fun hQ=>?_)))))
 ·rintro _ w2 ⟨rfl,gr2⟩
  refine ze (za (zp rfl (fun h=>by cases h) (fun _=>zr (za (zd (zb (yp (h:=(zx rfl rfl (jQ (hv_l.grown gr2) rfl (a1.grown gr2) (hv.g0 gr2) H) ?_)))))))))
  rintro _ w3 ⟨hg2,t240,d8,d9,d1,t241,rfl,ht240,c0,ho1,dj1,H⟩
  have hb1:=ht240.ge'
  have k1:=ht240.base (fun g hg=>Nat.le_trans (qD gr2) (hb1 g hg))
  have gr3:=qC gr2 hg2
  refine yp (h:=(yp (h:=(yp (h:=(yp (h:=(yp (h:=(ze (za (zd (zb (zx rfl rfl (W_val_NewLooker H) ?_))))))))))))))
  rintro v_ w4 ⟨hg_,hc_ | hc_⟩
  ·obtain ⟨rfl,H⟩:=hc_
   have hg3:=hg_
   refine yp (h:=(ze (za (zd (zd (zb (yp (h:=(yp (h:=(yp (h:=(ze (za (WC.block ?_)))))))))))))))
   obtain ⟨I1,mu1,h9,HR1⟩:=H
   refine zZ (fun n' L' w'=>∃ (t30:Int),n'=mu1 t30/\L'=[(1,v_x.1),(8,.pointer none),(28,.slice d8 t240.length d9),(29,.int .i64 (t240.length:Int)),(30,.int .i64 t30)]/\I1 t30/\w.grownBy w' none/\Own vv w' w.heap.size 32 d8 d9 d1/\RelD deV w' d1 t240) _ _ ⟨(0:Int),rfl,rfl,h9,(qC gr3 hg3),(k1.grown hg3),(c0.grown hg3)⟩ sb ?_
   clear h9
   rintro _ _ w6 ⟨t30,rfl,rfl,hI1,gr5,k4,k5⟩
   have H:=HR1 t30 hI1
   refine zd (zb (yp (h:=(ze (za (zd (zp rfl (fun b1=>?_) (fun b1=>?_))))))))
   ·replace H:=H.1 (of_decide_eq_true b1)
    refine zr (za (zd (WC.block (zd (zb (yp (h:=?_)))))))
    obtain ⟨h1,H⟩:=H
    refine zf rfl (zN qB k4.rd rfl rfl c0.1.symm rfl h1.1 h1.2) ?_
    obtain ⟨⟨v_el,F_el⟩,eh1,hR1⟩:=RelD.at k5 vh0 PV.nil (j:=t30.toNat) (Nat.lt_of_lt_of_eq (iltN h1 c0.1.symm) k5.1)
    have hv1:RelD deV w6 [(v_el,F_el)] [t240.getD t30.toNat PV.nil]:=RelD.cons hR1 RelD.nil
    exact zf rfl (z8 (v:=v_el.1) (zP vh0 qB k4.rd rfl rfl (iltN h1 c0.1.symm)) (congrArg vv eh1)) (yp (h:=(yp (h:=(ze (za (zd (zb (yp (h:=(yp (h:=(yp (h:=(False.elim H)))))))))))))))
   ·replace H:=H.2 (of_decide_eq_false b1)
    exact zy (zj (zj (zk (za (zd (zb (yp (h:=(yp (h:=(ze (za (zu (zQ rfl rfl rfl ⟨gr5,(-1:Int),.nilIface,Er.ok,rfl,(ErrR.okR (S:=S) (w:=w6)),H⟩))))))))))))))
  ·obtain ⟨g_k,k_looker_left,rfl,hk,hge1,H⟩:=hc_
   have hg4:=hg_
   refine yp (h:=(ze (za (zd (zd (zb (yp (h:=(yp (h:=(yp (h:=(ze (za (WC.block ?_)))))))))))))))
   obtain ⟨I2,mu2,i0,HR2⟩:=H
   refine zZ (fun n' L' w'=>∃ (t302:Int),∃ (k0:Int),n'=mu2 t302 k0/\L'=[(1,v_x.1),(8,.pointer (some ⟨g_k,0,none⟩)),(28,.slice d8 t240.length d9),(29,.int .i64 (t240.length:Int)),(30,.int .i64 t302)]/\I2 t302 k0/\w.grownBy w' none/\Own vv w' w.heap.size 32 d8 d9 d1/\RelD deV w' d1 t240/\Bl w' g_k 291 [.int .i64 k0]) _ _ ⟨(0:Int),k_looker_left,rfl,rfl,i0,(qC gr3 hg4),(k1.grown hg4),(c0.grown hg4),hk⟩ sb ?_
   clear i0
   rintro _ _ w8 ⟨t302,k0,rfl,rfl,hI2,gr7,k8,k9,k10⟩
   have H:=HR2 t302 k0 hI2
   refine zd (zb (yp (h:=(ze (za (zd (zp rfl (fun b2=>?_) (fun b2=>?_))))))))
   ·replace H:=H.1 (of_decide_eq_true b2)
    refine zr (za (zd (WC.block (zd (zb (yp (h:=?_)))))))
    obtain ⟨h2,H⟩:=H
    refine zf rfl (zN qB k8.rd rfl rfl c0.1.symm rfl h2.1 h2.2) ?_
    obtain ⟨⟨v_el2,F_el2⟩,eh2,hR2⟩:=RelD.at k9 vh0 PV.nil (j:=t302.toNat) (Nat.lt_of_lt_of_eq (iltN h2 c0.1.symm) k9.1)
    have hv2:RelD deV w8 [(v_el2,F_el2)] [t240.getD t302.toNat PV.nil]:=RelD.cons hR2 RelD.nil
    refine zf rfl (z8 (v:=v_el2.1) (zP vh0 qB k8.rd rfl rfl (iltN h2 c0.1.symm)) (congrArg vv eh2)) (yp (h:=(yp (h:=(ze (za (zd (zb (yp (h:=(yp (h:=(yp (h:=(zx rfl rfl (W_pval_Looker_Equal (GB.grown hG gr7) (qD gr7) (apC (Ge.le hge1 (qD gr3)) apN) hS7 k10 hv2 (hx.grown gr7) (apC (DnD.cons (DnD.at (c0.new hge1) k9.1 (Nat.lt_of_lt_of_eq (iltN h2 c0.1.symm) k9.1) eh2) DnD.nil) apN) (apC (hx.new (Ge.le hge1 (qD gr3))) apN) H) ?_)))))))))))))))
    rintro _ w9 ⟨hgl1,t390,v_t391,t391,k_,rfl,ht391,hB1,H⟩
    have gr8:=gr_modL gr7 hgl1 (apC (Ge.le hge1 (qD gr3)) apN)
    refine yp (h:=(yp (h:=(yp (h:=(yp (h:=(yp (h:=(ze (za (zd (zd (zb (yp (h:=(zf rfl (zW Tryz.underlying43 ht391 rfl) (ze (za (zp rfl (fun b3=>?_) (fun b3=>?_)))))))))))))))))))))
    ·replace H:=H.1 (jw b3)
     exact zd (zb (yp (h:=(yp (h:=(yp (h:=(ze (za (zu (zi (zl (zi (zi (zl (zi (zQ rfl rfl rfl ⟨gr8,(0:Int),v_t391,t391,rfl,ht391,H⟩)))))))))))))))))
    ·replace H:=H.2 (jn b3)
     refine zr (za (zd (zb (yp (h:=(ze (za (zp rfl (fun b4=>?_) (fun b4=>?_)))))))))
     ·replace H:=H.1 (b4)
      exact zd (zb (yp (h:=(yp (h:=(yp (h:=(ze (za (zu (zl (zi (zi (zl (zi (zQ rfl rfl rfl ⟨gr8,t302,.nilIface,Er.ok,rfl,(ErrR.okR (S:=S) (w:=w9)),H⟩))))))))))))))))
     ·replace H:=H.2 (b4)
      refine zr (zh (za (zb ?_)))
      obtain ⟨h3,H⟩:=H
      exact zf rfl (Yld.add rfl rfl h3) (yp (h:=(ze (zT _ ⟨t302+(1:Int),k_,rfl,rfl,H.1,gr8,(k8.goL hgl1 (apC (Dj.new k1.lt' hge1) apN)),(k9.goL hgl1 (apC (c0.new hge1) apN)),hB1⟩ sb H.2))))
   ·replace H:=H.2 (of_decide_eq_false b2)
    exact zy (zj (zj (zk (za (zd (zb (yp (h:=(yp (h:=(ze (za (zu (zQ rfl rfl rfl ⟨gr7,(-1:Int),.nilIface,Er.ok,rfl,(ErrR.okR (S:=S) (w:=w8)),H⟩))))))))))))))
 ·clear H
  exact zI rfl rfl (rfl) rfl (zI rfl rfl (rfl) rfl (zI rfl rfl (rfl) rfl (zf rfl (zO (rfl) rfl) (wk (hQ _ _ ⟨rfl,hg1⟩)))))
set_option maxHeartbeats 8000000 in
theorem W_list_Index_List0 {S:List Nat} {w:World} {g_v:Nat} {v_l:List PV} {a6:Option Addr} {b0:Nat} {a2:List VH} {v_frozen:Bool} {v_over:Int} {v_x:OV} {F_x:Nat->Prop} {x:PV} {b5:Nat} {K:Int->Er->Prop} (hG:GOK S w) (hS3:3∈S) (hS7:7∈S) (hv_l:Rd vv w a6 b0 a2) (b6:b5=v_l.length) (a1:RelD deV w a2 v_l) (hv:Bl w g_v 166 [.slice a6 b5 b0,.bool v_frozen,.int .i64 v_over]) (hx:RelD deV w [(v_x,F_x)] [x]) (H:j3 v_l v_frozen v_over x K):Fn Tryz.prog 42 ⟨[.iface 61 (.pointer (some ⟨g_v,0,none⟩)),v_x.1]⟩ w (fun v w'=>w.grownBy w' none/\∃ (r0:Int),∃ (v_r1:Value),∃ (r1:Er),v=.tuple #[.int .i64 r0,v_r1]/\ErrR S w' v_r1 r1/\K r0 r1):=by
 subst b6
 unfold j3 at H
 refine Fn.enter (by kernel_rfl) Tryz.func42 rfl Tryz.ntmps42 rfl ?_
 replace H:=H (by rw [<-a1.1]; exact Nat.le_trans hv_l.cap hv_l.max)
 refine zd (zb (yp (h:=(yp (h:=(ze (za (zd (zb (yp (h:=(yp (h:=(zx rfl rfl (W_list_find_List0 hG hS7 hv_l rfl a1 hv hx H) ?_))))))))))))))
 rintro _ w1 ⟨hg1,t110,v_t111,t111,rfl,ht111,H⟩
 have gr1:=hg1
 refine yp (h:=(yp (h:=(yp (h:=(yp (h:=(yp (h:=(ze (za (zd ?_))))))))))))
 obtain ⟨J1,H,hJ1⟩:=H
 refine qf (fun L' w'=>∃ (v_err:Value),∃ (err:Er),L'=[(6,.int .i64 t110),(7,v_err)]/\J1 err/\w1=w'/\ErrR S w' v_err err) ?_ (fun hQ=>?_)
 ·clear H
  rintro _ _ ⟨v_err,err,rfl,H,rfl,k1⟩
  replace H:=hJ1 err H
  refine za (zd (zd (zb (yp (h:=(zf rfl (zW Tryz.underlying43 k1 rfl) (ze (za (zp rfl (fun b1=>?_) (fun b1=>?_))))))))))
  ·replace H:=H.1 (jw b1)
   exact zd (zb (yp (h:=(yp (h:=(yp (h:=(ze (za (zu (zi (zQ rfl rfl rfl ⟨gr1,(0:Int),v_err,err,rfl,k1,H⟩))))))))))))
  ·replace H:=H.2 (jn b1)
   exact zr (za (zd (zb (yp (h:=(yp (h:=(yp (h:=(ze (za (zu (zQ rfl rfl rfl ⟨gr1,t110,.nilIface,Er.ok,rfl,(ErrR.okR (S:=S) (w:=w1)),H⟩)))))))))))))
 ·clear hJ1
  refine zd (zb (yp (h:=(zf rfl (qi Tryz.underlying43 ht111 rfl) (yp (h:=(zX 3 (fun L' w'=>∃ q1:Bool,L'=[(19,.bool q1),(6,.int .i64 t110),(7,v_t111)]/\((decide (t111=Er.ok)) && (decide (t110<(0:Int))))=q1/\w1=w') ?_ (fun hQ=>?_))))))))
  ·rintro _ _ ⟨q1,rfl,rfl,rfl⟩
   refine ze (za (zp rfl (fun b2=>?_) (fun b2=>?_)))
   ·replace H:=H.1 (b2)
    refine zb ?_
    obtain ⟨vE1,_,hE1⟩:=GOK.get (hG.grown gr1) 3 0 hS3 rfl rfl
    exact zf rfl (Yld.cell qB (ErrR.cell hE1 rfl) rfl rfl) (yp (h:=(ze (WX.weaken sb (hQ _ _ ⟨vE1,Er.e 3,rfl,H,rfl,hE1⟩)))))
   ·replace H:=H.2 (b2)
    exact zr (WX.weaken sb (hQ _ _ ⟨v_t111,t111,rfl,H,rfl,ht111⟩))
  ·clear H
   rcases Bool.eq_false_or_eq_true (decide (t111=Er.ok)) with b3 | b3
   ·exact gp b3 (h:=(gp b3 (h:=(zf rfl (zR (okb b3) rfl) (wk (hQ _ _ ⟨decide (t110<(0:Int)),rfl,by rw [b3] <;> rfl,rfl⟩))))))
   ·exact gn b3 (h:=(gn b3 (h:=(zf rfl (zO (okb b3) rfl) (wk (hQ _ _ ⟨false,rfl,by rw [b3] <;> rfl,rfl⟩))))))
end
 
section
open Go Go.RowKit
attribute [local irreducible] WL WC WX WQ WK WJ Yld Eff Ef0 Fn
def jv (l:List Int) (at_:Int) (K:Bool->Prop):Prop :=
 (l.length<=maxLen ->
 jW (fun (ok:Bool) =>
 (((!ok)=true->K false) /\
 ((!ok)=false->((((decide ((20:Int)<(l.length:Int))) || (!ok))=true->K ok) /\
 (((decide ((20:Int)<(l.length:Int))) || (!ok))=false->jX l (fun (t370:List PV) (t371:List RV) =>
 kc t370 (
 K false) (fun (a_l:List PV) (a_frozen:Bool) (a_over:Int) =>
 (In .i64 ((l.length:Int)+(1:Int))) /\
 jl at_ ((l.length:Int)+(1:Int)) (fun (k:Int) =>
 M_num_Of k (fun (t50:Int) (m_t50:Nat) =>
 jH a_l a_frozen a_over (fun (was:List UInt8) =>
 jh a_l a_frozen a_over 0 0 t50 m_t50 false true (fun (t591:Er) =>
 jh a_l a_frozen a_over t50 m_t50 0 0 true false (fun (t671:Er) =>
 ((((!decide (t591=Er.ok)) || (!decide (t671=Er.ok)))=true->K false) /\
 (((!decide (t591=Er.ok)) || (!decide (t671=Er.ok)))=false->False))) (fun (d1:List PV) (a6:Bool) (b0:Int) (t6712:Er) =>
 ((((!decide (t591=Er.ok)) || (!decide (t6712=Er.ok)))=true->K false) /\
 (((!decide (t591=Er.ok)) || (!decide (t6712=Er.ok)))=false->False)))) (fun (c3:List PV) (a1:Bool) (a4:Int) (t5912:Er) =>
 jh a_l a_frozen a_over t50 m_t50 0 0 true false (fun (t6713:Er) =>
 ((((!decide (t5912=Er.ok)) || (!decide (t6713=Er.ok)))=true->K false) /\
 (((!decide (t5912=Er.ok)) || (!decide (t6713=Er.ok)))=false->False))) (fun (a9:List PV) (a0:Bool) (a2:Int) (t6714:Er) =>
 ((((!decide (t5912=Er.ok)) || (!decide (t6714=Er.ok)))=true->K false) /\
 (((!decide (t5912=Er.ok)) || (!decide (t6714=Er.ok)))=false->je a9 a0 a2 (fun (t830:List PV) (t831:Bool) =>
 ∃ J1:Bool->Prop,((((!t831)=true->J1 true) /\
 ((!t831)=false->kr c3 a1 a4 t830 (fun (t95:Er) (t590_:List PV) (c1:Bool) (c2:Int) =>
 (((!decide (t95=Er.ok))=true->J1 true) /\
 ((!decide (t95=Er.ok))=false->jH t590_ c1 c2 (fun (t101:List UInt8) =>
 J1 (!decide (t101=was))))))))) /\
 (∀ q6:Bool,J1 q6->((q6=true->K false) /\
 (q6=false->M_val_Str ([110,101,119]:List UInt8) (fun (t107:PV) =>
 M_list_Insert a_l a_frozen a_over t50 m_t50 t107 (fun (t108:Er) (a_:List PV) (a_2:Bool) (a_3:Int) =>
 ((¬ (t108=Er.ok)->K false) /\
 (t108=Er.ok->M_val_Str ([110,101,119]:List UInt8) (fun (t113:PV) =>
 j3 a_ a_2 a_3 t113 (fun (t1140:Int) (t1141:Er) =>
 M_list_Pop a_ a_2 a_3 t50 m_t50 (fun (t1200:PV) (t1201:Er) (a_4:List PV) (a_5:Bool) (a_6:Int) =>
 ∃ J2:Bool->Prop,((((decide (t1141=Er.ok))=true->(((decide (t1140=k))=true->(((decide (t1201=Er.ok))=true->M_val_Text t1200 (fun (t136:List UInt8) =>
 (((decide (t136=([110,101,119]:List UInt8)))=true->jH a_4 a_5 a_6 (fun (t142:List UInt8) =>
 J2 (decide (t142=was)))) /\
 ((decide (t136=([110,101,119]:List UInt8)))=false->J2 false)))) /\
 ((decide (t1201=Er.ok))=false->J2 false))) /\
 ((decide (t1140=k))=false->J2 false))) /\
 ((decide (t1141=Er.ok))=false->J2 false))) /\
 (∀ q7:Bool,J2 q7->K q7)))))))))))))))))))))))))))
set_option maxHeartbeats 8000000 in
theorem W_smithylaw12_ListParts {S:List Nat} {w:World} {l:List Int} {A_l:Option Addr} {c_l:Nat} {at_:Int} {n_l:Nat} {K:Bool->Prop} (hG:GOK S w) (hS0:0∈S) (hS1:1∈S) (hS2:2∈S) (hS3:3∈S) (hS4:4∈S) (hS5:5∈S) (hS6:6∈S) (hS7:7∈S) (hS8:8∈S) (hS9:9∈S) (hS10:10∈S) (hS11:11∈S) (hS12:12∈S) (hS13:13∈S) (hS14:14∈S) (hS15:15∈S) (hS16:16∈S) (hl:Rd vi w A_l c_l l) (f4:n_l=l.length) (H:jv l at_ K):Fn Tryz.prog 5 ⟨[.slice A_l n_l c_l,.int .i64 at_]⟩ w (fun v w'=>w.grownBy w' none/\∃ (r:Bool),v=.bool r/\K r):=by
 subst f4
 unfold jv at H
 refine Fn.enter (by kernel_rfl) Tryz.func5 rfl Tryz.ntmps5 rfl ?_
 replace H:=H (Nat.le_trans hl.cap hl.max)
 refine zd (zb (yp (h:=(ze (za (zd (zb (zx rfl rfl (W_smithylaw12_first hG hS0 hS1 hS2 hS3 hS4 hS5 hS6 hS7 hS8 hS9 hS10 hS11 hS12 hS13 hS14 hS15 hS16 H) ?_))))))))
 rintro _ w1 ⟨hg1,ok,rfl,H⟩
 have gr1:=hg1
 refine yp (h:=(ze (za (zd (zd (zb (yp (h:=(yp (h:=(ze (za (zp rfl (fun b1=>?_) (fun b1=>?_))))))))))))))
 ·replace H:=H.1 (b1)
  exact zd (zb (yp (h:=(ze (za (zu (zi (zM rfl rfl ⟨gr1,false,rfl,H⟩))))))))
 ·replace H:=H.2 (b1)
  refine zr (za (zd (zd (zb (yp (h:=(yp (h:=(yp (h:=(yp (h:=(zX 3 (fun L' w'=>∃ q1:Bool,L'=[(33,.bool q1),(0,.slice A_l l.length c_l),(1,.int .i64 at_),(5,.bool ok)]/\((decide ((20:Int)<(l.length:Int))) || (!ok))=q1/\w1=w') ?_ (fun hQ=>?_))))))))))))))
  ·rintro _ _ ⟨q1,rfl,rfl,rfl⟩
   refine ze (za (zp rfl (fun b2=>?_) (fun b2=>?_)))
   ·replace H:=H.1 (b2)
    exact zd (zb (yp (h:=(yp (h:=(ze (za (zu (zi (zM rfl rfl ⟨gr1,ok,rfl,H⟩))))))))))
   ·replace H:=H.2 (b2)
    refine zr (za (zd (zb (yp (h:=(zx rfl rfl (W_smithylaw12_items (hl.grown gr1) rfl H) ?_))))))
    rintro _ w2 ⟨hg2,t370,e8,f1,e5,t371,e9,f2,e6,rfl,ht370,c5,ho1,dj1,ht371,e4,ho2,dj2,H⟩
    have hb1:=ht370.ge'
    have hb2:=ht371.ge'
    have k2:=ht371.base (fun g hg=>Nat.le_trans (qD gr1) (hb2 g hg))
    have gr2:=qC gr1 hg2
    refine yp (h:=(yp (h:=(yp (h:=(yp (h:=(yp (h:=(ze (za (zd (zb (yp (h:=(zx rfl rfl (W_val_NewList (ht370.base (fun g hg=>Nat.le_trans (qD gr1) (hb1 g hg))).rd rfl c5 H) ?_))))))))))))))))
    rintro v_ w3 ⟨hg_,hc_ | hc_⟩
    ·obtain ⟨rfl,H⟩:=hc_
     have hg3:=hg_
     exact yp (h:=(ze (za (zd (zd (zb (yp (h:=(zf rfl (ql Tryz.underlying61 rfl rfl) (ze (za (zp rfl (fun _=>zd (zb (yp (h:=(ze (za (zu (zi (zM rfl rfl ⟨(qC gr2 hg3),false,rfl,H⟩))))))))) (fun h=>by cases h)))))))))))))
    ·obtain ⟨g_a,a_l,c6,c7,c0,a_frozen,a_over,rfl,ha_l,c9,ho3,dj3,ha,hge1,dj4,dj5,dj6,H⟩:=hc_
     have hg4:=hg_
     have hb3:=ha_l.ge'
     have k3:=ha_l.base (fun g hg=>Nat.le_trans (qD gr2) (hb3 g hg))
     refine yp (h:=(ze (za (zd (zd (zb (yp (h:=(zf rfl (ql Tryz.underlying61 rfl rfl) (ze (za (zp rfl (fun h=>by cases h) (fun _=>zr (za (zd (zb (yp (h:=(yp (h:=(yp (h:=?_))))))))))))))))))))))
     obtain ⟨h1,H⟩:=H
     refine zf rfl (Yld.add rfl rfl h1) (zx rfl rfl (ki H) ?_)
     rintro _ _ ⟨rfl,k,rfl,H⟩
     refine yp (h:=(ze (za (zd (zb (yp (h:=(zx rfl rfl (W_num_OfD H) ?_))))))))
     rintro _ w6 ⟨hg5,v_t50,v_t502,t50,m_t50,rfl,ht50,one_v_t50,one_v_t502,hD1,H⟩
     have gr5:=qC (qC gr2 hg4) hg5
     have k4:=k3.grown hg5
     have k5:=c9.grown hg5
     have k6:=ha.g0 hg5
     refine WL.alloc rfl zero75 (fun g1 w7 hB1 hg6 hl1=>zS (vs:=[v_t50,v_t502]) qB rfl rfl rfl (qF one_v_t50 (qF one_v_t502 qY)) hB1 rfl rfl (fun w8 hB2 hg7=>?_))
     have k11:=(k4.grown hg6).go hg7 (Dj.new k4.lt' (Ge.box hl1))
     have k12:=(k5.grown hg6).go hg7 (k5.new (Ge.box hl1))
     have k13:=(k6.g0 hg6).go hg7 (Dj.new k6.lt' (Ge.box hl1))
     refine ze (za (zd (zb (yp (h:=(zf rfl (qk Tryz.underlying61 rfl rfl) (zx rfl rfl (W_val_Repr_List0 k11.rd rfl k12 k13 H) ?_)))))))
     rintro _ w9 ⟨hg8,was,rfl,H⟩
     have gr8:=qC (jk (qC gr5 hg6) hg7 (Ge.le (Ge.box hl1) (qD gr5))) hg8
     have k15:=k11.grown hg8
     have k16:=k12.grown hg8
     have k17:=k13.g0 hg8
     have k18:=(Nm.goD (ht50.grown hg6) hg7 (Nm.newD ht50 (Ge.box hl1))).grown hg8
     have k19:=hB2.g0 hg8
     refine yp (h:=(ze (za (zd (zb (yp (h:=(zf rfl (qk Tryz.underlying61 rfl rfl) (zf rfl (zU (us:=[.bool false,.slice none 0 0]) zero75 places75 rfl rfl) (zf rfl (z3 (vs:=[v_t50,v_t502]) qB k19 rfl rfl rfl rfl) (zx rfl rfl (ky (hG.grown gr8) hS7 k15.rd rfl k16 k17 (Nm.zero (w:=w9)) k18 H) ?_)))))))))))
     rintro v_ w10 ⟨hg_,hc_ | hc_⟩
     ·obtain ⟨v_t591,t591,rfl,ht591,H⟩:=hc_
      have hg9:=hg_
      have gr9:=qC gr8 hg9
      have k20:=k15.grown hg9
      have k21:=k16.grown hg9
      have k22:=k17.g0 hg9
      have k23:=k18.grown hg9
      have k24:=k19.g0 hg9
      refine yp (h:=(yp (h:=(yp (h:=(yp (h:=(yp (h:=(ze (za (zd (zb (yp (h:=(zf rfl (qk Tryz.underlying61 rfl rfl) (zf rfl (z3 (vs:=[v_t50,v_t502]) qB k24 rfl rfl rfl rfl) (zf rfl (zU (us:=[.bool false,.slice none 0 0]) zero75 places75 rfl rfl) (zx rfl rfl (ky (hG.grown gr9) hS7 k20.rd rfl k21 k22 k23 (Nm.zero (w:=w10)) H) ?_)))))))))))))))))))
      rintro v_ w12 ⟨hg_,hc_ | hc_⟩
      ·obtain ⟨v_t671,t671,rfl,ht671,H⟩:=hc_
       have hg10:=hg_
       have k25:=k20.grown hg10
       have k26:=k21.grown hg10
       have k27:=k22.g0 hg10
       have k28:=k23.grown hg10
       have k29:=k24.g0 hg10
       refine yp (h:=(yp (h:=(yp (h:=(yp (h:=(yp (h:=(ze (za (zd (zd (zb (yp (h:=(zf rfl (zW Tryz.underlying43 (ht591.grown hg10) rfl) (yp (h:=(zX 3 (fun L' w'=>∃ q2:Bool,L'=[(75,.bool q2),(8,.pointer (some ⟨g_a,0,none⟩)),(9,.int .i64 k),(10,.pointer (some ⟨g1,0,none⟩)),(11,vs was),(12,.nilIface),(14,.nilIface)]/\((!decide (t591=Er.ok)) || (!decide (t671=Er.ok)))=q2/\w12=w') ?_ (fun hQ=>?_)))))))))))))))))))))
       ·rintro _ _ ⟨q2,rfl,rfl,rfl⟩
        refine ze (za (zp rfl (fun b3=>?_) (fun b3=>?_)))
        ·replace H:=H.1 (b3)
         exact zd (zb (yp (h:=(ze (za (zu (zi (zM rfl rfl ⟨(qC gr9 hg10),false,rfl,H⟩))))))))
        ·replace H:=H.2 (b3)
         exact zr (za (zd (zb (yp (h:=(False.elim H))))))
       ·clear H
        rcases Bool.eq_false_or_eq_true (!decide (t591=Er.ok)) with b4 | b4
        ·exact gn b4 (h:=(gn b4 (h:=(zf rfl (zR (okb b4) rfl) (wk (hQ _ _ ⟨true,rfl,by rw [b4] <;> rfl,rfl⟩))))))
        ·exact gp b4 (h:=(zc rfl rfl (okb b4) rfl (zW Tryz.underlying43 ht671 rfl) (zf rfl (zO (okb b4) rfl) (wk (hQ _ _ ⟨!decide (t671=Er.ok),rfl,by rw [b4] <;> rfl,rfl⟩)))))
      ·obtain ⟨c8,d1,d8,e0,d6,a6,b0,v_t6712,t6712,rfl,ht670_l,d4,ho4,dj7,ht6712,ht670,hge2,dj8,dj9,dj10,H⟩:=hc_
       have hg11:=hg_
       have hb4:=ht670_l.ge'
       have k31:=ht670_l.base (fun g hg=>Nat.le_trans (qD gr9) (hb4 g hg))
       have k32:=k20.grown hg11
       have k33:=k21.grown hg11
       have k34:=k22.g0 hg11
       have k35:=k23.grown hg11
       have k36:=k24.g0 hg11
       refine yp (h:=(yp (h:=(yp (h:=(yp (h:=(yp (h:=(ze (za (zd (zd (zb (yp (h:=(zf rfl (zW Tryz.underlying43 (ht591.grown hg11) rfl) (yp (h:=(zX 3 (fun L' w'=>∃ q3:Bool,L'=[(75,.bool q3),(8,.pointer (some ⟨g_a,0,none⟩)),(9,.int .i64 k),(10,.pointer (some ⟨g1,0,none⟩)),(11,vs was),(12,.nilIface),(14,.iface 61 (.pointer (some ⟨c8,0,none⟩)))]/\((!decide (t591=Er.ok)) || (!decide (t6712=Er.ok)))=q3/\w12=w') ?_ (fun hQ=>?_)))))))))))))))))))))
       ·rintro _ _ ⟨q3,rfl,rfl,rfl⟩
        refine ze (za (zp rfl (fun b5=>?_) (fun b5=>?_)))
        ·replace H:=H.1 (b5)
         exact zd (zb (yp (h:=(ze (za (zu (zi (zM rfl rfl ⟨(qC gr9 hg11),false,rfl,H⟩))))))))
        ·replace H:=H.2 (b5)
         exact zr (za (zd (zb (yp (h:=(False.elim H))))))
       ·clear H
        rcases Bool.eq_false_or_eq_true (!decide (t591=Er.ok)) with b6 | b6
        ·exact gn b6 (h:=(gn b6 (h:=(zf rfl (zR (okb b6) rfl) (wk (hQ _ _ ⟨true,rfl,by rw [b6] <;> rfl,rfl⟩))))))
        ·exact gp b6 (h:=(zc rfl rfl (okb b6) rfl (zW Tryz.underlying43 ht6712 rfl) (zf rfl (zO (okb b6) rfl) (wk (hQ _ _ ⟨!decide (t6712=Er.ok),rfl,by rw [b6] <;> rfl,rfl⟩)))))
     ·obtain ⟨a5,c3,d7,d9,d5,a1,a4,v_t5912,t5912,rfl,ht590_l,a3,ho5,dj11,ht5912,ht590,hge3,dj12,dj13,dj14,H⟩:=hc_
      have hg12:=hg_
      have hb5:=ht590_l.ge'
      have k38:=ht590_l.base (fun g hg=>Nat.le_trans (qD gr8) (hb5 g hg))
      have gr12:=qC gr8 hg12
      have k39:=k15.grown hg12
      have k40:=k16.grown hg12
      have k41:=k17.g0 hg12
      have k42:=k18.grown hg12
      have k43:=k19.g0 hg12
      refine yp (h:=(yp (h:=(yp (h:=(yp (h:=(yp (h:=(ze (za (zd (zb (yp (h:=(zf rfl (qk Tryz.underlying61 rfl rfl) (zf rfl (z3 (vs:=[v_t50,v_t502]) qB k43 rfl rfl rfl rfl) (zf rfl (zU (us:=[.bool false,.slice none 0 0]) zero75 places75 rfl rfl) (zx rfl rfl (ky (hG.grown gr12) hS7 k39.rd rfl k40 k41 k42 (Nm.zero (w:=w10)) H) ?_)))))))))))))))))))
      rintro v_ w16 ⟨hg_,hc_ | hc_⟩
      ·obtain ⟨v_t6713,t6713,rfl,ht6713,H⟩:=hc_
       have hg13:=hg_
       have k44:=k39.grown hg13
       have k45:=k40.grown hg13
       have k46:=k41.g0 hg13
       have k47:=k42.grown hg13
       have k48:=k43.g0 hg13
       have k49:=k38.grown hg13
       have k50:=a3.grown hg13
       have k52:=ht590.g0 hg13
       refine yp (h:=(yp (h:=(yp (h:=(yp (h:=(yp (h:=(ze (za (zd (zd (zb (yp (h:=(zf rfl (zW Tryz.underlying43 (ht5912.grown hg13) rfl) (yp (h:=(zX 3 (fun L' w'=>∃ q4:Bool,L'=[(75,.bool q4),(8,.pointer (some ⟨g_a,0,none⟩)),(9,.int .i64 k),(10,.pointer (some ⟨g1,0,none⟩)),(11,vs was),(12,.iface 61 (.pointer (some ⟨a5,0,none⟩))),(14,.nilIface)]/\((!decide (t5912=Er.ok)) || (!decide (t6713=Er.ok)))=q4/\w16=w') ?_ (fun hQ=>?_)))))))))))))))))))))
       ·rintro _ _ ⟨q4,rfl,rfl,rfl⟩
        refine ze (za (zp rfl (fun b7=>?_) (fun b7=>?_)))
        ·replace H:=H.1 (b7)
         exact zd (zb (yp (h:=(ze (za (zu (zi (zM rfl rfl ⟨(qC gr12 hg13),false,rfl,H⟩))))))))
        ·replace H:=H.2 (b7)
         exact zr (za (zd (zb (yp (h:=(zf rfl (qP (v:=⟨.iface 61 (.pointer (some ⟨a5,0,none⟩)),rfl⟩) Tryz.underlying61 rfl rfl rfl) (yp (h:=(yp (h:=(yp (h:=(yp (h:=(yp (h:=(ze (za (zd (zb (yp (h:=(False.elim H)))))))))))))))))))))))
       ·clear H
        rcases Bool.eq_false_or_eq_true (!decide (t5912=Er.ok)) with b8 | b8
        ·exact gn b8 (h:=(gn b8 (h:=(zf rfl (zR (okb b8) rfl) (wk (hQ _ _ ⟨true,rfl,by rw [b8] <;> rfl,rfl⟩))))))
        ·exact gp b8 (h:=(zc rfl rfl (okb b8) rfl (zW Tryz.underlying43 ht6713 rfl) (zf rfl (zO (okb b8) rfl) (wk (hQ _ _ ⟨!decide (t6713=Er.ok),rfl,by rw [b8] <;> rfl,rfl⟩)))))
      ·obtain ⟨c4,a9,d2,d3,d0,a0,a2,v_t6714,t6714,rfl,ht670_l2,a7,ho6,dj15,ht6714,ht6702,hge4,dj16,dj17,dj18,H⟩:=hc_
       have hg14:=hg_
       have hb6:=ht670_l2.ge'
       have gr14:=qC gr12 hg14
       have k59:=k38.grown hg14
       have k62:=ht590.g0 hg14
       refine yp (h:=(yp (h:=(yp (h:=(yp (h:=(yp (h:=(ze (za (zd (zd (zb (yp (h:=(zf rfl (zW Tryz.underlying43 (ht5912.grown hg14) rfl) (yp (h:=(zX 3 (fun L' w'=>∃ q5:Bool,L'=[(75,.bool q5),(8,.pointer (some ⟨g_a,0,none⟩)),(9,.int .i64 k),(10,.pointer (some ⟨g1,0,none⟩)),(11,vs was),(12,.iface 61 (.pointer (some ⟨a5,0,none⟩))),(14,.iface 61 (.pointer (some ⟨c4,0,none⟩)))]/\((!decide (t5912=Er.ok)) || (!decide (t6714=Er.ok)))=q5/\w16=w') ?_ (fun hQ=>?_)))))))))))))))))))))
       ·rintro _ _ ⟨q5,rfl,rfl,rfl⟩
        refine ze (za (zp rfl (fun b9=>?_) (fun b9=>?_)))
        ·replace H:=H.1 (b9)
         exact zd (zb (yp (h:=(ze (za (zu (zi (zM rfl rfl ⟨gr14,false,rfl,H⟩))))))))
        ·replace H:=H.2 (b9)
         refine zr (za (zd (zb (yp (h:=(zf rfl (qP (v:=⟨.iface 61 (.pointer (some ⟨a5,0,none⟩)),rfl⟩) Tryz.underlying61 rfl rfl rfl) (yp (h:=(yp (h:=(yp (h:=(yp (h:=(yp (h:=(ze (za (zd (zb (yp (h:=(zx rfl rfl (jQ (ht670_l2.base (fun g hg=>Nat.le_trans (qD gr12) (hb6 g hg))).rd rfl a7 ht6702 H) ?_)))))))))))))))))))))))
         rintro _ w19 ⟨hg15,t830,f0,f3,e7,t831,rfl,ht830,a8,ho7,dj19,H⟩
         have hb7:=ht830.ge'
         have k63:=ht830.base (fun g hg=>Nat.le_trans (qD gr14) (hb7 g hg))
         have gr15:=qC gr14 hg15
         have k64:=(k39.grown hg14).grown hg15
         have k65:=(k40.grown hg14).grown hg15
         have k66:=(k41.g0 hg14).g0 hg15
         have k67:=(k42.grown hg14).grown hg15
         have k68:=(k43.g0 hg14).g0 hg15
         have k69:=k59.grown hg15
         have k70:=(a3.grown hg14).grown hg15
         have k71:=k62.g0 hg15
         refine yp (h:=(yp (h:=(yp (h:=(yp (h:=(yp (h:=(ze (za (zd (zd (zb (yp (h:=(yp (h:=(yp (h:=?_))))))))))))))))))))
         obtain ⟨J1,H,hJ1⟩:=H
         refine zX 16 (fun L' w'=>∃ q6:Bool,L'=[(104,.bool q6),(8,.pointer (some ⟨g_a,0,none⟩)),(9,.int .i64 k),(10,.pointer (some ⟨g1,0,none⟩)),(11,vs was)]/\J1 q6/\w.grownBy w' none/\Own vv w' w.heap.size 32 c6 c7 c0/\RelD deV w' c0 a_l/\Bl w' g_a 166 [.slice c6 a_l.length c7,.bool a_frozen,.int .i64 a_over]/\Nm w' (.agg ⟨[v_t50,v_t502]⟩) t50 m_t50/\Bl w' g1 75 [v_t50,v_t502]) ?_ (fun hQ=>?_)
         ·clear H
          rintro _ w20 ⟨q6,rfl,H,gr16,k72,k73,k74,k75,k76⟩
          replace H:=hJ1 q6 H
          refine ze (za (zp rfl (fun b10=>?_) (fun b10=>?_)))
          ·replace H:=H.1 (b10)
           exact zd (zb (yp (h:=(ze (za (zu (zi (zM rfl rfl ⟨gr16,false,rfl,H⟩))))))))
          ·replace H:=H.2 (b10)
           refine zr (za (zd (zd (zV (fun k => !(Nat.beq k 2 || Nat.beq k 3)) (LD [1] (fun w'=>Bl w' g1 75 [v_t50,v_t502])) jg (by kernel_rfl) (fun k w' h _=>(jc h k76)) (zC rfl rfl (fun w' hw'=>zg qB rfl) (zC rfl rfl (fun w' hw'=>z3 (vs:=[v_t50,v_t502]) qB (hw' rfl) rfl rfl rfl rfl) (qg rfl (qS) rfl rfl (W_val_Str H) (fun v w' h w2 e=>DD.keep (Bl.g0 k76 (jj h.1 e))) ?_)))))))
           rintro _ w21 ⟨hg16,v_t107,F_t107,t107,rfl,ht107,ho8,H⟩
           have gr17:=qC gr16 hg16
           have k77:=k72.grown hg16
           have k78:=k73.grown hg16
           have k79:=k74.g0 hg16
           have k80:=k75.grown hg16
           refine qg rfl qS rfl rfl (W_list_Insert (GB.grown hG gr17) (qD gr17) (apC (Ge.le hge1 (qD gr2)) (apC k77.ge' apN)) hS3 hS7 (k77.base (fun _ _=>Nat.zero_le _)) rfl k78 k79 k80 ht107 dj6.symm (apC dj5 (apC dj4 apN)) (apC (ho8 _ k74.lt') (apC (ho8 _ k72.lt') apN)) H) (fun v w' h w2 e=>qe (by kernel_rfl)) ?_
           rintro v_t108 w22 ⟨hgl1,_,t108,a_,f9,g2,f8,a_2,a_3,rfl,ht108,hB3,hO1,hi1,hr1,ho9,dj20,dj21,dj22,H⟩
           have hO2:=hO1.base (InP.toGe hi1 (apC (Ge.le hge1 (qD gr2)) (apC k77.ge' apN)) (qD gr17))
           have gr18:=gr_modL gr17 hgl1 (apC (Ge.le hge1 (qD gr2)) (apC k77.ge' apN))
           have k82:=k78.goL hgl1 (apC dj5 (apC dj4 apN))
           refine zC rfl rfl (fun w' hw'=>zW Tryz.underlying43 ht108 rfl) (qd (za (zp rfl (fun b11=>?_) (fun b11=>?_))))
           ·replace H:=H.1 (jw b11)
            exact zd (zb (yp (h:=(ze (za (zu (zi (zM rfl rfl ⟨gr18,false,rfl,H⟩))))))))
           ·replace H:=H.2 (jn b11)
            refine zr (za (zd (zb (yp (h:=(zf rfl (qk Tryz.underlying61 rfl rfl) (zx rfl rfl (W_val_Str H) ?_)))))))
            rintro _ w23 ⟨hg17,v_t113,F_t113,t113,rfl,ht113,ho10,H⟩
            have gr19:=qC gr18 hg17
            have k85:=hB3.g0 hg17
            have k88:=hO2.grown hg17
            have k89:=hr1.grown hg17
            refine zx rfl rfl (W_list_Index_List0 (hG.grown gr19) hS3 hS7 k88.rd rfl k89 k85 ht113 H) ?_
            rintro _ w24 ⟨hg18,t1140,v_t1141,t1141,rfl,ht1141,H⟩
            have gr20:=qC gr19 hg18
            have k90:=k85.g0 hg18
            have k91:=((Nm.goDL k80 hgl1 (apC (hD1 _ ha.lt') (apC (hD1 _ k3.lt') apN))).grown hg17).grown hg18
            have k93:=k88.grown hg18
            have k94:=k89.grown hg18
            refine yp (h:=(yp (h:=(yp (h:=(yp (h:=(yp (h:=(ze (za (zd (zb (yp (h:=(zf rfl (z3 (vs:=[v_t50,v_t502]) qB ((((k76.g0 hg16).goL hgl1 (apC (Dj.new k6.lt' (Ge.box hl1)).symm (apC (Dj.new k4.lt' (Ge.box hl1)).symm apN))).g0 hg17).g0 hg18) rfl rfl rfl rfl) (zx rfl rfl (W_list_Pop (GB.grown hG gr20) (qD gr20) (apC (Ge.le hge1 (qD gr2)) (apC k93.ge' apN)) hS3 hS7 (k93.base (fun _ _=>Nat.zero_le _)) rfl k94 k90 k91 dj20 (apC dj21 (apC dj22 apN)) H) ?_)))))))))))))))))
            rintro _ w25 ⟨hgl2,v_t1200,F_t1200,t1200,v_t1201,t1201,a_4,f6,f7,f5,a_5,a_6,rfl,ht1200,ho12,ht1201,hB4,hO3,hi2,hr2,ho11,dj23,dj24,dj25,dj26,dj27,H⟩
            have hO4:=hO3.base (InP.toGe hi2 (apC (Ge.le hge1 (qD gr2)) (apC k93.ge' apN)) (qD gr20))
            have gr21:=gr_modL gr20 hgl2 (apC (Ge.le hge1 (qD gr2)) (apC k93.ge' apN))
            have k95:=k94.goL hgl2 (apC dj21 (apC dj22 apN))
            refine yp (h:=(yp (h:=(yp (h:=(yp (h:=(yp (h:=(ze (za (zd (zb (yp (h:=(zf rfl (qi Tryz.underlying43 (ErrR.goB ht1141 (GB.grown hG gr20) hgl2 (apC (Ge.le hge1 (qD gr2)) (apC k93.ge' apN)) (apC (NoAt.bl k90 rfl) (apC (NoAt.own k93 rfl) apN))) rfl) (yp (h:=?_))))))))))))))))))
            obtain ⟨J2,H,hJ2⟩:=H
            refine zX 20 (fun L' w'=>∃ q7:Bool,L'=[(145,.bool q7)]/\J2 q7/\w.grownBy w' none) ?_ (fun hQ=>?_)
            ·clear H
             rintro _ w26 ⟨q7,rfl,H,gr22⟩
             replace H:=hJ2 q7 H
             exact yp (h:=(ze (za (zu (zM rfl rfl ⟨gr22,q7,rfl,H⟩)))))
            ·clear hJ2
             rcases Bool.eq_false_or_eq_true (decide (t1141=Er.ok)) with b12 | b12
             ·replace H:=H.1 b12
              refine gp b12 (h:=(gp b12 (h:=(gp b12 (h:=(zf rfl (zR (okb b12) rfl) (yp (h:=?_))))))))
              rcases Bool.eq_false_or_eq_true (decide (t1140=k)) with b13 | b13
              ·replace H:=H.1 b13
               refine gp b13 (h:=(zc rfl rfl (okb b13) rfl (qi Tryz.underlying43 ht1201 rfl) (zf rfl (zR (okb b13) rfl) (yp (h:=?_)))))
               rcases Bool.eq_false_or_eq_true (decide (t1201=Er.ok)) with b14 | b14
               ·replace H:=H.1 b14
                refine gp b14 (h:=(qp (qG rfl rfl (okb b14)) rfl rfl (W_val_Text ht1200 H) ?_))
                rintro _ w27 ⟨hg19,t136,rfl,H⟩
                have gr23:=qC gr21 hg19
                have k97:=hB4.g0 hg19
                have k98:=hO4.grown hg19
                have k99:=hr2.grown hg19
                have k100:=ht1200.grown hg19
                refine gp b14 (h:=(zf rfl (zR (okb b14) rfl) (yp (h:=?_))))
                rcases Bool.eq_false_or_eq_true (decide (t136=([110,101,119]:List UInt8))) with b15 | b15
                ·replace H:=H.1 b15
                 refine gp b15 (h:=(zc rfl rfl (okb b15) rfl (qk Tryz.underlying61 rfl rfl) (qp (qG rfl rfl (okb b15)) rfl rfl (W_val_Repr_List0 k98.rd rfl k99 k97 H) ?_)))
                 rintro _ w28 ⟨hg20,t142,rfl,H⟩
                 have k101:=k97.g0 hg20
                 have k102:=k98.grown hg20
                 have k103:=k99.grown hg20
                 exact gp b15 (h:=(gp b15 (h:=(zf rfl (zR (okb b15) rfl) (wk (hQ _ _ ⟨decide (t142=was),rfl,H,(qC gr23 hg20)⟩))))))
                ·replace H:=H.2 b15
                 exact gn b15 (h:=(gn b15 (h:=(gn b15 (h:=(gn b15 (h:=(gn b15 (h:=(zf rfl (zO (okb b15) rfl) (wk (hQ _ _ ⟨false,rfl,H,gr23⟩))))))))))))
               ·replace H:=H.2 b14
                exact gn b14 (h:=(gn b14 (h:=(gn b14 (h:=(zf rfl (zO (okb b14) rfl) (yp (h:=(zI rfl rfl (rfl) rfl (zI rfl rfl (rfl) rfl (zI rfl rfl (rfl) rfl (zI rfl rfl (rfl) rfl (zI rfl rfl (rfl) rfl (zf rfl (zO (rfl) rfl) (wk (hQ _ _ ⟨false,rfl,H,gr21⟩))))))))))))))))
              ·replace H:=H.2 b13
               exact gn b13 (h:=(gn b13 (h:=(zf rfl (zO (okb b13) rfl) (yp (h:=(zI rfl rfl (rfl) rfl (zI rfl rfl (rfl) rfl (zI rfl rfl (rfl) rfl (zf rfl (zO (rfl) rfl) (yp (h:=(zI rfl rfl (rfl) rfl (zI rfl rfl (rfl) rfl (zI rfl rfl (rfl) rfl (zI rfl rfl (rfl) rfl (zI rfl rfl (rfl) rfl (zf rfl (zO (rfl) rfl) (wk (hQ _ _ ⟨false,rfl,H,gr21⟩))))))))))))))))))))
             ·replace H:=H.2 b12
              exact gn b12 (h:=(gn b12 (h:=(gn b12 (h:=(zf rfl (zO (okb b12) rfl) (yp (h:=(zI rfl rfl (rfl) rfl (zI rfl rfl (rfl) rfl (zf rfl (zO (rfl) rfl) (yp (h:=(zI rfl rfl (rfl) rfl (zI rfl rfl (rfl) rfl (zI rfl rfl (rfl) rfl (zf rfl (zO (rfl) rfl) (yp (h:=(zI rfl rfl (rfl) rfl (zI rfl rfl (rfl) rfl (zI rfl rfl (rfl) rfl (zI rfl rfl (rfl) rfl (zI rfl rfl (rfl) rfl (zf rfl (zO (rfl) rfl) (wk (hQ _ _ ⟨false,rfl,H,gr21⟩)))))))))))))))))))))))))))
         ·clear hJ1
          refine zc rfl rfl (rfl) rfl (zg qB rfl) (zc rfl rfl (rfl) rfl (zg qB rfl) (zf rfl (zO (rfl) rfl) (yp (h:=?_))))
          rcases Bool.eq_false_or_eq_true (!t831) with b16 | b16
          ·replace H:=H.1 b16
           exact gn b16 (h:=(gn b16 (h:=(gn b16 (h:=(gn b16 (h:=(zf rfl (zR (okb b16) rfl) (yp (h:=(zI rfl rfl (rfl) rfl (zI rfl rfl (rfl) rfl (zI rfl rfl (rfl) rfl (zI rfl rfl (rfl) rfl (zI rfl rfl (rfl) rfl (zf rfl (zR (rfl) rfl) (wk (hQ _ _ ⟨true,rfl,H,gr15,k64,k65,k66,k67,k68⟩))))))))))))))))))
          ·replace H:=H.2 b16
           refine gp b16 (h:=(gp b16 (h:=(qp (qG rfl rfl (okb b16)) rfl rfl (W_list_Extend (GB.grown hG gr15) (qD gr15) (apC (Ge.le hge3 (qD gr8)) (apC k69.ge' apN)) hS3 hS7 (k69.base (fun _ _=>Nat.zero_le _)) rfl k70 k71 k63.rd rfl a8 dj14.symm (apC dj13 (apC dj12 apN)) (apC (Dn.of (Dj.new k62.lt' hb7).symm) (apC (Dn.of (Dj.new k59.lt' hb7).symm) apN)) (apC (ho7 _ k62.lt' (ho6 _ ht590.lt' (k16.new hge3))) (apC (ho7 _ k59.lt' (ho6 _ k38.lt' (k16.new hb5))) apN)) H) ?_))))
           rintro v_t95 w29 ⟨hgl3,_,t95,t590_,e2,e3,e1,c1,c2,rfl,ht95,hB5,hO5,hi3,hr3,ho13,dj28,dj29,dj30,H⟩
           have hO6:=hO5.base (InP.toGe hi3 (apC (Ge.le hge3 (qD gr8)) (apC k69.ge' apN)) (qD gr15))
           have gr25:=gr_modL gr15 hgl3 (apC (Ge.le hge3 (qD gr8)) (apC k69.ge' apN))
           have k104:=k64.goL hgl3 (apC (Dj.new k15.lt' hge3) (apC (Dj.new k15.lt' hb5) apN))
           have k105:=k65.goL hgl3 (apC (k16.new hge3) (apC (k16.new hb5) apN))
           have k106:=k66.goL hgl3 (apC (Dj.new k17.lt' hge3) (apC (Dj.new k17.lt' hb5) apN))
           have k107:=Nm.goDL k67 hgl3 (apC (Nm.newD k18 hge3) (apC (Nm.newD k18 hb5) apN))
           have k108:=k68.goL hgl3 (apC (Dj.new k19.lt' hge3) (apC (Dj.new k19.lt' hb5) apN))
           have k109:=k70.goL hgl3 (apC dj13 (apC dj12 apN))
           have k110:=k63.goL hgl3 (apC (Dj.new k62.lt' hb7).symm (apC (Dj.new k59.lt' hb7).symm apN))
           have k111:=a8.goL hgl3 (apC (ho7 _ k62.lt' (ho6 _ ht590.lt' (k16.new hge3))) (apC (ho7 _ k59.lt' (ho6 _ k38.lt' (k16.new hb5))) apN))
           refine zc rfl rfl (okb b16) rfl (zW Tryz.underlying43 ht95 rfl) (zf rfl (zO (okb b16) rfl) (yp (h:=?_)))
           rcases Bool.eq_false_or_eq_true (!decide (t95=Er.ok)) with b17 | b17
           ·replace H:=H.1 b17
            exact gn b17 (h:=(gn b17 (h:=(gn b17 (h:=(gn b17 (h:=(gn b17 (h:=(zf rfl (zR (okb b17) rfl) (wk (hQ _ _ ⟨true,rfl,H,gr25,k104,k105,k106,k107,k108⟩))))))))))))
           ·replace H:=H.2 b17
            refine gp b17 (h:=(zc rfl rfl (okb b17) rfl (qk Tryz.underlying61 rfl rfl) (qp (qG rfl rfl (okb b17)) rfl rfl (W_val_Repr_List0 hO6.rd rfl hr3 hB5 H) ?_)))
            rintro _ w30 ⟨hg21,t101,rfl,H⟩
            have k117:=hB5.g0 hg21
            have k118:=hO6.grown hg21
            have k119:=hr3.grown hg21
            exact gp b17 (h:=(gp b17 (h:=(zf rfl (zO (okb b17) rfl) (wk (hQ _ _ ⟨!decide (t101=was),rfl,H,(qC gr25 hg21),(k104.grown hg21),(k105.grown hg21),(k106.g0 hg21),(k107.grown hg21),(k108.g0 hg21)⟩))))))
       ·clear H
        rcases Bool.eq_false_or_eq_true (!decide (t5912=Er.ok)) with b18 | b18
        ·exact gn b18 (h:=(gn b18 (h:=(zf rfl (zR (okb b18) rfl) (wk (hQ _ _ ⟨true,rfl,by rw [b18] <;> rfl,rfl⟩))))))
        ·exact gp b18 (h:=(zc rfl rfl (okb b18) rfl (zW Tryz.underlying43 ht6714 rfl) (zf rfl (zO (okb b18) rfl) (wk (hQ _ _ ⟨!decide (t6714=Er.ok),rfl,by rw [b18] <;> rfl,rfl⟩)))))
  ·clear H
   rcases Bool.eq_false_or_eq_true (decide ((20:Int)<(l.length:Int))) with b19 | b19
   ·exact gn b19 (h:=(gn b19 (h:=(zf rfl (zR (okb b19) rfl) (wk (hQ _ _ ⟨true,rfl,by rw [b19] <;> rfl,rfl⟩))))))
   ·exact gp b19 (h:=(gp b19 (h:=(zf rfl (zO (okb b19) rfl) (wk (hQ _ _ ⟨!ok,rfl,by rw [b19] <;> rfl,rfl⟩))))))
end
 
section
open Go Go.RowKit
variable {l:List PV} {f:Bool} {o:Int}
theorem lbound_M {n:Int} {m:Nat} {K:Int->Prop} (hm:m<=90000) (hn:In64 n) (h:K n):kj n m K :=
 ⟨hm,fun _=>⟨fun _=>h,fun e=>(by cases e)⟩,fun e=>absurd hn e⟩
theorem sbound_M {n i:Int} {K:Int->Prop} (h0:0<=i) (h1:i<=n) (h:K i):M_str_bound n i K:=by
 refine ⟨fun q=>q=i,⟨fun e=>by omega,fun _=>rfl⟩,?_⟩
 rintro _ rfl
 rw [if_neg (by omega),if_neg (by omega)]
 exact h
theorem cut1_M {n k t:Int} {K:Int->Int->Prop} (h0:0<=k) (h1:k<=n) (h:K 0 k):M_str_Cut n t k false true K:=by
 refine ⟨fun q=>q=0,⟨fun _=>rfl,fun e=>(by cases e)⟩,?_⟩
 rintro _ rfl
 refine ⟨fun q=>k=q,⟨fun e=>(by cases e),fun _=>rfl⟩,?_⟩
 rintro _ rfl
 rw [if_neg (by omega)]
 refine sbound_M (by omega) (by omega) (sbound_M h0 h1 ?_)
 rw [show (if (0:Int)<k then k else 0)=k by split <;> omega]
 exact h
theorem cut2_M {n k t:Int} {K:Int->Int->Prop} (h0:0<=k) (h1:k<=n) (h:K k n):M_str_Cut n k t true false K:=by
 refine ⟨fun q=>k=q,⟨fun e=>(by cases e),fun _=>rfl⟩,?_⟩
 rintro _ rfl
 rw [if_neg (by omega)]
 refine ⟨fun q=>n=q,⟨fun _=>rfl,fun e=>(by cases e)⟩,?_⟩
 rintro _ rfl
 refine sbound_M h0 h1 (sbound_M (by omega) (by omega) ?_)
 rw [show (if k<n then n else k)=n by split <;> omega]
 exact h
theorem itemsL_M {K:List PV->Bool->Prop} (hl:l.length<=1000000) (h:K l true):je l f o K:=fun _ _=>cloneV_M hl h
theorem slice1_M {k:Int} {m m':Nat} {K0:Er->Prop} {K:List PV->Bool->Int->Er->Prop} (hl:l.length<=1000) (hm:m<=90000) (hm':m'<=90000) (h0:0<=k) (h1:k<=l.length) (h:K (l.take k.toNat) false 0 .ok):jh l f o 0 m' k m false true K0 K:=by
 intro _ _ _ _
 refine ⟨fun e=>(by cases e),fun _=>lbound_M hm' (by unfold In64; omega) (lbound_M hm (by unfold In64; omega) (cut1_M h0 h1 fun _ _=>⟨fun e=>(by cases e),fun _=>⟨by simp only [In]; omega,fun e=>absurd e (by omega),fun _=>itemsL_M (by omega) ⟨fun _=>⟨⟨by omega,by omega,by omega⟩,newlist_M (by simp <;> omega) ?_⟩,fun e=>(by cases e)⟩⟩⟩))⟩
 simpa using h
theorem slice2_M {k:Int} {m m':Nat} {K0:Er->Prop} {K:List PV->Bool->Int->Er->Prop} (hl:l.length<=1000) (hm:m<=90000) (hm':m'<=90000) (h0:0<=k) (h1:k<=l.length) (h:K (l.drop k.toNat) false 0 .ok):jh l f o k m 0 m' true false K0 K:=by
 intro _ _ _ _
 refine ⟨fun e=>(by cases e),fun _=>lbound_M hm (by unfold In64; omega) (lbound_M hm' (by unfold In64; omega) (cut2_M h0 h1 fun _ _=>⟨fun e=>(by cases e),fun _=>⟨by simp only [In]; omega,fun e=>absurd e (by omega),fun _=>itemsL_M (by omega) ⟨fun _=>⟨⟨by omega,by omega,by omega⟩,newlist_M (by simp; omega) ?_⟩,fun e=>(by cases e)⟩⟩⟩))⟩
 rw [List.take_of_length_le (by simp)]
 exact h
theorem extend_M {x:List PV} {K:Er->List PV->Bool->Int->Prop} (hl:l.length+x.length<=1024) (h:K .ok (l++x) false 0):kr l false 0 x K :=
 fun _ _=>loose_M ⟨fun e=>(by cases e),fun _=>fun _=>⟨by simp only [In]; omega,fun e=>absurd e (by omega),fun _=>fun _ _=>⟨by omega,h⟩⟩⟩
theorem change_M {x:List PV} {K:Er->List PV->Bool->Int->Prop} (hl:x.length<=1024) (h:K .ok x false 0):ks l false 0 x K :=
 fun _ _=>loose_M ⟨fun e=>(by cases e),fun _=>⟨fun e=>absurd e (by omega),fun _=>fun _ _=>h⟩⟩
theorem insert_M {k:Int} {m:Nat} {x:PV} {K:Er->List PV->Bool->Int->Prop} (hl:l.length<=1000) (hm:m<=90000) (h0:0<=k) (h1:k<=l.length) (h:K .ok (l.take k.toNat++[x]++l.drop k.toNat) false 0):M_list_Insert l false 0 k m x K :=
 fun _=>fun _=>itemsL_M (by omega) (lbound_M hm (by unfold In64; omega) (cut2_M h0 h1 ⟨⟨h0,h1,by omega⟩,change_M (by simp; omega) h⟩))
theorem place_M {k n:Int} {m:Nat} {K:Int->Bool->Prop} (hm:m<=90000) (h0:0<=k) (h1:k<n) (h2:k<=1000000) (h:K k true):M_list_place k m n K:=by
 refine ⟨hm,fun _=>⟨fun q=>q=k,⟨fun e=>?_,fun _=>rfl⟩,?_⟩,fun e=>absurd (by unfold In64; omega) e⟩
 ·simp only [Bool.true_and,decide_eq_true_eq] at e; omega
 ·rintro _ rfl
  rw [decide_eq_true h0,decide_eq_true h1]; exact h
theorem pop_M {k:Int} {m:Nat} {K:PV->Er->List PV->Bool->Int->Prop} (hl:l.length<=1000) (hm:m<=90000) (h0:0<=k) (h1:k<l.length) (h:K (l.getD k.toNat PV.nil) .ok (l.take k.toNat++l.drop (k.toNat+1)) false 0):M_list_Pop l false 0 k m K:=by
 intro _ _
 refine itemsL_M (by omega) (place_M hm h0 h1 (by omega) ⟨fun q=>q=false,⟨fun e=>(by cases e),fun _=>loose_M rfl⟩,?_⟩)
 rintro _ rfl
 exact ⟨fun e=>(by cases e),fun _=>⟨⟨h0,h1⟩,by simp only [In]; omega,⟨h0,by omega,rfl⟩,change_M (by simp; omega) h⟩⟩
def lstT (l:List PV):List UInt8:=[91]++comG repV l++[93]
theorem reprL_M {K:List UInt8->Prop} (hl:l.length<=100) (ht:∀ z∈l,OkI z) (h:K (lstT l)):jH l f o K:=by
 have hc:=comG_len (f:=repV) (b:=40) (l:=l) fun z hz=>repV_len (ht z hz)
 intro _ _ _
 refine full_M (by simp) ⟨fun e=>(by cases e),fun _=>fun _ _=>⟨fun e=>absurd e (by omega),fun _=>put_M (by simp) ⟨by simp only [In]; omega,itemsT_M (by omega) hl (by simp) ht (put_M (by simp; omega) ?_)⟩⟩⟩
 simpa [lstT] using h
theorem equalS_M {k:Int} {x:PV} {s:List UInt8} {K:Bool->Er->Int->Prop} (h1:1<=k) (h2:k<=5000) (hx:OkI x) (h:K (decide (x=.str s)) .ok (k - 1)):jz k x (.str s) K:=by
 unfold jz j0
 refine look_M h1 h2 (by omega) ⟨fun e=>absurd rfl e,fun _=>⟨fun e=>(by subst e; exact hx),by simp,fun e=>?_,fun e=>?_⟩⟩
 ·rw [decide_eq_false (fun e2=>e (by rw [e2]))] at h; exact h
 ·cases x with
  | str s' =>
   refine ⟨by simp,fun z e=>(by cases e),fun _=>⟨fun s2 e=>?_,fun e=>absurd rfl (e s')⟩⟩
   cases e
   refine ⟨s,rfl,?_⟩
   rw [show decide (s'=s)=decide (PV.str s'=PV.str s) from decide_eq_decide.2 ⟨fun e=>by rw [e],fun e=>by injection e⟩]
   exact h
  | int z=>exact absurd e (by simp [kindP])
  | tup l=>exact absurd e (by simp [kindP])
  | nil=>exact hx.elim
  | none=>exact hx.elim
  | emp=>exact hx.elim
theorem index_M {A B:List PV} {s:List UInt8} {K:Int->Er->Prop} (hl:A.length+B.length<=1000) (hA:∀ x∈A,OkI x) (hne:∀ x∈A,x≠.str s) (hs:OkI (.str s)) (h:K A.length .ok):j3 (A++[.str s]++B) f o (.str s) K:=by
 intro _ _
 refine itemsL_M (by simp; omega) ⟨fun t k=>0<=t/\t<=A.length/\k=4096 - t,fun t _=>((A.length:Int) - t).toNat,⟨by omega,by omega,by omega⟩,?_⟩
 rintro t k ⟨h0,h1,rfl⟩
 refine ⟨fun hi=>⟨⟨h0,by omega⟩,?_⟩,fun hi=>absurd hi (by simp; omega)⟩
 by_cases hq:t=A.length
 ·have e1:(A++[PV.str s]++B).getD t.toNat PV.nil=.str s:=by
   rw [show t.toNat=A.length by omega]
   simp [List.getD]
  rw [e1]
  refine equalS_M (by omega) (by omega) hs ⟨fun e=>absurd rfl e,fun _=>⟨fun _=>?_,fun e=>absurd e (by simp)⟩⟩
  refine ⟨fun q=>q=.ok,⟨fun e=>?_,fun _=>rfl⟩,?_⟩
  ·simp only [Bool.and_eq_true,decide_eq_true_eq] at e; omega
  ·rintro _ rfl
   exact ⟨fun e=>absurd rfl e,fun _=>by rw [hq]; exact h⟩
 ·have hlt:t.toNat<A.length:=by omega
  have e1:(A++[PV.str s]++B).getD t.toNat PV.nil=A[t.toNat]:=by
   rw [List.append_assoc]
   simp [List.getD,List.getElem?_append_left hlt,List.getElem?_eq_getElem hlt]
  rw [e1]
  have hm:=List.getElem_mem hlt
  refine equalS_M (by omega) (by omega) (hA _ hm) ⟨fun e=>absurd rfl e,fun _=>⟨fun e=>absurd (of_decide_eq_true e) (hne _ hm),fun _=>⟨by simp only [In]; omega,⟨by omega,by omega,by omega⟩,by first | omega | (dsimp only; omega)⟩⟩⟩
theorem vstr_M {s:List UInt8} {K:PV->Prop} (h:K (.str s)):M_val_Str s K:=h
theorem text_S {s:List UInt8} {K:List UInt8->Prop} (h:K s):M_val_Text (.str s) K :=
 ⟨fun s' e=>by cases e; exact ⟨fun _=>h,fun e=>(by cases e)⟩,fun e=>absurd rfl (e s)⟩
theorem itemP_new (n:Int):itemP n≠.str [110,101,119]:=by
 unfold itemP
 split
 ·simp
 ·split
  ·intro e
   injection e with e
   rcases strN_ok n with h | h | h <;> rw [h] at e <;> exact absurd e (by decide)
  ·simp
theorem parts_lp {l:List Int} {at_:Int} {K:Bool->Prop} (hin:∀ x∈l,(Lit.int .i64 x).wf=true) (_:In .i64 at_) (h:K true):jv l at_ K:=by
 intro _
 refine lfirst_M ⟨fun e=>(by cases e),fun _=>⟨fun _=>h,fun e=>?_⟩⟩
 have hl:l.length<=20:=by simp at e; omega
 refine items_M' (by omega) (fun x hx=>?_) fun b=>newlist_M (by simp; omega) ⟨by simp only [In]; omega,number_M (by omega) ?_⟩
 ·have:=hin x hx
  simpa [Lit.wf,In,IntKind.min,IntKind.max,IntKind.signed,IntKind.bits] using this
 have hk:=numR at_ (b:=(l.length:Int)+1) (by omega)
 generalize (at_.tmod ((l.length:Int)+1)+((l.length:Int)+1)).tmod ((l.length:Int)+1)=k at *
 have hok:∀ x∈l.map itemP,OkI x:=fun x hx=>by obtain ⟨n,_,rfl⟩:=List.mem_map.1 hx; exact itemP_ok n
 have hne:∀ x∈l.map itemP,x≠.str [110,101,119]:=fun x hx=>by obtain ⟨n,_,rfl⟩:=List.mem_map.1 hx; exact itemP_new n
 have hpl:(l.map itemP).length=l.length:=List.length_map ..
 generalize l.map itemP=p at *
 have htd:p.take k.toNat++p.drop k.toNat=p:=List.take_append_drop ..
 have htl:(p.take k.toNat).length=k.toNat:=by simp; omega
 have hnew:OkI (.str [110,101,119]):=⟨fun c hc=>by
  simp only [List.mem_cons,List.not_mem_nil,or_false] at hc
  rcases hc with rfl | rfl | rfl <;> exact ⟨by decide,by decide,by decide⟩,by simp⟩
 refine ⟨by omega,by omega,reprL_M (by omega) hok (slice1_M (by omega) (by omega) (by omega) (by omega) (by omega) (slice2_M (by omega) (by omega) (by omega) (by omega) (by omega) ⟨fun e=>absurd e (by simp),fun _=>itemsL_M (by simp; omega) ?_⟩))⟩
 refine ⟨fun q=>q=false,⟨fun e=>(by cases e),fun _=>extend_M (by simp; omega) ⟨fun e=>absurd e (by simp),fun _=>?_⟩⟩,?_⟩
 ·rw [htd]
  exact reprL_M (by omega) hok (by simp)
 rintro _ rfl
 refine ⟨fun e=>(by cases e),fun _=>vstr_M (insert_M (by omega) (by omega) (by omega) (by omega) ⟨fun e=>absurd rfl e,fun _=>vstr_M (index_M (by simp; omega) (fun x hx=>hok x (List.mem_of_mem_take hx)) (fun x hx=>hne x (List.mem_of_mem_take hx)) hnew (pop_M (by simp; omega) (by omega) (by omega) (by simp; omega) ?_))⟩)⟩
 have e1:(p.take k.toNat++[PV.str [110,101,119]]++p.drop k.toNat).getD k.toNat PV.nil=.str [110,101,119]:=by
  have:=htl
  simp [List.getD,List.getElem?_append,this]
 have e2:(p.take k.toNat++[PV.str [110,101,119]]++p.drop k.toNat).take k.toNat++(p.take k.toNat++[PV.str [110,101,119]]++p.drop k.toNat).drop (k.toNat+1)=p:=by
  rw [List.append_assoc,List.take_left' htl,<-List.append_assoc,List.drop_left' (by simp; omega),htd]
 rw [e1,e2]
 refine ⟨fun q=>q=true,⟨fun _=>⟨fun _=>⟨fun _=>text_S ⟨fun _=>reprL_M (by omega) hok (by simp),fun e=>absurd e (by simp)⟩,fun e=>absurd e (by simp)⟩,fun e=>absurd e (by simp; omega)⟩,fun e=>absurd e (by simp)⟩,?_⟩
 rintro _ rfl
 exact h
end
 end Go.Proofs.YtjoepdjeekadcaaGreatDoor
