/- Texts of this claim, joined by a program: Num11, Num5, Num6, Num7, Num8, Num9, Rev, Num15, NumB, GPv, DwA, Rz. -/
import Derived.Test.YtjjcdkfhaceicaaGreatDoorJ2
import Derived.LaidEql
namespace Go.Proofs.YtjjcdkfhaceicaaGreatDoor
open Go Go.RowKit
attribute [local irreducible] WL WC WX WQ WK Yld Eff Ef0 Fn
theorem conv_u64 (n:Int) (h1 : -9223372036854775808≤n) (h2:n≤9223372036854775807):IntKind.u64.wrap n=if n<0 then n+18446744073709551616 else n:=by
 split
 ·simp [IntKind.wrap,IntKind.bits,IntKind.signed]; omega
 ·simp [IntKind.wrap,IntKind.bits,IntKind.signed]; omega
theorem of_fn' (n:Int) (w:World) (h1 : -9223372036854775808≤n) (h2:n≤9223372036854775807) :
  Fn Tryz.prog 37 ⟨[.int .i64 n]⟩ w fun r w'=>Nm w' r n 3∧w.grownBy w' none∧Lies r (fun q=>w.heap.size≤q∧q<w'.heap.size):=by
 refine Fn.enter (by kernel_rfl) Tryz.func37 rfl Tryz.ntmps37 rfl ?_
 repeat (first | refine WC.seq ?_ | refine WC.block ?_ | refine WC.region ?_ | refine WL.nil ?_ | refine WX.then_normal ?_ | refine WC.skip ?_ | refine WC.exit ?_ | refine WC.ret ?_ | refine WX.then_exit ?_ | refine WX.then_ret ?_ | refine WX.block_normal ?_ | refine WX.block_ret ?_ | refine WX.block_same ?_ | refine WX.block_other rfl ?_ | refine WC.label ?_ | refine WC.scope ?_ | refine WX.scope_normal ?_ | refine WX.scope_ret ?_ | refine WX.scope_exit ?_ | refine WL.y rfl (Yld.add rfl rfl (by simp only [In]; omega)) ?_ | refine WL.y rfl (Yld.sub rfl rfl (by simp only [In]; omega)) ?_ | refine WL.y rfl (Yld.mul rfl rfl (by simp only [In]; omega)) ?_ | refine WL.y rfl (Yld.convB za rfl rfl rfl rfl) ?_ | refine WL.y rfl (Yld.conv za rfl rfl rfl (by simp only [In]; omega)) ?_ | refine WL.y rfl (Yld.quo rfl rfl (by omega) (by omega) (by simp only [In]; omega)) ?_ | refine WL.y rfl (Yld.rem rfl rfl (by omega) (by omega)) ?_ | refine WL.y rfl (Yld.shl rfl rfl (by omega)) ?_ | refine WL.y rfl (Yld.shr rfl rfl (by omega)) ?_ | refine WL.y rfl (Yld.pure za rfl) ?_ | refine WL.y rfl (Yld.fld zb rfl rfl rfl) ?_ | refine WL.y rfl (Yld.max2 rfl rfl) ?_ | refine WL.y rfl (Yld.min2 rfl rfl) ?_ | refine WL.y rfl (Yld.pickV rfl rfl rfl) ?_ | refine WL.gno rfl rfl rfl rfl ?_ | refine WL.gyes rfl rfl rfl rfl (Yld.add rfl rfl (by simp only [In]; omega)) ?_ | refine WL.gyes rfl rfl rfl rfl (Yld.sub rfl rfl (by simp only [In]; omega)) ?_ | refine WL.gyes rfl rfl rfl rfl (Yld.mul rfl rfl (by simp only [In]; omega)) ?_ | refine WL.gyes rfl rfl rfl rfl (Yld.convB za rfl rfl rfl rfl) ?_ | refine WL.gyes rfl rfl rfl rfl (Yld.conv za rfl rfl rfl (by simp only [In]; omega)) ?_ | refine WL.gyes rfl rfl rfl rfl (Yld.quo rfl rfl (by omega) (by omega) (by simp only [In]; omega)) ?_ | refine WL.gyes rfl rfl rfl rfl (Yld.rem rfl rfl (by omega) (by omega)) ?_ | refine WL.gyes rfl rfl rfl rfl (Yld.shl rfl rfl (by omega)) ?_ | refine WL.gyes rfl rfl rfl rfl (Yld.shr rfl rfl (by omega)) ?_ | refine WL.gyes rfl rfl rfl rfl (Yld.pure za rfl) ?_ | refine WL.gyes rfl rfl rfl rfl (Yld.fld zb rfl rfl rfl) ?_ | refine WL.gyes rfl rfl rfl rfl (Yld.max2 rfl rfl) ?_ | refine WL.gyes rfl rfl rfl rfl (Yld.min2 rfl rfl) ?_ | refine WL.gyes rfl rfl rfl rfl (Yld.pickV rfl rfl rfl) ?_)
 refine WL.alloc rfl zero75 (fun g w1 hB1 hg1 hl1=>?_)
 repeat (first | refine WC.seq ?_ | refine WC.block ?_ | refine WC.region ?_ | refine WL.nil ?_ | refine WX.then_normal ?_ | refine WC.skip ?_ | refine WC.exit ?_ | refine WC.ret ?_ | refine WX.then_exit ?_ | refine WX.then_ret ?_ | refine WX.block_normal ?_ | refine WX.block_ret ?_ | refine WX.block_same ?_ | refine WX.block_other rfl ?_ | refine WC.label ?_ | refine WC.scope ?_ | refine WX.scope_normal ?_ | refine WX.scope_ret ?_ | refine WX.scope_exit ?_ | refine WL.y rfl (Yld.add rfl rfl (by simp only [In]; omega)) ?_ | refine WL.y rfl (Yld.sub rfl rfl (by simp only [In]; omega)) ?_ | refine WL.y rfl (Yld.mul rfl rfl (by simp only [In]; omega)) ?_ | refine WL.y rfl (Yld.convB za rfl rfl rfl rfl) ?_ | refine WL.y rfl (Yld.conv za rfl rfl rfl (by simp only [In]; omega)) ?_ | refine WL.y rfl (Yld.quo rfl rfl (by omega) (by omega) (by simp only [In]; omega)) ?_ | refine WL.y rfl (Yld.rem rfl rfl (by omega) (by omega)) ?_ | refine WL.y rfl (Yld.shl rfl rfl (by omega)) ?_ | refine WL.y rfl (Yld.shr rfl rfl (by omega)) ?_ | refine WL.y rfl (Yld.pure za rfl) ?_ | refine WL.y rfl (Yld.fld zb rfl rfl rfl) ?_ | refine WL.y rfl (Yld.max2 rfl rfl) ?_ | refine WL.y rfl (Yld.min2 rfl rfl) ?_ | refine WL.y rfl (Yld.pickV rfl rfl rfl) ?_ | refine WL.gno rfl rfl rfl rfl ?_ | refine WL.gyes rfl rfl rfl rfl (Yld.add rfl rfl (by simp only [In]; omega)) ?_ | refine WL.gyes rfl rfl rfl rfl (Yld.sub rfl rfl (by simp only [In]; omega)) ?_ | refine WL.gyes rfl rfl rfl rfl (Yld.mul rfl rfl (by simp only [In]; omega)) ?_ | refine WL.gyes rfl rfl rfl rfl (Yld.convB za rfl rfl rfl rfl) ?_ | refine WL.gyes rfl rfl rfl rfl (Yld.conv za rfl rfl rfl (by simp only [In]; omega)) ?_ | refine WL.gyes rfl rfl rfl rfl (Yld.quo rfl rfl (by omega) (by omega) (by simp only [In]; omega)) ?_ | refine WL.gyes rfl rfl rfl rfl (Yld.rem rfl rfl (by omega) (by omega)) ?_ | refine WL.gyes rfl rfl rfl rfl (Yld.shl rfl rfl (by omega)) ?_ | refine WL.gyes rfl rfl rfl rfl (Yld.shr rfl rfl (by omega)) ?_ | refine WL.gyes rfl rfl rfl rfl (Yld.pure za rfl) ?_ | refine WL.gyes rfl rfl rfl rfl (Yld.fld zb rfl rfl rfl) ?_ | refine WL.gyes rfl rfl rfl rfl (Yld.max2 rfl rfl) ?_ | refine WL.gyes rfl rfl rfl rfl (Yld.min2 rfl rfl) ?_ | refine WL.gyes rfl rfl rfl rfl (Yld.pickV rfl rfl rfl) ?_)
 refine WC.merge [(3,.int .u64 ((n.natAbs:Nat):Int)),(0,.int .i64 n),(2,.pointer (some ⟨g,0,none⟩))] rfl (fun h Q' hQ=>?_) (fun h Q' hQ=>?_) ?_
 ·simp only [decide_eq_true_eq] at h
  have hc:=conv_u64 n h1 h2
  rw [if_pos h] at hc
  repeat (first | refine WC.seq ?_ | refine WC.block ?_ | refine WC.region ?_ | refine WL.nil ?_ | refine WX.then_normal ?_ | refine WC.skip ?_ | refine WC.exit ?_ | refine WC.ret ?_ | refine WX.then_exit ?_ | refine WX.then_ret ?_ | refine WX.block_normal ?_ | refine WX.block_ret ?_ | refine WX.block_same ?_ | refine WX.block_other rfl ?_ | refine WC.label ?_ | refine WC.scope ?_ | refine WX.scope_normal ?_ | refine WX.scope_ret ?_ | refine WX.scope_exit ?_ | refine WL.y rfl (Yld.add rfl rfl (by simp only [In]; omega)) ?_ | refine WL.y rfl (Yld.sub rfl rfl (by simp only [In]; omega)) ?_ | refine WL.y rfl (Yld.mul rfl rfl (by simp only [In]; omega)) ?_ | refine WL.y rfl (Yld.convB za rfl rfl rfl rfl) ?_ | refine WL.y rfl (Yld.conv za rfl rfl rfl (by simp only [In]; omega)) ?_ | refine WL.y rfl (Yld.quo rfl rfl (by omega) (by omega) (by simp only [In]; omega)) ?_ | refine WL.y rfl (Yld.rem rfl rfl (by omega) (by omega)) ?_ | refine WL.y rfl (Yld.shl rfl rfl (by omega)) ?_ | refine WL.y rfl (Yld.shr rfl rfl (by omega)) ?_ | refine WL.y rfl (Yld.pure za rfl) ?_ | refine WL.y rfl (Yld.fld zb rfl rfl rfl) ?_ | refine WL.y rfl (Yld.max2 rfl rfl) ?_ | refine WL.y rfl (Yld.min2 rfl rfl) ?_ | refine WL.y rfl (Yld.pickV rfl rfl rfl) ?_ | refine WL.gno rfl rfl rfl rfl ?_ | refine WL.gyes rfl rfl rfl rfl (Yld.add rfl rfl (by simp only [In]; omega)) ?_ | refine WL.gyes rfl rfl rfl rfl (Yld.sub rfl rfl (by simp only [In]; omega)) ?_ | refine WL.gyes rfl rfl rfl rfl (Yld.mul rfl rfl (by simp only [In]; omega)) ?_ | refine WL.gyes rfl rfl rfl rfl (Yld.convB za rfl rfl rfl rfl) ?_ | refine WL.gyes rfl rfl rfl rfl (Yld.conv za rfl rfl rfl (by simp only [In]; omega)) ?_ | refine WL.gyes rfl rfl rfl rfl (Yld.quo rfl rfl (by omega) (by omega) (by simp only [In]; omega)) ?_ | refine WL.gyes rfl rfl rfl rfl (Yld.rem rfl rfl (by omega) (by omega)) ?_ | refine WL.gyes rfl rfl rfl rfl (Yld.shl rfl rfl (by omega)) ?_ | refine WL.gyes rfl rfl rfl rfl (Yld.shr rfl rfl (by omega)) ?_ | refine WL.gyes rfl rfl rfl rfl (Yld.pure za rfl) ?_ | refine WL.gyes rfl rfl rfl rfl (Yld.fld zb rfl rfl rfl) ?_ | refine WL.gyes rfl rfl rfl rfl (Yld.max2 rfl rfl) ?_ | refine WL.gyes rfl rfl rfl rfl (Yld.min2 rfl rfl) ?_ | refine WL.gyes rfl rfl rfl rfl (Yld.pickV rfl rfl rfl) ?_)
  rw [hc]
  have hc2:IntKind.u64.wrap (0 - (n+18446744073709551616))=((n.natAbs:Nat):Int):=by
   simp [IntKind.wrap,IntKind.bits,IntKind.signed]; omega
  rw [hc2]
  exact WX.weaken (by repeat (first | exact Sub.nil | refine Sub.cons rfl ?_)) hQ
 ·simp only [decide_eq_false_iff_not] at h
  have hc:IntKind.u64.wrap n=((n.natAbs:Nat):Int):=by rw [conv_u64 n h1 h2,if_neg h]; omega
  rw [hc]
  repeat (first | refine WC.seq ?_ | refine WC.block ?_ | refine WC.region ?_ | refine WL.nil ?_ | refine WX.then_normal ?_ | refine WC.skip ?_ | refine WC.exit ?_ | refine WC.ret ?_ | refine WX.then_exit ?_ | refine WX.then_ret ?_ | refine WX.block_normal ?_ | refine WX.block_ret ?_ | refine WX.block_same ?_ | refine WX.block_other rfl ?_ | refine WC.label ?_ | refine WC.scope ?_ | refine WX.scope_normal ?_ | refine WX.scope_ret ?_ | refine WX.scope_exit ?_ | refine WL.y rfl (Yld.add rfl rfl (by simp only [In]; omega)) ?_ | refine WL.y rfl (Yld.sub rfl rfl (by simp only [In]; omega)) ?_ | refine WL.y rfl (Yld.mul rfl rfl (by simp only [In]; omega)) ?_ | refine WL.y rfl (Yld.convB za rfl rfl rfl rfl) ?_ | refine WL.y rfl (Yld.conv za rfl rfl rfl (by simp only [In]; omega)) ?_ | refine WL.y rfl (Yld.quo rfl rfl (by omega) (by omega) (by simp only [In]; omega)) ?_ | refine WL.y rfl (Yld.rem rfl rfl (by omega) (by omega)) ?_ | refine WL.y rfl (Yld.shl rfl rfl (by omega)) ?_ | refine WL.y rfl (Yld.shr rfl rfl (by omega)) ?_ | refine WL.y rfl (Yld.pure za rfl) ?_ | refine WL.y rfl (Yld.fld zb rfl rfl rfl) ?_ | refine WL.y rfl (Yld.max2 rfl rfl) ?_ | refine WL.y rfl (Yld.min2 rfl rfl) ?_ | refine WL.y rfl (Yld.pickV rfl rfl rfl) ?_ | refine WL.gno rfl rfl rfl rfl ?_ | refine WL.gyes rfl rfl rfl rfl (Yld.add rfl rfl (by simp only [In]; omega)) ?_ | refine WL.gyes rfl rfl rfl rfl (Yld.sub rfl rfl (by simp only [In]; omega)) ?_ | refine WL.gyes rfl rfl rfl rfl (Yld.mul rfl rfl (by simp only [In]; omega)) ?_ | refine WL.gyes rfl rfl rfl rfl (Yld.convB za rfl rfl rfl rfl) ?_ | refine WL.gyes rfl rfl rfl rfl (Yld.conv za rfl rfl rfl (by simp only [In]; omega)) ?_ | refine WL.gyes rfl rfl rfl rfl (Yld.quo rfl rfl (by omega) (by omega) (by simp only [In]; omega)) ?_ | refine WL.gyes rfl rfl rfl rfl (Yld.rem rfl rfl (by omega) (by omega)) ?_ | refine WL.gyes rfl rfl rfl rfl (Yld.shl rfl rfl (by omega)) ?_ | refine WL.gyes rfl rfl rfl rfl (Yld.shr rfl rfl (by omega)) ?_ | refine WL.gyes rfl rfl rfl rfl (Yld.pure za rfl) ?_ | refine WL.gyes rfl rfl rfl rfl (Yld.fld zb rfl rfl rfl) ?_ | refine WL.gyes rfl rfl rfl rfl (Yld.max2 rfl rfl) ?_ | refine WL.gyes rfl rfl rfl rfl (Yld.min2 rfl rfl) ?_ | refine WL.gyes rfl rfl rfl rfl (Yld.pickV rfl rfl rfl) ?_)
  exact WX.weaken (by repeat (first | exact Sub.nil | refine Sub.cons rfl ?_)) hQ
 repeat (first | refine WC.seq ?_ | refine WC.block ?_ | refine WC.region ?_ | refine WL.nil ?_ | refine WX.then_normal ?_ | refine WC.skip ?_ | refine WC.exit ?_ | refine WC.ret ?_ | refine WX.then_exit ?_ | refine WX.then_ret ?_ | refine WX.block_normal ?_ | refine WX.block_ret ?_ | refine WX.block_same ?_ | refine WX.block_other rfl ?_ | refine WC.label ?_ | refine WC.scope ?_ | refine WX.scope_normal ?_ | refine WX.scope_ret ?_ | refine WX.scope_exit ?_ | refine WL.y rfl (Yld.add rfl rfl (by simp only [In]; omega)) ?_ | refine WL.y rfl (Yld.sub rfl rfl (by simp only [In]; omega)) ?_ | refine WL.y rfl (Yld.mul rfl rfl (by simp only [In]; omega)) ?_ | refine WL.y rfl (Yld.convB za rfl rfl rfl rfl) ?_ | refine WL.y rfl (Yld.conv za rfl rfl rfl (by simp only [In]; omega)) ?_ | refine WL.y rfl (Yld.quo rfl rfl (by omega) (by omega) (by simp only [In]; omega)) ?_ | refine WL.y rfl (Yld.rem rfl rfl (by omega) (by omega)) ?_ | refine WL.y rfl (Yld.shl rfl rfl (by omega)) ?_ | refine WL.y rfl (Yld.shr rfl rfl (by omega)) ?_ | refine WL.y rfl (Yld.pure za rfl) ?_ | refine WL.y rfl (Yld.fld zb rfl rfl rfl) ?_ | refine WL.y rfl (Yld.max2 rfl rfl) ?_ | refine WL.y rfl (Yld.min2 rfl rfl) ?_ | refine WL.y rfl (Yld.pickV rfl rfl rfl) ?_ | refine WL.gno rfl rfl rfl rfl ?_ | refine WL.gyes rfl rfl rfl rfl (Yld.add rfl rfl (by simp only [In]; omega)) ?_ | refine WL.gyes rfl rfl rfl rfl (Yld.sub rfl rfl (by simp only [In]; omega)) ?_ | refine WL.gyes rfl rfl rfl rfl (Yld.mul rfl rfl (by simp only [In]; omega)) ?_ | refine WL.gyes rfl rfl rfl rfl (Yld.convB za rfl rfl rfl rfl) ?_ | refine WL.gyes rfl rfl rfl rfl (Yld.conv za rfl rfl rfl (by simp only [In]; omega)) ?_ | refine WL.gyes rfl rfl rfl rfl (Yld.quo rfl rfl (by omega) (by omega) (by simp only [In]; omega)) ?_ | refine WL.gyes rfl rfl rfl rfl (Yld.rem rfl rfl (by omega) (by omega)) ?_ | refine WL.gyes rfl rfl rfl rfl (Yld.shl rfl rfl (by omega)) ?_ | refine WL.gyes rfl rfl rfl rfl (Yld.shr rfl rfl (by omega)) ?_ | refine WL.gyes rfl rfl rfl rfl (Yld.pure za rfl) ?_ | refine WL.gyes rfl rfl rfl rfl (Yld.fld zb rfl rfl rfl) ?_ | refine WL.gyes rfl rfl rfl rfl (Yld.max2 rfl rfl) ?_ | refine WL.gyes rfl rfl rfl rfl (Yld.min2 rfl rfl) ?_ | refine WL.gyes rfl rfl rfl rfl (Yld.pickV rfl rfl rfl) ?_)
 generalize hU:n.natAbs=U
 have hU1:U≤9223372036854775808:=by omega
 refine WC.loop4 (S1:=Nat) (S2:=List Nat) (S3:=Option Addr) (S4:=Nat) (fun u _ _ _=>u)
  (fun u l A c=>[(3,.int .u64 (u:Int)),(4,.slice A l.length c),(0,.int .i64 n),(2,.pointer (some ⟨g,0,none⟩))])
  (fun u l A c w2=>u≤9223372036854775808∧Dg l∧l.length≤3∧u<1000000000 ^ (3 - l.length)∧val l+1000000000 ^ l.length*u=U∧Own vd w2 w1.heap.size 171 A c l∧w1.grownBy w2 none) U [] none 0
  ⟨hU1,Dg.nil,by simp,by simp only [List.length_nil]; omega,by simp [val],Own.nil _ _ _ _,zN _ _⟩ (by repeat (first | exact Sub.nil | refine Sub.cons rfl ?_)) (fun u l A c w2 ⟨hu,hD,hl,hp,hv,hO,hg2⟩=>?_)
 repeat (first | refine WC.seq ?_ | refine WC.block ?_ | refine WC.region ?_ | refine WL.nil ?_ | refine WX.then_normal ?_ | refine WC.skip ?_ | refine WC.exit ?_ | refine WC.ret ?_ | refine WX.then_exit ?_ | refine WX.then_ret ?_ | refine WX.block_normal ?_ | refine WX.block_ret ?_ | refine WX.block_same ?_ | refine WX.block_other rfl ?_ | refine WC.label ?_ | refine WC.scope ?_ | refine WX.scope_normal ?_ | refine WX.scope_ret ?_ | refine WX.scope_exit ?_ | refine WL.y rfl (Yld.add rfl rfl (by simp only [In]; omega)) ?_ | refine WL.y rfl (Yld.sub rfl rfl (by simp only [In]; omega)) ?_ | refine WL.y rfl (Yld.mul rfl rfl (by simp only [In]; omega)) ?_ | refine WL.y rfl (Yld.convB za rfl rfl rfl rfl) ?_ | refine WL.y rfl (Yld.conv za rfl rfl rfl (by simp only [In]; omega)) ?_ | refine WL.y rfl (Yld.quo rfl rfl (by omega) (by omega) (by simp only [In]; omega)) ?_ | refine WL.y rfl (Yld.rem rfl rfl (by omega) (by omega)) ?_ | refine WL.y rfl (Yld.shl rfl rfl (by omega)) ?_ | refine WL.y rfl (Yld.shr rfl rfl (by omega)) ?_ | refine WL.y rfl (Yld.pure za rfl) ?_ | refine WL.y rfl (Yld.fld zb rfl rfl rfl) ?_ | refine WL.y rfl (Yld.max2 rfl rfl) ?_ | refine WL.y rfl (Yld.min2 rfl rfl) ?_ | refine WL.y rfl (Yld.pickV rfl rfl rfl) ?_ | refine WL.gno rfl rfl rfl rfl ?_ | refine WL.gyes rfl rfl rfl rfl (Yld.add rfl rfl (by simp only [In]; omega)) ?_ | refine WL.gyes rfl rfl rfl rfl (Yld.sub rfl rfl (by simp only [In]; omega)) ?_ | refine WL.gyes rfl rfl rfl rfl (Yld.mul rfl rfl (by simp only [In]; omega)) ?_ | refine WL.gyes rfl rfl rfl rfl (Yld.convB za rfl rfl rfl rfl) ?_ | refine WL.gyes rfl rfl rfl rfl (Yld.conv za rfl rfl rfl (by simp only [In]; omega)) ?_ | refine WL.gyes rfl rfl rfl rfl (Yld.quo rfl rfl (by omega) (by omega) (by simp only [In]; omega)) ?_ | refine WL.gyes rfl rfl rfl rfl (Yld.rem rfl rfl (by omega) (by omega)) ?_ | refine WL.gyes rfl rfl rfl rfl (Yld.shl rfl rfl (by omega)) ?_ | refine WL.gyes rfl rfl rfl rfl (Yld.shr rfl rfl (by omega)) ?_ | refine WL.gyes rfl rfl rfl rfl (Yld.pure za rfl) ?_ | refine WL.gyes rfl rfl rfl rfl (Yld.fld zb rfl rfl rfl) ?_ | refine WL.gyes rfl rfl rfl rfl (Yld.max2 rfl rfl) ?_ | refine WL.gyes rfl rfl rfl rfl (Yld.min2 rfl rfl) ?_ | refine WL.gyes rfl rfl rfl rfl (Yld.pickV rfl rfl rfl) ?_)
 refine WC.cond rfl (fun h=>?_) (fun h=>?_)
 ·simp only [decide_eq_true_eq] at h
  have hl3:l.length<3:=by
   rcases Nat.lt_or_ge l.length 3 with h3 | h3
   ·exact h3
   ·rw [show 3 - l.length=0 by omega] at hp; omega
  repeat (first | refine WC.seq ?_ | refine WC.block ?_ | refine WC.region ?_ | refine WL.nil ?_ | refine WX.then_normal ?_ | refine WC.skip ?_ | refine WC.exit ?_ | refine WC.ret ?_ | refine WX.then_exit ?_ | refine WX.then_ret ?_ | refine WX.block_normal ?_ | refine WX.block_ret ?_ | refine WX.block_same ?_ | refine WX.block_other rfl ?_ | refine WC.label ?_ | refine WC.scope ?_ | refine WX.scope_normal ?_ | refine WX.scope_ret ?_ | refine WX.scope_exit ?_ | refine WL.y rfl (Yld.add rfl rfl (by simp only [In]; omega)) ?_ | refine WL.y rfl (Yld.sub rfl rfl (by simp only [In]; omega)) ?_ | refine WL.y rfl (Yld.mul rfl rfl (by simp only [In]; omega)) ?_ | refine WL.y rfl (Yld.convB za rfl rfl rfl rfl) ?_ | refine WL.y rfl (Yld.conv za rfl rfl rfl (by simp only [In]; omega)) ?_ | refine WL.y rfl (Yld.quo rfl rfl (by omega) (by omega) (by simp only [In]; omega)) ?_ | refine WL.y rfl (Yld.rem rfl rfl (by omega) (by omega)) ?_ | refine WL.y rfl (Yld.shl rfl rfl (by omega)) ?_ | refine WL.y rfl (Yld.shr rfl rfl (by omega)) ?_ | refine WL.y rfl (Yld.pure za rfl) ?_ | refine WL.y rfl (Yld.fld zb rfl rfl rfl) ?_ | refine WL.y rfl (Yld.max2 rfl rfl) ?_ | refine WL.y rfl (Yld.min2 rfl rfl) ?_ | refine WL.y rfl (Yld.pickV rfl rfl rfl) ?_ | refine WL.gno rfl rfl rfl rfl ?_ | refine WL.gyes rfl rfl rfl rfl (Yld.add rfl rfl (by simp only [In]; omega)) ?_ | refine WL.gyes rfl rfl rfl rfl (Yld.sub rfl rfl (by simp only [In]; omega)) ?_ | refine WL.gyes rfl rfl rfl rfl (Yld.mul rfl rfl (by simp only [In]; omega)) ?_ | refine WL.gyes rfl rfl rfl rfl (Yld.convB za rfl rfl rfl rfl) ?_ | refine WL.gyes rfl rfl rfl rfl (Yld.conv za rfl rfl rfl (by simp only [In]; omega)) ?_ | refine WL.gyes rfl rfl rfl rfl (Yld.quo rfl rfl (by omega) (by omega) (by simp only [In]; omega)) ?_ | refine WL.gyes rfl rfl rfl rfl (Yld.rem rfl rfl (by omega) (by omega)) ?_ | refine WL.gyes rfl rfl rfl rfl (Yld.shl rfl rfl (by omega)) ?_ | refine WL.gyes rfl rfl rfl rfl (Yld.shr rfl rfl (by omega)) ?_ | refine WL.gyes rfl rfl rfl rfl (Yld.pure za rfl) ?_ | refine WL.gyes rfl rfl rfl rfl (Yld.fld zb rfl rfl rfl) ?_ | refine WL.gyes rfl rfl rfl rfl (Yld.max2 rfl rfl) ?_ | refine WL.gyes rfl rfl rfl rfl (Yld.min2 rfl rfl) ?_ | refine WL.gyes rfl rfl rfl rfl (Yld.pickV rfl rfl rfl) ?_)
  have hd:(u:Int) % 1000000000=((u % 1000000000:Nat):Int):=by omega
  have hq:(u:Int) / 1000000000=((u / 1000000000:Nat):Int):=by omega
  rw [hd]
  refine WL.lit (us:=[vd (u % 1000000000)]) za rfl rfl rfl (by intro u hu; rw [List.mem_singleton] at hu; rw [hu]; rfl) rfl (by omega) (fun g3 w3 hL3 hg3 hl3=>?_)
  have hR3:Rd vd w3 (some ⟨g3,0,none⟩) 1 [u % 1000000000]:=Rd.ofBl' hL3 (by simp) (by simp [maxLen])
  have hO3:=hO.grown hg3
  have hz2:=hg2.size
  have hz3:=hg3.size
  refine WL.append za rfl rfl One.d hO3 rfl rfl hR3 rfl rfl (by simp only [List.length_cons,List.length_nil]; omega) (by simp only [maxLen,List.length_cons,List.length_nil]; omega) (by omega) (fun A4 c4 w4 hO4 hg4 hf4=>?_)
  repeat (first | refine WC.seq ?_ | refine WC.block ?_ | refine WC.region ?_ | refine WL.nil ?_ | refine WX.then_normal ?_ | refine WC.skip ?_ | refine WC.exit ?_ | refine WC.ret ?_ | refine WX.then_exit ?_ | refine WX.then_ret ?_ | refine WX.block_normal ?_ | refine WX.block_ret ?_ | refine WX.block_same ?_ | refine WX.block_other rfl ?_ | refine WC.label ?_ | refine WC.scope ?_ | refine WX.scope_normal ?_ | refine WX.scope_ret ?_ | refine WX.scope_exit ?_ | refine WL.y rfl (Yld.add rfl rfl (by simp only [In]; omega)) ?_ | refine WL.y rfl (Yld.sub rfl rfl (by simp only [In]; omega)) ?_ | refine WL.y rfl (Yld.mul rfl rfl (by simp only [In]; omega)) ?_ | refine WL.y rfl (Yld.convB za rfl rfl rfl rfl) ?_ | refine WL.y rfl (Yld.conv za rfl rfl rfl (by simp only [In]; omega)) ?_ | refine WL.y rfl (Yld.quo rfl rfl (by omega) (by omega) (by simp only [In]; omega)) ?_ | refine WL.y rfl (Yld.rem rfl rfl (by omega) (by omega)) ?_ | refine WL.y rfl (Yld.shl rfl rfl (by omega)) ?_ | refine WL.y rfl (Yld.shr rfl rfl (by omega)) ?_ | refine WL.y rfl (Yld.pure za rfl) ?_ | refine WL.y rfl (Yld.fld zb rfl rfl rfl) ?_ | refine WL.y rfl (Yld.max2 rfl rfl) ?_ | refine WL.y rfl (Yld.min2 rfl rfl) ?_ | refine WL.y rfl (Yld.pickV rfl rfl rfl) ?_ | refine WL.gno rfl rfl rfl rfl ?_ | refine WL.gyes rfl rfl rfl rfl (Yld.add rfl rfl (by simp only [In]; omega)) ?_ | refine WL.gyes rfl rfl rfl rfl (Yld.sub rfl rfl (by simp only [In]; omega)) ?_ | refine WL.gyes rfl rfl rfl rfl (Yld.mul rfl rfl (by simp only [In]; omega)) ?_ | refine WL.gyes rfl rfl rfl rfl (Yld.convB za rfl rfl rfl rfl) ?_ | refine WL.gyes rfl rfl rfl rfl (Yld.conv za rfl rfl rfl (by simp only [In]; omega)) ?_ | refine WL.gyes rfl rfl rfl rfl (Yld.quo rfl rfl (by omega) (by omega) (by simp only [In]; omega)) ?_ | refine WL.gyes rfl rfl rfl rfl (Yld.rem rfl rfl (by omega) (by omega)) ?_ | refine WL.gyes rfl rfl rfl rfl (Yld.shl rfl rfl (by omega)) ?_ | refine WL.gyes rfl rfl rfl rfl (Yld.shr rfl rfl (by omega)) ?_ | refine WL.gyes rfl rfl rfl rfl (Yld.pure za rfl) ?_ | refine WL.gyes rfl rfl rfl rfl (Yld.fld zb rfl rfl rfl) ?_ | refine WL.gyes rfl rfl rfl rfl (Yld.max2 rfl rfl) ?_ | refine WL.gyes rfl rfl rfl rfl (Yld.min2 rfl rfl) ?_ | refine WL.gyes rfl rfl rfl rfl (Yld.pickV rfl rfl rfl) ?_)
  rw [hq]
  refine WX.round4 (u / 1000000000) (l++[u % 1000000000]) A4 c4 ⟨by omega,hD.push (by omega),by simp; omega,?_,?_,hO4,gr_own (zd hg2 hg3) hO3 hg4 (Nat.le_refl _)⟩ (by omega) (by repeat (first | exact Sub.nil | refine Sub.cons rfl ?_))
  ·rw [show (l++[u % 1000000000]).length=l.length+1 by simp]
   rw [show 3 - l.length=(3 - (l.length+1))+1 by omega,Nat.pow_succ] at hp
   omega
  ·rw [val_push,List.length_append,List.length_singleton,Nat.pow_succ]
   have:u=u % 1000000000+1000000000*(u / 1000000000):=by omega
   generalize u % 1000000000=a at *
   generalize u / 1000000000=b at *
   subst this
   grind
 ·simp only [decide_eq_false_iff_not] at h
  obtain rfl:u=0:=by omega
  have hB2:=hB1.keep hg2 (by simp)
  repeat (first | refine WC.seq ?_ | refine WC.block ?_ | refine WC.region ?_ | refine WL.nil ?_ | refine WX.then_normal ?_ | refine WC.skip ?_ | refine WC.exit ?_ | refine WC.ret ?_ | refine WX.then_exit ?_ | refine WX.then_ret ?_ | refine WX.block_normal ?_ | refine WX.block_ret ?_ | refine WX.block_same ?_ | refine WX.block_other rfl ?_ | refine WC.label ?_ | refine WC.scope ?_ | refine WX.scope_normal ?_ | refine WX.scope_ret ?_ | refine WX.scope_exit ?_ | refine WL.y rfl (Yld.add rfl rfl (by simp only [In]; omega)) ?_ | refine WL.y rfl (Yld.sub rfl rfl (by simp only [In]; omega)) ?_ | refine WL.y rfl (Yld.mul rfl rfl (by simp only [In]; omega)) ?_ | refine WL.y rfl (Yld.convB za rfl rfl rfl rfl) ?_ | refine WL.y rfl (Yld.conv za rfl rfl rfl (by simp only [In]; omega)) ?_ | refine WL.y rfl (Yld.quo rfl rfl (by omega) (by omega) (by simp only [In]; omega)) ?_ | refine WL.y rfl (Yld.rem rfl rfl (by omega) (by omega)) ?_ | refine WL.y rfl (Yld.shl rfl rfl (by omega)) ?_ | refine WL.y rfl (Yld.shr rfl rfl (by omega)) ?_ | refine WL.y rfl (Yld.pure za rfl) ?_ | refine WL.y rfl (Yld.fld zb rfl rfl rfl) ?_ | refine WL.y rfl (Yld.max2 rfl rfl) ?_ | refine WL.y rfl (Yld.min2 rfl rfl) ?_ | refine WL.y rfl (Yld.pickV rfl rfl rfl) ?_ | refine WL.gno rfl rfl rfl rfl ?_ | refine WL.gyes rfl rfl rfl rfl (Yld.add rfl rfl (by simp only [In]; omega)) ?_ | refine WL.gyes rfl rfl rfl rfl (Yld.sub rfl rfl (by simp only [In]; omega)) ?_ | refine WL.gyes rfl rfl rfl rfl (Yld.mul rfl rfl (by simp only [In]; omega)) ?_ | refine WL.gyes rfl rfl rfl rfl (Yld.convB za rfl rfl rfl rfl) ?_ | refine WL.gyes rfl rfl rfl rfl (Yld.conv za rfl rfl rfl (by simp only [In]; omega)) ?_ | refine WL.gyes rfl rfl rfl rfl (Yld.quo rfl rfl (by omega) (by omega) (by simp only [In]; omega)) ?_ | refine WL.gyes rfl rfl rfl rfl (Yld.rem rfl rfl (by omega) (by omega)) ?_ | refine WL.gyes rfl rfl rfl rfl (Yld.shl rfl rfl (by omega)) ?_ | refine WL.gyes rfl rfl rfl rfl (Yld.shr rfl rfl (by omega)) ?_ | refine WL.gyes rfl rfl rfl rfl (Yld.pure za rfl) ?_ | refine WL.gyes rfl rfl rfl rfl (Yld.fld zb rfl rfl rfl) ?_ | refine WL.gyes rfl rfl rfl rfl (Yld.max2 rfl rfl) ?_ | refine WL.gyes rfl rfl rfl rfl (Yld.min2 rfl rfl) ?_ | refine WL.gyes rfl rfl rfl rfl (Yld.pickV rfl rfl rfl) ?_)
  refine WL.call rfl rfl (made_fn' (decide (n<0)) A c l w2 hO.rd hD (by omega)) ?_
  rintro r w8 ⟨hN,hg8,hLs⟩
  have hB8:=hB2.keep hg8 (by simp)
  obtain ⟨a,b,rfl,ha,hb⟩:=hN.agg
  refine WL.storeW (vs:=[a,b]) za rfl rfl rfl (by intro u hu; simp at hu; rcases hu with rfl | rfl <;> assumption) hB8 rfl rfl (fun w9 hB9 hg9=>?_)
  repeat (first | refine WC.seq ?_ | refine WC.block ?_ | refine WC.region ?_ | refine WL.nil ?_ | refine WX.then_normal ?_ | refine WC.skip ?_ | refine WC.exit ?_ | refine WC.ret ?_ | refine WX.then_exit ?_ | refine WX.then_ret ?_ | refine WX.block_normal ?_ | refine WX.block_ret ?_ | refine WX.block_same ?_ | refine WX.block_other rfl ?_ | refine WC.label ?_ | refine WC.scope ?_ | refine WX.scope_normal ?_ | refine WX.scope_ret ?_ | refine WX.scope_exit ?_ | refine WL.y rfl (Yld.add rfl rfl (by simp only [In]; omega)) ?_ | refine WL.y rfl (Yld.sub rfl rfl (by simp only [In]; omega)) ?_ | refine WL.y rfl (Yld.mul rfl rfl (by simp only [In]; omega)) ?_ | refine WL.y rfl (Yld.convB za rfl rfl rfl rfl) ?_ | refine WL.y rfl (Yld.conv za rfl rfl rfl (by simp only [In]; omega)) ?_ | refine WL.y rfl (Yld.quo rfl rfl (by omega) (by omega) (by simp only [In]; omega)) ?_ | refine WL.y rfl (Yld.rem rfl rfl (by omega) (by omega)) ?_ | refine WL.y rfl (Yld.shl rfl rfl (by omega)) ?_ | refine WL.y rfl (Yld.shr rfl rfl (by omega)) ?_ | refine WL.y rfl (Yld.pure za rfl) ?_ | refine WL.y rfl (Yld.fld zb rfl rfl rfl) ?_ | refine WL.y rfl (Yld.max2 rfl rfl) ?_ | refine WL.y rfl (Yld.min2 rfl rfl) ?_ | refine WL.y rfl (Yld.pickV rfl rfl rfl) ?_ | refine WL.gno rfl rfl rfl rfl ?_ | refine WL.gyes rfl rfl rfl rfl (Yld.add rfl rfl (by simp only [In]; omega)) ?_ | refine WL.gyes rfl rfl rfl rfl (Yld.sub rfl rfl (by simp only [In]; omega)) ?_ | refine WL.gyes rfl rfl rfl rfl (Yld.mul rfl rfl (by simp only [In]; omega)) ?_ | refine WL.gyes rfl rfl rfl rfl (Yld.convB za rfl rfl rfl rfl) ?_ | refine WL.gyes rfl rfl rfl rfl (Yld.conv za rfl rfl rfl (by simp only [In]; omega)) ?_ | refine WL.gyes rfl rfl rfl rfl (Yld.quo rfl rfl (by omega) (by omega) (by simp only [In]; omega)) ?_ | refine WL.gyes rfl rfl rfl rfl (Yld.rem rfl rfl (by omega) (by omega)) ?_ | refine WL.gyes rfl rfl rfl rfl (Yld.shl rfl rfl (by omega)) ?_ | refine WL.gyes rfl rfl rfl rfl (Yld.shr rfl rfl (by omega)) ?_ | refine WL.gyes rfl rfl rfl rfl (Yld.pure za rfl) ?_ | refine WL.gyes rfl rfl rfl rfl (Yld.fld zb rfl rfl rfl) ?_ | refine WL.gyes rfl rfl rfl rfl (Yld.max2 rfl rfl) ?_ | refine WL.gyes rfl rfl rfl rfl (Yld.min2 rfl rfl) ?_ | refine WL.gyes rfl rfl rfl rfl (Yld.pickV rfl rfl rfl) ?_)
  have hz:(bif decide (n<0) then -(val l:Int) else (val l:Int))=n:=by
   rcases Int.lt_or_le n 0 with h | h
   ·simp [h]; omega
   ·simp [Int.not_lt.mpr h]; omega
  rw [hz] at hN
  exact WX.retc za rfl rfl rfl hB9 rfl ⟨(hN.stored hB8 zero_no hg9).mono hl,gr_new (zd (zd hg1 hg2) hg8) hg9 hl1,fun _ _ _ _ e q hq=>⟨Nat.le_trans hg1.size (hO.lt (hLs _ _ _ _ e q hq)).1,Nat.lt_of_lt_of_le (hO.lt (hLs _ _ _ _ e q hq)).2 (Nat.le_trans hg8.size hg9.size)⟩⟩
end Go.Proofs.YtjjcdkfhaceicaaGreatDoor
 namespace Go.Proofs.YtjjcdkfhaceicaaGreatDoor
open Go Go.RowKit
attribute [local irreducible] WL WC WX WQ WK Yld Eff Ef0 Fn
end Go.Proofs.YtjjcdkfhaceicaaGreatDoor
 namespace Go.Proofs.YtjjcdkfhaceicaaGreatDoor
open Go Go.RowKit
attribute [local irreducible] WL WC WX WQ WK Yld Eff Ef0 Fn
end Go.Proofs.YtjjcdkfhaceicaaGreatDoor
 namespace Go.Proofs.YtjjcdkfhaceicaaGreatDoor
open Go Go.RowKit
attribute [local irreducible] WL WC WX WQ WK Yld Eff Ef0 Fn
theorem val_pos {l:List Nat} (hC:Can l) (h:l≠[]):0<val l:=by
 have:=(val_zero hC).mp
 rcases Nat.eq_zero_or_pos (val l) with e | e
 ·exact absurd (this e) h
 ·exact e
end Go.Proofs.YtjjcdkfhaceicaaGreatDoor
 namespace Go.Proofs.YtjjcdkfhaceicaaGreatDoor
open Go Go.RowKit
attribute [local irreducible] WL WC WX WQ WK Yld Eff Ef0 Fn
theorem getD_setN_eq (l:List Nat) (j d:Nat) (h:j<l.length):(l.set j d).getD j 0=d:=by simp [List.getD,h]
theorem getD_setN_ne (l:List Nat) (j i d:Nat) (h:j≠i):(l.set j d).getD i 0=l.getD i 0:=by simp [List.getD,List.getElem?_set_ne h]
theorem Dg.set {l:List Nat} (h:Dg l) (j:Nat) {d:Nat} (hd:d<1000000000):Dg (l.set j d):=fun i=>by
 rcases Nat.lt_or_ge j l.length with hj | hj
 ·rcases Classical.em (j=i) with e | e
  ·subst e; rw [getD_setN_eq l j d hj]; exact hd
  ·rw [getD_setN_ne l j i d e]; exact h i
 ·rw [List.set_eq_of_length_le hj]; exact h i
end Go.Proofs.YtjjcdkfhaceicaaGreatDoor
 namespace Go.Proofs.YtjjcdkfhaceicaaGreatDoor
open Go Go.RowKit
attribute [local irreducible] WL WC WX WQ WK Yld Eff Ef0 Fn
end Go.Proofs.YtjjcdkfhaceicaaGreatDoor
 namespace Go.Proofs.YtjjcdkfhaceicaaGreatDoor
open Go Go.RowKit
attribute [local irreducible] WL WC WX WQ WK WJ Yld Eff Ef0 Fn
theorem getD_set_eqB (l:List UInt8) (j:Nat) (d:UInt8) (h:j<l.length):(l.set j d).getD j 0=d:=by simp [List.getD,h]
theorem getD_set_neB (l:List UInt8) (j i:Nat) (d:UInt8) (h:j≠i):(l.set j d).getD i 0=l.getD i 0:=by simp [List.getD,List.getElem?_set_ne h]
theorem gr_row {a b c:World} {row:Option Nat} (h:a.grownBy b row) (k:b.grownBy c row):a.grownBy c row:=zd h k
theorem rev_end (xs ys:List UInt8) (i:Nat) (hl:ys.length=xs.length) (hi:xs.length≤2*i+1) (h:∀ t,t<xs.length→ys.getD t 0=if t<i∨xs.length - i≤t then xs.getD (xs.length - 1 - t) 0 else xs.getD t 0):ys=xs.reverse:=by
 apply List.ext_getElem
 ·simp [hl]
 ·intro t h1 h2
  have h3:t<xs.length:=by omega
  have e:=h t h3
  rw [List.getElem_reverse]
  have e1:ys.getD t 0=ys[t]:=by simp [List.getD,h1]
  have e2:xs.getD (xs.length - 1 - t) 0=xs[xs.length - 1 - t]:=by simp [List.getD,(by omega:xs.length - 1 - t<xs.length)]
  rw [←e1,←e2,e]
  split
  ·rfl
  ·congr 1; omega
set_option maxHeartbeats 1000000 in
theorem reverse_fn (A:Option Addr) (c B:Nat) (xs:List UInt8) (w:World) (hO:Own vb w B 5 A c xs):Fn Tryz.prog 112 ⟨[.slice A xs.length c]⟩ w fun v w'=>v=.tuple #[]∧Own vb w' B 5 A c xs.reverse∧w.grownBy w' (blk A):=by
 have hlen:=hO.len
 simp only [maxLen] at hlen
 refine Fn.enter (by kernel_rfl) Tryz.func112 rfl Tryz.ntmps112 rfl ?_
 repeat (first | refine WC.seq ?_ | refine WC.block ?_ | refine WC.region ?_ | refine WL.nil ?_ | refine WX.then_normal ?_ | refine WC.skip ?_ | refine WC.exit ?_ | refine WC.ret ?_ | refine WX.then_exit ?_ | refine WX.then_ret ?_ | refine WX.block_normal ?_ | refine WX.block_ret ?_ | refine WX.block_same ?_ | refine WX.block_other rfl ?_ | refine WC.label ?_ | refine WC.scope ?_ | refine WX.scope_normal ?_ | refine WX.scope_ret ?_ | refine WX.scope_exit ?_ | refine WL.y rfl (Yld.add rfl rfl (by simp only [In]; omega)) ?_ | refine WL.y rfl (Yld.sub rfl rfl (by simp only [In]; omega)) ?_ | refine WL.y rfl (Yld.mul rfl rfl (by simp only [In]; omega)) ?_ | refine WL.y rfl (Yld.convB za rfl rfl rfl rfl) ?_ | refine WL.y rfl (Yld.conv za rfl rfl rfl (by simp only [In]; omega)) ?_ | refine WL.y rfl (Yld.quo rfl rfl (by omega) (by omega) (by simp only [In]; omega)) ?_ | refine WL.y rfl (Yld.rem rfl rfl (by omega) (by omega)) ?_ | refine WL.y rfl (Yld.shl rfl rfl (by omega)) ?_ | refine WL.y rfl (Yld.shr rfl rfl (by omega)) ?_ | refine WL.y rfl (Yld.pure za rfl) ?_ | refine WL.y rfl (Yld.fld zb rfl rfl rfl) ?_ | refine WL.y rfl (Yld.max2 rfl rfl) ?_ | refine WL.y rfl (Yld.min2 rfl rfl) ?_ | refine WL.y rfl (Yld.pickV rfl rfl rfl) ?_ | refine WL.gno rfl rfl rfl rfl ?_ | refine WL.gyes rfl rfl rfl rfl (Yld.add rfl rfl (by simp only [In]; omega)) ?_ | refine WL.gyes rfl rfl rfl rfl (Yld.sub rfl rfl (by simp only [In]; omega)) ?_ | refine WL.gyes rfl rfl rfl rfl (Yld.mul rfl rfl (by simp only [In]; omega)) ?_ | refine WL.gyes rfl rfl rfl rfl (Yld.convB za rfl rfl rfl rfl) ?_ | refine WL.gyes rfl rfl rfl rfl (Yld.conv za rfl rfl rfl (by simp only [In]; omega)) ?_ | refine WL.gyes rfl rfl rfl rfl (Yld.quo rfl rfl (by omega) (by omega) (by simp only [In]; omega)) ?_ | refine WL.gyes rfl rfl rfl rfl (Yld.rem rfl rfl (by omega) (by omega)) ?_ | refine WL.gyes rfl rfl rfl rfl (Yld.shl rfl rfl (by omega)) ?_ | refine WL.gyes rfl rfl rfl rfl (Yld.shr rfl rfl (by omega)) ?_ | refine WL.gyes rfl rfl rfl rfl (Yld.pure za rfl) ?_ | refine WL.gyes rfl rfl rfl rfl (Yld.fld zb rfl rfl rfl) ?_ | refine WL.gyes rfl rfl rfl rfl (Yld.max2 rfl rfl) ?_ | refine WL.gyes rfl rfl rfl rfl (Yld.min2 rfl rfl) ?_ | refine WL.gyes rfl rfl rfl rfl (Yld.pickV rfl rfl rfl) ?_)
 refine WC.loop2 (S1:=Nat) (S2:=List UInt8) (fun i _=>xs.length - i) (fun i _=>[(2,vi i),(3,.int .i64 ((xs.length:Int) - 1 - (i:Int))),(0,.slice A xs.length c)])
  (fun i ys w2=>ys.length=xs.length∧2*i≤xs.length+1∧(∀ t,t<xs.length→ys.getD t 0=if t<i∨xs.length - i≤t then xs.getD (xs.length - 1 - t) 0 else xs.getD t 0)∧Own vb w2 B 5 A c ys∧w.grownBy w2 (blk A))
  0 xs ⟨rfl,by omega,fun t ht=>by rw [if_neg (by omega)],hO,zN _ _⟩ (by rw [show (xs.length:Int) - 1 - ((0:Nat):Int)=(xs.length:Int) - 1 by omega]; repeat (first | exact Sub.nil | refine Sub.cons rfl ?_)) (fun i ys w2 ⟨hyl,hi,hy,hO2,hg2⟩=>?_)
 repeat (first | refine WC.seq ?_ | refine WC.block ?_ | refine WC.region ?_ | refine WL.nil ?_ | refine WX.then_normal ?_ | refine WC.skip ?_ | refine WC.exit ?_ | refine WC.ret ?_ | refine WX.then_exit ?_ | refine WX.then_ret ?_ | refine WX.block_normal ?_ | refine WX.block_ret ?_ | refine WX.block_same ?_ | refine WX.block_other rfl ?_ | refine WC.label ?_ | refine WC.scope ?_ | refine WX.scope_normal ?_ | refine WX.scope_ret ?_ | refine WX.scope_exit ?_ | refine WL.y rfl (Yld.add rfl rfl (by simp only [In]; omega)) ?_ | refine WL.y rfl (Yld.sub rfl rfl (by simp only [In]; omega)) ?_ | refine WL.y rfl (Yld.mul rfl rfl (by simp only [In]; omega)) ?_ | refine WL.y rfl (Yld.convB za rfl rfl rfl rfl) ?_ | refine WL.y rfl (Yld.conv za rfl rfl rfl (by simp only [In]; omega)) ?_ | refine WL.y rfl (Yld.quo rfl rfl (by omega) (by omega) (by simp only [In]; omega)) ?_ | refine WL.y rfl (Yld.rem rfl rfl (by omega) (by omega)) ?_ | refine WL.y rfl (Yld.shl rfl rfl (by omega)) ?_ | refine WL.y rfl (Yld.shr rfl rfl (by omega)) ?_ | refine WL.y rfl (Yld.pure za rfl) ?_ | refine WL.y rfl (Yld.fld zb rfl rfl rfl) ?_ | refine WL.y rfl (Yld.max2 rfl rfl) ?_ | refine WL.y rfl (Yld.min2 rfl rfl) ?_ | refine WL.y rfl (Yld.pickV rfl rfl rfl) ?_ | refine WL.gno rfl rfl rfl rfl ?_ | refine WL.gyes rfl rfl rfl rfl (Yld.add rfl rfl (by simp only [In]; omega)) ?_ | refine WL.gyes rfl rfl rfl rfl (Yld.sub rfl rfl (by simp only [In]; omega)) ?_ | refine WL.gyes rfl rfl rfl rfl (Yld.mul rfl rfl (by simp only [In]; omega)) ?_ | refine WL.gyes rfl rfl rfl rfl (Yld.convB za rfl rfl rfl rfl) ?_ | refine WL.gyes rfl rfl rfl rfl (Yld.conv za rfl rfl rfl (by simp only [In]; omega)) ?_ | refine WL.gyes rfl rfl rfl rfl (Yld.quo rfl rfl (by omega) (by omega) (by simp only [In]; omega)) ?_ | refine WL.gyes rfl rfl rfl rfl (Yld.rem rfl rfl (by omega) (by omega)) ?_ | refine WL.gyes rfl rfl rfl rfl (Yld.shl rfl rfl (by omega)) ?_ | refine WL.gyes rfl rfl rfl rfl (Yld.shr rfl rfl (by omega)) ?_ | refine WL.gyes rfl rfl rfl rfl (Yld.pure za rfl) ?_ | refine WL.gyes rfl rfl rfl rfl (Yld.fld zb rfl rfl rfl) ?_ | refine WL.gyes rfl rfl rfl rfl (Yld.max2 rfl rfl) ?_ | refine WL.gyes rfl rfl rfl rfl (Yld.min2 rfl rfl) ?_ | refine WL.gyes rfl rfl rfl rfl (Yld.pickV rfl rfl rfl) ?_)
 refine WC.cond rfl (fun h=>?_) (fun h=>?_)
 ·simp only [decide_eq_true_eq] at h
  have hR2:=hO2.rd
  have hjt:((xs.length:Int) - 1 - (i:Int)).toNat=xs.length - 1 - i:=by omega
  repeat (first | refine WC.seq ?_ | refine WC.block ?_ | refine WC.region ?_ | refine WL.nil ?_ | refine WX.then_normal ?_ | refine WC.skip ?_ | refine WC.exit ?_ | refine WC.ret ?_ | refine WX.then_exit ?_ | refine WX.then_ret ?_ | refine WX.block_normal ?_ | refine WX.block_ret ?_ | refine WX.block_same ?_ | refine WX.block_other rfl ?_ | refine WC.label ?_ | refine WC.scope ?_ | refine WX.scope_normal ?_ | refine WX.scope_ret ?_ | refine WX.scope_exit ?_ | refine WL.y rfl (Yld.add rfl rfl (by simp only [In]; omega)) ?_ | refine WL.y rfl (Yld.sub rfl rfl (by simp only [In]; omega)) ?_ | refine WL.y rfl (Yld.mul rfl rfl (by simp only [In]; omega)) ?_ | refine WL.y rfl (Yld.convB za rfl rfl rfl rfl) ?_ | refine WL.y rfl (Yld.conv za rfl rfl rfl (by simp only [In]; omega)) ?_ | refine WL.y rfl (Yld.quo rfl rfl (by omega) (by omega) (by simp only [In]; omega)) ?_ | refine WL.y rfl (Yld.rem rfl rfl (by omega) (by omega)) ?_ | refine WL.y rfl (Yld.shl rfl rfl (by omega)) ?_ | refine WL.y rfl (Yld.shr rfl rfl (by omega)) ?_ | refine WL.y rfl (Yld.pure za rfl) ?_ | refine WL.y rfl (Yld.fld zb rfl rfl rfl) ?_ | refine WL.y rfl (Yld.max2 rfl rfl) ?_ | refine WL.y rfl (Yld.min2 rfl rfl) ?_ | refine WL.y rfl (Yld.pickV rfl rfl rfl) ?_ | refine WL.gno rfl rfl rfl rfl ?_ | refine WL.gyes rfl rfl rfl rfl (Yld.add rfl rfl (by simp only [In]; omega)) ?_ | refine WL.gyes rfl rfl rfl rfl (Yld.sub rfl rfl (by simp only [In]; omega)) ?_ | refine WL.gyes rfl rfl rfl rfl (Yld.mul rfl rfl (by simp only [In]; omega)) ?_ | refine WL.gyes rfl rfl rfl rfl (Yld.convB za rfl rfl rfl rfl) ?_ | refine WL.gyes rfl rfl rfl rfl (Yld.conv za rfl rfl rfl (by simp only [In]; omega)) ?_ | refine WL.gyes rfl rfl rfl rfl (Yld.quo rfl rfl (by omega) (by omega) (by simp only [In]; omega)) ?_ | refine WL.gyes rfl rfl rfl rfl (Yld.rem rfl rfl (by omega) (by omega)) ?_ | refine WL.gyes rfl rfl rfl rfl (Yld.shl rfl rfl (by omega)) ?_ | refine WL.gyes rfl rfl rfl rfl (Yld.shr rfl rfl (by omega)) ?_ | refine WL.gyes rfl rfl rfl rfl (Yld.pure za rfl) ?_ | refine WL.gyes rfl rfl rfl rfl (Yld.fld zb rfl rfl rfl) ?_ | refine WL.gyes rfl rfl rfl rfl (Yld.max2 rfl rfl) ?_ | refine WL.gyes rfl rfl rfl rfl (Yld.min2 rfl rfl) ?_ | refine WL.gyes rfl rfl rfl rfl (Yld.pickV rfl rfl rfl) ?_)
  refine WC.chainJ (fun k => !(Nat.beq k 13 || Nat.beq k 15)) (LD [7,11] (fun w'=>Rd vb w' A c ys)) mixed (by kernel_rfl) (fun k w' e _=>rd_eqv e hR2) ?_
  have hyl3:xs.length=(ys.set i (ys.getD (xs.length - 1 - i) 0)).length:=by simp [hyl]
  repeat (first | refine WJ.y rfl rfl (fun _ _=>Yld.iaddrNW za hR2 rfl rfl hyl.symm rfl (by omega)) ?_ | refine WJ.y rfl rfl (fun _ _=>Yld.iaddrW za hR2 rfl rfl hyl.symm rfl (by omega) (by omega)) ?_ | refine WJ.y rfl rfl (fun w' h=>Yld.iload 0 za (h rfl) rfl rfl (by omega)) ?_ | refine WJ.y rfl rfl (fun _ _=>Yld.add rfl rfl (by simp only [In]; omega)) ?_ | refine WJ.y rfl rfl (fun _ _=>Yld.sub rfl rfl (by simp only [In]; omega)) ?_ | refine WJ.y rfl rfl (fun _ _=>Yld.mul rfl rfl (by simp only [In]; omega)) ?_ | refine WJ.y rfl rfl (fun _ _=>Yld.convB za rfl rfl rfl rfl) ?_ | refine WJ.y rfl rfl (fun _ _=>Yld.conv za rfl rfl rfl (by simp only [In]; omega)) ?_ | refine WJ.y rfl rfl (fun _ _=>Yld.quo rfl rfl (by omega) (by omega) (by simp only [In]; omega)) ?_ | refine WJ.y rfl rfl (fun _ _=>Yld.rem rfl rfl (by omega) (by omega)) ?_ | refine WJ.y rfl rfl (fun _ _=>Yld.shl rfl rfl (by omega)) ?_ | refine WJ.y rfl rfl (fun _ _=>Yld.shr rfl rfl (by omega)) ?_ | refine WJ.y rfl rfl (fun _ _=>Yld.pure za rfl) ?_ | refine WJ.y rfl rfl (fun _ _=>Yld.fld zb rfl rfl rfl) ?_ | refine WJ.y rfl rfl (fun _ _=>Yld.max2 rfl rfl) ?_ | refine WJ.y rfl rfl (fun _ _=>Yld.min2 rfl rfl) ?_ | refine WJ.y rfl rfl (fun _ _=>Yld.pickV rfl rfl rfl) ?_ | refine WJ.no rfl rfl rfl rfl ?_ | refine WJ.gun rfl rfl rfl rfl ?_ | refine WJ.yw rfl (zc rfl rfl rfl) rfl (fun _ _=>Yld.add rfl rfl (by simp only [In]; omega)) ?_ | refine WJ.yw rfl (zc rfl rfl rfl) rfl (fun _ _=>Yld.sub rfl rfl (by simp only [In]; omega)) ?_ | refine WJ.yw rfl (zc rfl rfl rfl) rfl (fun _ _=>Yld.mul rfl rfl (by simp only [In]; omega)) ?_ | refine WJ.yw rfl (zc rfl rfl rfl) rfl (fun _ _=>Yld.convB za rfl rfl rfl rfl) ?_ | refine WJ.yw rfl (zc rfl rfl rfl) rfl (fun _ _=>Yld.conv za rfl rfl rfl (by simp only [In]; omega)) ?_ | refine WJ.yw rfl (zc rfl rfl rfl) rfl (fun _ _=>Yld.quo rfl rfl (by omega) (by omega) (by simp only [In]; omega)) ?_ | refine WJ.yw rfl (zc rfl rfl rfl) rfl (fun _ _=>Yld.rem rfl rfl (by omega) (by omega)) ?_ | refine WJ.yw rfl (zc rfl rfl rfl) rfl (fun _ _=>Yld.shl rfl rfl (by omega)) ?_ | refine WJ.yw rfl (zc rfl rfl rfl) rfl (fun _ _=>Yld.shr rfl rfl (by omega)) ?_ | refine WJ.yw rfl (zc rfl rfl rfl) rfl (fun _ _=>Yld.pure za rfl) ?_)
  rw [hjt]
  refine WJ.eff rfl (Ef0.ostore (v:=ys.getD (xs.length - 1 - i) 0) one5 One.b hO2 rfl rfl (by omega)) (fun w' _=>DD.past (by kernel_rfl)) ?_
  rintro w3 ⟨hO3,hg3⟩
  repeat (first | refine WJ.y rfl rfl (fun _ _=>Yld.iaddrNW za hR2 rfl rfl hyl.symm rfl (by omega)) ?_ | refine WJ.y rfl rfl (fun _ _=>Yld.iaddrW za hR2 rfl rfl hyl.symm rfl (by omega) (by omega)) ?_ | refine WJ.y rfl rfl (fun _ _=>Yld.add rfl rfl (by simp only [In]; omega)) ?_ | refine WJ.y rfl rfl (fun _ _=>Yld.sub rfl rfl (by simp only [In]; omega)) ?_ | refine WJ.y rfl rfl (fun _ _=>Yld.mul rfl rfl (by simp only [In]; omega)) ?_ | refine WJ.y rfl rfl (fun _ _=>Yld.convB za rfl rfl rfl rfl) ?_ | refine WJ.y rfl rfl (fun _ _=>Yld.conv za rfl rfl rfl (by simp only [In]; omega)) ?_ | refine WJ.y rfl rfl (fun _ _=>Yld.quo rfl rfl (by omega) (by omega) (by simp only [In]; omega)) ?_ | refine WJ.y rfl rfl (fun _ _=>Yld.rem rfl rfl (by omega) (by omega)) ?_ | refine WJ.y rfl rfl (fun _ _=>Yld.shl rfl rfl (by omega)) ?_ | refine WJ.y rfl rfl (fun _ _=>Yld.shr rfl rfl (by omega)) ?_ | refine WJ.y rfl rfl (fun _ _=>Yld.pure za rfl) ?_ | refine WJ.y rfl rfl (fun _ _=>Yld.fld zb rfl rfl rfl) ?_ | refine WJ.y rfl rfl (fun _ _=>Yld.max2 rfl rfl) ?_ | refine WJ.y rfl rfl (fun _ _=>Yld.min2 rfl rfl) ?_ | refine WJ.y rfl rfl (fun _ _=>Yld.pickV rfl rfl rfl) ?_ | refine WJ.no rfl rfl rfl rfl ?_ | refine WJ.gun rfl rfl rfl rfl ?_ | refine WJ.yw rfl (zc rfl rfl rfl) rfl (fun _ _=>Yld.add rfl rfl (by simp only [In]; omega)) ?_ | refine WJ.yw rfl (zc rfl rfl rfl) rfl (fun _ _=>Yld.sub rfl rfl (by simp only [In]; omega)) ?_ | refine WJ.yw rfl (zc rfl rfl rfl) rfl (fun _ _=>Yld.mul rfl rfl (by simp only [In]; omega)) ?_ | refine WJ.yw rfl (zc rfl rfl rfl) rfl (fun _ _=>Yld.convB za rfl rfl rfl rfl) ?_ | refine WJ.yw rfl (zc rfl rfl rfl) rfl (fun _ _=>Yld.conv za rfl rfl rfl (by simp only [In]; omega)) ?_ | refine WJ.yw rfl (zc rfl rfl rfl) rfl (fun _ _=>Yld.quo rfl rfl (by omega) (by omega) (by simp only [In]; omega)) ?_ | refine WJ.yw rfl (zc rfl rfl rfl) rfl (fun _ _=>Yld.rem rfl rfl (by omega) (by omega)) ?_ | refine WJ.yw rfl (zc rfl rfl rfl) rfl (fun _ _=>Yld.shl rfl rfl (by omega)) ?_ | refine WJ.yw rfl (zc rfl rfl rfl) rfl (fun _ _=>Yld.shr rfl rfl (by omega)) ?_ | refine WJ.yw rfl (zc rfl rfl rfl) rfl (fun _ _=>Yld.pure za rfl) ?_)
  rw [hjt]
  refine WJ.eff rfl (Ef0.ostore (v:=ys.getD i 0) one5 One.b hO3 rfl rfl (by simp; omega)) (fun w' _=>DD.past (by kernel_rfl)) ?_
  rintro w4 ⟨hO4,hg4⟩
  refine WJ.nil ?_
  repeat (first | refine WC.seq ?_ | refine WC.block ?_ | refine WC.region ?_ | refine WL.nil ?_ | refine WX.then_normal ?_ | refine WC.skip ?_ | refine WC.exit ?_ | refine WC.ret ?_ | refine WX.then_exit ?_ | refine WX.then_ret ?_ | refine WX.block_normal ?_ | refine WX.block_ret ?_ | refine WX.block_same ?_ | refine WX.block_other rfl ?_ | refine WC.label ?_ | refine WC.scope ?_ | refine WX.scope_normal ?_ | refine WX.scope_ret ?_ | refine WX.scope_exit ?_ | refine WL.y rfl (Yld.add rfl rfl (by simp only [In]; omega)) ?_ | refine WL.y rfl (Yld.sub rfl rfl (by simp only [In]; omega)) ?_ | refine WL.y rfl (Yld.mul rfl rfl (by simp only [In]; omega)) ?_ | refine WL.y rfl (Yld.convB za rfl rfl rfl rfl) ?_ | refine WL.y rfl (Yld.conv za rfl rfl rfl (by simp only [In]; omega)) ?_ | refine WL.y rfl (Yld.quo rfl rfl (by omega) (by omega) (by simp only [In]; omega)) ?_ | refine WL.y rfl (Yld.rem rfl rfl (by omega) (by omega)) ?_ | refine WL.y rfl (Yld.shl rfl rfl (by omega)) ?_ | refine WL.y rfl (Yld.shr rfl rfl (by omega)) ?_ | refine WL.y rfl (Yld.pure za rfl) ?_ | refine WL.y rfl (Yld.fld zb rfl rfl rfl) ?_ | refine WL.y rfl (Yld.max2 rfl rfl) ?_ | refine WL.y rfl (Yld.min2 rfl rfl) ?_ | refine WL.y rfl (Yld.pickV rfl rfl rfl) ?_ | refine WL.gno rfl rfl rfl rfl ?_ | refine WL.gyes rfl rfl rfl rfl (Yld.add rfl rfl (by simp only [In]; omega)) ?_ | refine WL.gyes rfl rfl rfl rfl (Yld.sub rfl rfl (by simp only [In]; omega)) ?_ | refine WL.gyes rfl rfl rfl rfl (Yld.mul rfl rfl (by simp only [In]; omega)) ?_ | refine WL.gyes rfl rfl rfl rfl (Yld.convB za rfl rfl rfl rfl) ?_ | refine WL.gyes rfl rfl rfl rfl (Yld.conv za rfl rfl rfl (by simp only [In]; omega)) ?_ | refine WL.gyes rfl rfl rfl rfl (Yld.quo rfl rfl (by omega) (by omega) (by simp only [In]; omega)) ?_ | refine WL.gyes rfl rfl rfl rfl (Yld.rem rfl rfl (by omega) (by omega)) ?_ | refine WL.gyes rfl rfl rfl rfl (Yld.shl rfl rfl (by omega)) ?_ | refine WL.gyes rfl rfl rfl rfl (Yld.shr rfl rfl (by omega)) ?_ | refine WL.gyes rfl rfl rfl rfl (Yld.pure za rfl) ?_ | refine WL.gyes rfl rfl rfl rfl (Yld.fld zb rfl rfl rfl) ?_ | refine WL.gyes rfl rfl rfl rfl (Yld.max2 rfl rfl) ?_ | refine WL.gyes rfl rfl rfl rfl (Yld.min2 rfl rfl) ?_ | refine WL.gyes rfl rfl rfl rfl (Yld.pickV rfl rfl rfl) ?_)
  have e1:(i:Int)+1=((i+1:Nat):Int):=by omega
  have e2:(xs.length:Int) - 1 - (i:Int) - 1=(xs.length:Int) - 1 - ((i+1:Nat):Int):=by omega
  rw [e1,e2]
  refine WX.round2 (i+1) ((ys.set i (ys.getD (xs.length - 1 - i) 0)).set (xs.length - 1 - i) (ys.getD i 0)) ⟨by simp [hyl],by omega,fun t ht=>?_,hO4,gr_row (gr_row hg2 hg3) hg4⟩ (by omega) (by repeat (first | exact Sub.nil | refine Sub.cons rfl ?_))
  have hy1:=hy i (by omega)
  have hy2:=hy (xs.length - 1 - i) (by omega)
  rw [if_neg (by omega)] at hy1 hy2
  rcases Classical.em (xs.length - 1 - i=t) with et | et
  ·subst et
   rw [getD_set_eqB _ _ _ (by simp; omega),if_pos (by omega),hy1]
   congr 1; omega
  ·rw [getD_set_neB _ _ _ _ et]
   rcases Classical.em (i=t) with et2 | et2
   ·subst et2
    rw [getD_set_eqB _ _ _ (by omega),if_pos (by omega),hy2]
   ·rw [getD_set_neB _ _ _ _ et2,hy t ht]
    by_cases hc:t<i∨xs.length - i≤t
    ·rw [if_pos hc,if_pos (by omega)]
    ·rw [if_neg hc,if_neg (by omega)]
 ·simp only [decide_eq_false_iff_not] at h
  repeat (first | refine WC.seq ?_ | refine WC.block ?_ | refine WC.region ?_ | refine WL.nil ?_ | refine WX.then_normal ?_ | refine WC.skip ?_ | refine WC.exit ?_ | refine WC.ret ?_ | refine WX.then_exit ?_ | refine WX.then_ret ?_ | refine WX.block_normal ?_ | refine WX.block_ret ?_ | refine WX.block_same ?_ | refine WX.block_other rfl ?_ | refine WC.label ?_ | refine WC.scope ?_ | refine WX.scope_normal ?_ | refine WX.scope_ret ?_ | refine WX.scope_exit ?_ | refine WL.y rfl (Yld.add rfl rfl (by simp only [In]; omega)) ?_ | refine WL.y rfl (Yld.sub rfl rfl (by simp only [In]; omega)) ?_ | refine WL.y rfl (Yld.mul rfl rfl (by simp only [In]; omega)) ?_ | refine WL.y rfl (Yld.convB za rfl rfl rfl rfl) ?_ | refine WL.y rfl (Yld.conv za rfl rfl rfl (by simp only [In]; omega)) ?_ | refine WL.y rfl (Yld.quo rfl rfl (by omega) (by omega) (by simp only [In]; omega)) ?_ | refine WL.y rfl (Yld.rem rfl rfl (by omega) (by omega)) ?_ | refine WL.y rfl (Yld.shl rfl rfl (by omega)) ?_ | refine WL.y rfl (Yld.shr rfl rfl (by omega)) ?_ | refine WL.y rfl (Yld.pure za rfl) ?_ | refine WL.y rfl (Yld.fld zb rfl rfl rfl) ?_ | refine WL.y rfl (Yld.max2 rfl rfl) ?_ | refine WL.y rfl (Yld.min2 rfl rfl) ?_ | refine WL.y rfl (Yld.pickV rfl rfl rfl) ?_ | refine WL.gno rfl rfl rfl rfl ?_ | refine WL.gyes rfl rfl rfl rfl (Yld.add rfl rfl (by simp only [In]; omega)) ?_ | refine WL.gyes rfl rfl rfl rfl (Yld.sub rfl rfl (by simp only [In]; omega)) ?_ | refine WL.gyes rfl rfl rfl rfl (Yld.mul rfl rfl (by simp only [In]; omega)) ?_ | refine WL.gyes rfl rfl rfl rfl (Yld.convB za rfl rfl rfl rfl) ?_ | refine WL.gyes rfl rfl rfl rfl (Yld.conv za rfl rfl rfl (by simp only [In]; omega)) ?_ | refine WL.gyes rfl rfl rfl rfl (Yld.quo rfl rfl (by omega) (by omega) (by simp only [In]; omega)) ?_ | refine WL.gyes rfl rfl rfl rfl (Yld.rem rfl rfl (by omega) (by omega)) ?_ | refine WL.gyes rfl rfl rfl rfl (Yld.shl rfl rfl (by omega)) ?_ | refine WL.gyes rfl rfl rfl rfl (Yld.shr rfl rfl (by omega)) ?_ | refine WL.gyes rfl rfl rfl rfl (Yld.pure za rfl) ?_ | refine WL.gyes rfl rfl rfl rfl (Yld.fld zb rfl rfl rfl) ?_ | refine WL.gyes rfl rfl rfl rfl (Yld.max2 rfl rfl) ?_ | refine WL.gyes rfl rfl rfl rfl (Yld.min2 rfl rfl) ?_ | refine WL.gyes rfl rfl rfl rfl (Yld.pickV rfl rfl rfl) ?_)
  have e:=rev_end xs ys i hyl (by omega) hy
  subst e
  exact WX.end0 rfl ⟨rfl,hO2,hg2⟩
end Go.Proofs.YtjjcdkfhaceicaaGreatDoor
 namespace Go.Proofs.YtjjcdkfhaceicaaGreatDoor
open Go Go.RowKit
attribute [local irreducible] WL WC WX WQ WK WJ Yld Eff Ef0 Fn
set_option maxHeartbeats 2000000 in
theorem text_fn (v:Value) (x:Int) (m:Nat) (w:World) (hN:Nm w v x m) (hm:m≤90000):Fn Tryz.prog 48 ⟨[v]⟩ w fun r w'=>r=vs (txt x)∧w.grownBy w' none:=by
 obtain ⟨neg,A,c,l,rfl,hR,hD,hC,hl,hn,hz⟩:=hN
 refine Fn.enter (by kernel_rfl) Tryz.func48 rfl Tryz.ntmps48 rfl ?_
 repeat (first | refine WC.seq ?_ | refine WC.block ?_ | refine WC.region ?_ | refine WL.nil ?_ | refine WX.then_normal ?_ | refine WC.skip ?_ | refine WC.exit ?_ | refine WC.ret ?_ | refine WX.then_exit ?_ | refine WX.then_ret ?_ | refine WX.block_normal ?_ | refine WX.block_ret ?_ | refine WX.block_same ?_ | refine WX.block_other rfl ?_ | refine WC.label ?_ | refine WC.scope ?_ | refine WX.scope_normal ?_ | refine WX.scope_ret ?_ | refine WX.scope_exit ?_ | refine WL.y rfl (Yld.add rfl rfl (by simp only [In]; omega)) ?_ | refine WL.y rfl (Yld.sub rfl rfl (by simp only [In]; omega)) ?_ | refine WL.y rfl (Yld.convB za rfl rfl rfl rfl) ?_ | refine WL.y rfl (Yld.conv za rfl rfl rfl (by simp only [In]; omega)) ?_ | refine WL.y rfl (Yld.quo rfl rfl (by omega) (by omega) (by simp only [In]; omega)) ?_ | refine WL.y rfl (Yld.rem rfl rfl (by omega) (by omega)) ?_ | refine WL.y rfl (Yld.pure za rfl) ?_ | refine WL.y rfl (Yld.pickV rfl rfl rfl) ?_ | refine WL.gno rfl rfl rfl rfl ?_ | refine WL.gyes rfl rfl rfl rfl (Yld.sub rfl rfl (by simp only [In]; omega)) ?_ | refine WL.gyes rfl rfl rfl rfl (Yld.pure za rfl) ?_ | refine WL.gyes rfl rfl rfl rfl (Yld.pickV rfl rfl rfl) ?_)
 refine WL.box (us:=[.bool neg,.slice A l.length c]) rfl rfl rfl (fun g1 w1 hB1 hg1 hl1=>?_)
 repeat (first | refine WL.y rfl (Yld.bload za hB1 rfl rfl rfl) ?_ | refine WC.seq ?_ | refine WC.block ?_ | refine WC.region ?_ | refine WL.nil ?_ | refine WX.then_normal ?_ | refine WC.skip ?_ | refine WC.exit ?_ | refine WC.ret ?_ | refine WX.then_exit ?_ | refine WX.then_ret ?_ | refine WX.block_normal ?_ | refine WX.block_ret ?_ | refine WX.block_same ?_ | refine WX.block_other rfl ?_ | refine WC.label ?_ | refine WC.scope ?_ | refine WX.scope_normal ?_ | refine WX.scope_ret ?_ | refine WX.scope_exit ?_ | refine WL.y rfl (Yld.add rfl rfl (by simp only [In]; omega)) ?_ | refine WL.y rfl (Yld.sub rfl rfl (by simp only [In]; omega)) ?_ | refine WL.y rfl (Yld.convB za rfl rfl rfl rfl) ?_ | refine WL.y rfl (Yld.conv za rfl rfl rfl (by simp only [In]; omega)) ?_ | refine WL.y rfl (Yld.quo rfl rfl (by omega) (by omega) (by simp only [In]; omega)) ?_ | refine WL.y rfl (Yld.rem rfl rfl (by omega) (by omega)) ?_ | refine WL.y rfl (Yld.pure za rfl) ?_ | refine WL.y rfl (Yld.pickV rfl rfl rfl) ?_ | refine WL.gno rfl rfl rfl rfl ?_ | refine WL.gyes rfl rfl rfl rfl (Yld.sub rfl rfl (by simp only [In]; omega)) ?_ | refine WL.gyes rfl rfl rfl rfl (Yld.pure za rfl) ?_ | refine WL.gyes rfl rfl rfl rfl (Yld.pickV rfl rfl rfl) ?_)
 refine WC.cond rfl (fun h=>?_) (fun h=>?_)
 ·simp only [decide_eq_true_eq] at h
  have hl0:l=[]:=List.length_eq_zero_iff.mp (by omega)
  have hx0:x=0:=by subst hl0; cases neg <;> simpa [val] using hz
  repeat (first | refine WC.seq ?_ | refine WC.block ?_ | refine WC.region ?_ | refine WL.nil ?_ | refine WX.then_normal ?_ | refine WC.skip ?_ | refine WC.exit ?_ | refine WC.ret ?_ | refine WX.then_exit ?_ | refine WX.then_ret ?_ | refine WX.block_normal ?_ | refine WX.block_ret ?_ | refine WX.block_same ?_ | refine WX.block_other rfl ?_ | refine WC.label ?_ | refine WC.scope ?_ | refine WX.scope_normal ?_ | refine WX.scope_ret ?_ | refine WX.scope_exit ?_ | refine WL.y rfl (Yld.add rfl rfl (by simp only [In]; omega)) ?_ | refine WL.y rfl (Yld.sub rfl rfl (by simp only [In]; omega)) ?_ | refine WL.y rfl (Yld.convB za rfl rfl rfl rfl) ?_ | refine WL.y rfl (Yld.conv za rfl rfl rfl (by simp only [In]; omega)) ?_ | refine WL.y rfl (Yld.quo rfl rfl (by omega) (by omega) (by simp only [In]; omega)) ?_ | refine WL.y rfl (Yld.rem rfl rfl (by omega) (by omega)) ?_ | refine WL.y rfl (Yld.pure za rfl) ?_ | refine WL.y rfl (Yld.pickV rfl rfl rfl) ?_ | refine WL.gno rfl rfl rfl rfl ?_ | refine WL.gyes rfl rfl rfl rfl (Yld.sub rfl rfl (by simp only [In]; omega)) ?_ | refine WL.gyes rfl rfl rfl rfl (Yld.pure za rfl) ?_ | refine WL.gyes rfl rfl rfl rfl (Yld.pickV rfl rfl rfl) ?_)
  exact WX.ret1 rfl rfl ⟨by rw [hx0]; rfl,hg1⟩
 ·simp only [decide_eq_false_iff_not] at h
  have hl0:l≠[]:=fun e=>h (by rw [e]; rfl)
  have hpos:=val_pos hC hl0
  have hx0:x≠0:=by cases neg <;> simp at hz <;> omega
  have hR1:=hR.grown hg1
  repeat (first | refine WL.y rfl (Yld.bload za hB1 rfl rfl rfl) ?_ | refine WC.seq ?_ | refine WC.block ?_ | refine WC.region ?_ | refine WL.nil ?_ | refine WX.then_normal ?_ | refine WC.skip ?_ | refine WC.exit ?_ | refine WC.ret ?_ | refine WX.then_exit ?_ | refine WX.then_ret ?_ | refine WX.block_normal ?_ | refine WX.block_ret ?_ | refine WX.block_same ?_ | refine WX.block_other rfl ?_ | refine WC.label ?_ | refine WC.scope ?_ | refine WX.scope_normal ?_ | refine WX.scope_ret ?_ | refine WX.scope_exit ?_ | refine WL.y rfl (Yld.add rfl rfl (by simp only [In]; omega)) ?_ | refine WL.y rfl (Yld.sub rfl rfl (by simp only [In]; omega)) ?_ | refine WL.y rfl (Yld.convB za rfl rfl rfl rfl) ?_ | refine WL.y rfl (Yld.conv za rfl rfl rfl (by simp only [In]; omega)) ?_ | refine WL.y rfl (Yld.quo rfl rfl (by omega) (by omega) (by simp only [In]; omega)) ?_ | refine WL.y rfl (Yld.rem rfl rfl (by omega) (by omega)) ?_ | refine WL.y rfl (Yld.pure za rfl) ?_ | refine WL.y rfl (Yld.pickV rfl rfl rfl) ?_ | refine WL.gno rfl rfl rfl rfl ?_ | refine WL.gyes rfl rfl rfl rfl (Yld.sub rfl rfl (by simp only [In]; omega)) ?_ | refine WL.gyes rfl rfl rfl rfl (Yld.pure za rfl) ?_ | refine WL.gyes rfl rfl rfl rfl (Yld.pickV rfl rfl rfl) ?_)
  refine WC.loop4 (S1:=Nat) (S2:=List UInt8) (S3:=Option Addr) (S4:=Nat) (fun i _ _ _=>l.length - i)
   (fun i b A' c'=>[(14,vi i),(13,.int .i64 (l.length:Int)),(12,.slice A l.length c),(3,.slice A' b.length c'),(1,.pointer (some ⟨g1,0,none⟩))])
   (fun i b A' c' w2=>i≤l.length∧b++dd (val (l.drop i))=dd (val l)∧b.length≤9*i∧Own vb w2 w1.heap.size 5 A' c' b∧w1.grownBy w2 none) 0 [] none 0 ⟨by omega,rfl,by simp,Own.nil _ _ _ _,zN _ _⟩ (by repeat (first | exact Sub.nil | refine Sub.cons rfl ?_)) (fun i b A' c' w2 ⟨hi,hb,hbl,hO,hg2⟩=>?_)
  have hR2:=hR1.grown hg2
  repeat (first | refine WC.seq ?_ | refine WC.block ?_ | refine WC.region ?_ | refine WL.nil ?_ | refine WX.then_normal ?_ | refine WC.skip ?_ | refine WC.exit ?_ | refine WC.ret ?_ | refine WX.then_exit ?_ | refine WX.then_ret ?_ | refine WX.block_normal ?_ | refine WX.block_ret ?_ | refine WX.block_same ?_ | refine WX.block_other rfl ?_ | refine WC.label ?_ | refine WC.scope ?_ | refine WX.scope_normal ?_ | refine WX.scope_ret ?_ | refine WX.scope_exit ?_ | refine WL.y rfl (Yld.add rfl rfl (by simp only [In]; omega)) ?_ | refine WL.y rfl (Yld.sub rfl rfl (by simp only [In]; omega)) ?_ | refine WL.y rfl (Yld.convB za rfl rfl rfl rfl) ?_ | refine WL.y rfl (Yld.conv za rfl rfl rfl (by simp only [In]; omega)) ?_ | refine WL.y rfl (Yld.quo rfl rfl (by omega) (by omega) (by simp only [In]; omega)) ?_ | refine WL.y rfl (Yld.rem rfl rfl (by omega) (by omega)) ?_ | refine WL.y rfl (Yld.pure za rfl) ?_ | refine WL.y rfl (Yld.pickV rfl rfl rfl) ?_ | refine WL.gno rfl rfl rfl rfl ?_ | refine WL.gyes rfl rfl rfl rfl (Yld.sub rfl rfl (by simp only [In]; omega)) ?_ | refine WL.gyes rfl rfl rfl rfl (Yld.pure za rfl) ?_ | refine WL.gyes rfl rfl rfl rfl (Yld.pickV rfl rfl rfl) ?_)
  refine WC.cond rfl (fun h=>?_) (fun h=>?_)
  ·simp only [decide_eq_true_eq] at h
   have hxi:=hD i
   have hdc:=drop_cons' l i (by omega)
   have hyy:i+1<l.length↔0<val (l.drop (i+1)):=by
    have:=drop_pos hC (i+1)
    omega
   repeat (first | refine WL.y rfl (Yld.iaddrN za hR2 rfl rfl rfl rfl (by omega)) ?_ | refine WL.y rfl (Yld.iload 0 za hR2 rfl rfl (by omega)) ?_ | refine WC.seq ?_ | refine WC.block ?_ | refine WC.region ?_ | refine WL.nil ?_ | refine WX.then_normal ?_ | refine WC.skip ?_ | refine WC.exit ?_ | refine WC.ret ?_ | refine WX.then_exit ?_ | refine WX.then_ret ?_ | refine WX.block_normal ?_ | refine WX.block_ret ?_ | refine WX.block_same ?_ | refine WX.block_other rfl ?_ | refine WC.label ?_ | refine WC.scope ?_ | refine WX.scope_normal ?_ | refine WX.scope_ret ?_ | refine WX.scope_exit ?_ | refine WL.y rfl (Yld.add rfl rfl (by simp only [In]; omega)) ?_ | refine WL.y rfl (Yld.sub rfl rfl (by simp only [In]; omega)) ?_ | refine WL.y rfl (Yld.convB za rfl rfl rfl rfl) ?_ | refine WL.y rfl (Yld.conv za rfl rfl rfl (by simp only [In]; omega)) ?_ | refine WL.y rfl (Yld.quo rfl rfl (by omega) (by omega) (by simp only [In]; omega)) ?_ | refine WL.y rfl (Yld.rem rfl rfl (by omega) (by omega)) ?_ | refine WL.y rfl (Yld.pure za rfl) ?_ | refine WL.y rfl (Yld.pickV rfl rfl rfl) ?_ | refine WL.gno rfl rfl rfl rfl ?_ | refine WL.gyes rfl rfl rfl rfl (Yld.sub rfl rfl (by simp only [In]; omega)) ?_ | refine WL.gyes rfl rfl rfl rfl (Yld.pure za rfl) ?_ | refine WL.gyes rfl rfl rfl rfl (Yld.pickV rfl rfl rfl) ?_)
   generalize l.getD i 0=d at *
   generalize hY:val (l.drop (i+1))=y at *
   refine WC.loop5 (S1:=Nat) (S2:=Nat) (S3:=List UInt8) (S4:=Option Addr) (S5:=Nat) (fun k _ _ _ _=>9 - k)
    (fun k v b A' c'=>[(6,vi k),(5,vd v),(4,vi i),(14,vi i),(13,.int .i64 (l.length:Int)),(12,.slice A l.length c),(3,.slice A' b.length c'),(1,.pointer (some ⟨g1,0,none⟩))])
    (fun k v b A' c' w3=>k≤9∧v<10 ^ (9 - k)∧b++rest k v y=dd (val l)∧b.length≤9*i+k∧Own vb w3 w1.heap.size 5 A' c' b∧w1.grownBy w3 none) 0 d b A' c' ⟨by omega,by omega,by rw [←rest_start d y hxi,←hdc]; exact hb,by omega,hO,hg2⟩ (by repeat (first | exact Sub.nil | refine Sub.cons rfl ?_)) (fun k v b A' c' w3 ⟨hk,hv,hb3,hbl3,hO3,hg3⟩=>?_)
   have hB3:=hB1.keep hg3 (by simp)
   refine WC.seq ?_
   refine WC.seqW [(32,.bool (decide (k<9∧(0<v∨0<y)))),(6,vi k),(5,vd v),(4,vi i),(14,vi i),(13,.int .i64 (l.length:Int)),(12,.slice A l.length c),(3,.slice A' b.length c'),(1,.pointer (some ⟨g1,0,none⟩))] (fun Q' hQ=>?_) ?_
   ·repeat (first | refine WC.seq ?_ | refine WC.block ?_ | refine WC.region ?_ | refine WL.nil ?_ | refine WX.then_normal ?_ | refine WC.skip ?_ | refine WC.exit ?_ | refine WC.ret ?_ | refine WX.then_exit ?_ | refine WX.then_ret ?_ | refine WX.block_normal ?_ | refine WX.block_ret ?_ | refine WX.block_same ?_ | refine WX.block_other rfl ?_ | refine WC.label ?_ | refine WC.scope ?_ | refine WX.scope_normal ?_ | refine WX.scope_ret ?_ | refine WX.scope_exit ?_ | refine WL.y rfl (Yld.add rfl rfl (by simp only [In]; omega)) ?_ | refine WL.y rfl (Yld.sub rfl rfl (by simp only [In]; omega)) ?_ | refine WL.y rfl (Yld.convB za rfl rfl rfl rfl) ?_ | refine WL.y rfl (Yld.conv za rfl rfl rfl (by simp only [In]; omega)) ?_ | refine WL.y rfl (Yld.quo rfl rfl (by omega) (by omega) (by simp only [In]; omega)) ?_ | refine WL.y rfl (Yld.rem rfl rfl (by omega) (by omega)) ?_ | refine WL.y rfl (Yld.pure za rfl) ?_ | refine WL.y rfl (Yld.pickV rfl rfl rfl) ?_ | refine WL.gno rfl rfl rfl rfl ?_ | refine WL.gyes rfl rfl rfl rfl (Yld.sub rfl rfl (by simp only [In]; omega)) ?_ | refine WL.gyes rfl rfl rfl rfl (Yld.pure za rfl) ?_ | refine WL.gyes rfl rfl rfl rfl (Yld.pickV rfl rfl rfl) ?_)
    rcases Nat.lt_or_ge k 9 with h9 | h9
    ·have e9:decide ((k:Int)<9)=true:=by simp; omega
     rw [e9]
     repeat (first | refine WL.gyes rfl rfl rfl rfl (Yld.bload za hB3 rfl rfl rfl) ?_ | refine WC.seq ?_ | refine WC.block ?_ | refine WC.region ?_ | refine WL.nil ?_ | refine WX.then_normal ?_ | refine WC.skip ?_ | refine WC.exit ?_ | refine WC.ret ?_ | refine WX.then_exit ?_ | refine WX.then_ret ?_ | refine WX.block_normal ?_ | refine WX.block_ret ?_ | refine WX.block_same ?_ | refine WX.block_other rfl ?_ | refine WC.label ?_ | refine WC.scope ?_ | refine WX.scope_normal ?_ | refine WX.scope_ret ?_ | refine WX.scope_exit ?_ | refine WL.y rfl (Yld.add rfl rfl (by simp only [In]; omega)) ?_ | refine WL.y rfl (Yld.sub rfl rfl (by simp only [In]; omega)) ?_ | refine WL.y rfl (Yld.convB za rfl rfl rfl rfl) ?_ | refine WL.y rfl (Yld.conv za rfl rfl rfl (by simp only [In]; omega)) ?_ | refine WL.y rfl (Yld.quo rfl rfl (by omega) (by omega) (by simp only [In]; omega)) ?_ | refine WL.y rfl (Yld.rem rfl rfl (by omega) (by omega)) ?_ | refine WL.y rfl (Yld.pure za rfl) ?_ | refine WL.y rfl (Yld.pickV rfl rfl rfl) ?_ | refine WL.gno rfl rfl rfl rfl ?_ | refine WL.gyes rfl rfl rfl rfl (Yld.sub rfl rfl (by simp only [In]; omega)) ?_ | refine WL.gyes rfl rfl rfl rfl (Yld.pure za rfl) ?_ | refine WL.gyes rfl rfl rfl rfl (Yld.pickV rfl rfl rfl) ?_)
     rcases Nat.lt_or_ge (i+1) l.length with h8 | h8
     ·have e8:decide ((i:Int)<(l.length:Int) - 1)=true:=by simp; omega
      have ee:decide (k<9∧(0<v∨0<y))=true:=decide_eq_true ⟨h9,.inr (hyy.mp h8)⟩
      rw [e8]
      rw [ee] at hQ
      repeat (first | refine WC.seq ?_ | refine WC.block ?_ | refine WC.region ?_ | refine WL.nil ?_ | refine WX.then_normal ?_ | refine WC.skip ?_ | refine WC.exit ?_ | refine WC.ret ?_ | refine WX.then_exit ?_ | refine WX.then_ret ?_ | refine WX.block_normal ?_ | refine WX.block_ret ?_ | refine WX.block_same ?_ | refine WX.block_other rfl ?_ | refine WC.label ?_ | refine WC.scope ?_ | refine WX.scope_normal ?_ | refine WX.scope_ret ?_ | refine WX.scope_exit ?_ | refine WL.y rfl (Yld.add rfl rfl (by simp only [In]; omega)) ?_ | refine WL.y rfl (Yld.sub rfl rfl (by simp only [In]; omega)) ?_ | refine WL.y rfl (Yld.convB za rfl rfl rfl rfl) ?_ | refine WL.y rfl (Yld.conv za rfl rfl rfl (by simp only [In]; omega)) ?_ | refine WL.y rfl (Yld.quo rfl rfl (by omega) (by omega) (by simp only [In]; omega)) ?_ | refine WL.y rfl (Yld.rem rfl rfl (by omega) (by omega)) ?_ | refine WL.y rfl (Yld.pure za rfl) ?_ | refine WL.y rfl (Yld.pickV rfl rfl rfl) ?_ | refine WL.gno rfl rfl rfl rfl ?_ | refine WL.gyes rfl rfl rfl rfl (Yld.sub rfl rfl (by simp only [In]; omega)) ?_ | refine WL.gyes rfl rfl rfl rfl (Yld.pure za rfl) ?_ | refine WL.gyes rfl rfl rfl rfl (Yld.pickV rfl rfl rfl) ?_ | refine WL.gun rfl rfl rfl rfl ?_)
      exact WX.weaken (by repeat (first | exact Sub.nil | refine Sub.cons rfl ?_)) hQ
     ·have e8:decide ((i:Int)<(l.length:Int) - 1)=false:=by simp; omega
      have hy0:¬ 0<y:=fun e=>by have:=hyy.mpr e; omega
      have ee:decide (k<9∧(0<v∨0<y))=decide ((0:Int)<(v:Int)):=by
       rw [decide_eq_decide]; omega
      rw [e8]
      rw [ee] at hQ
      repeat (first | refine WC.seq ?_ | refine WC.block ?_ | refine WC.region ?_ | refine WL.nil ?_ | refine WX.then_normal ?_ | refine WC.skip ?_ | refine WC.exit ?_ | refine WC.ret ?_ | refine WX.then_exit ?_ | refine WX.then_ret ?_ | refine WX.block_normal ?_ | refine WX.block_ret ?_ | refine WX.block_same ?_ | refine WX.block_other rfl ?_ | refine WC.label ?_ | refine WC.scope ?_ | refine WX.scope_normal ?_ | refine WX.scope_ret ?_ | refine WX.scope_exit ?_ | refine WL.y rfl (Yld.add rfl rfl (by simp only [In]; omega)) ?_ | refine WL.y rfl (Yld.sub rfl rfl (by simp only [In]; omega)) ?_ | refine WL.y rfl (Yld.convB za rfl rfl rfl rfl) ?_ | refine WL.y rfl (Yld.conv za rfl rfl rfl (by simp only [In]; omega)) ?_ | refine WL.y rfl (Yld.quo rfl rfl (by omega) (by omega) (by simp only [In]; omega)) ?_ | refine WL.y rfl (Yld.rem rfl rfl (by omega) (by omega)) ?_ | refine WL.y rfl (Yld.pure za rfl) ?_ | refine WL.y rfl (Yld.pickV rfl rfl rfl) ?_ | refine WL.gno rfl rfl rfl rfl ?_ | refine WL.gyes rfl rfl rfl rfl (Yld.sub rfl rfl (by simp only [In]; omega)) ?_ | refine WL.gyes rfl rfl rfl rfl (Yld.pure za rfl) ?_ | refine WL.gyes rfl rfl rfl rfl (Yld.pickV rfl rfl rfl) ?_ | refine WL.gun rfl rfl rfl rfl ?_)
      exact WX.weaken (by repeat (first | exact Sub.nil | refine Sub.cons rfl ?_)) hQ
    ·have e9:decide ((k:Int)<9)=false:=by simp; omega
     have ee:decide (k<9∧(0<v∨0<y))=false:=decide_eq_false (by omega)
     rw [e9]
     rw [ee] at hQ
     repeat (first | refine WC.seq ?_ | refine WC.block ?_ | refine WC.region ?_ | refine WL.nil ?_ | refine WX.then_normal ?_ | refine WC.skip ?_ | refine WC.exit ?_ | refine WC.ret ?_ | refine WX.then_exit ?_ | refine WX.then_ret ?_ | refine WX.block_normal ?_ | refine WX.block_ret ?_ | refine WX.block_same ?_ | refine WX.block_other rfl ?_ | refine WC.label ?_ | refine WC.scope ?_ | refine WX.scope_normal ?_ | refine WX.scope_ret ?_ | refine WX.scope_exit ?_ | refine WL.y rfl (Yld.add rfl rfl (by simp only [In]; omega)) ?_ | refine WL.y rfl (Yld.sub rfl rfl (by simp only [In]; omega)) ?_ | refine WL.y rfl (Yld.convB za rfl rfl rfl rfl) ?_ | refine WL.y rfl (Yld.conv za rfl rfl rfl (by simp only [In]; omega)) ?_ | refine WL.y rfl (Yld.quo rfl rfl (by omega) (by omega) (by simp only [In]; omega)) ?_ | refine WL.y rfl (Yld.rem rfl rfl (by omega) (by omega)) ?_ | refine WL.y rfl (Yld.pure za rfl) ?_ | refine WL.y rfl (Yld.pickV rfl rfl rfl) ?_ | refine WL.gno rfl rfl rfl rfl ?_ | refine WL.gyes rfl rfl rfl rfl (Yld.sub rfl rfl (by simp only [In]; omega)) ?_ | refine WL.gyes rfl rfl rfl rfl (Yld.pure za rfl) ?_ | refine WL.gyes rfl rfl rfl rfl (Yld.pickV rfl rfl rfl) ?_ | refine WL.gun rfl rfl rfl rfl ?_)
     exact WX.weaken (by repeat (first | exact Sub.nil | refine Sub.cons rfl ?_)) hQ
   ·repeat (first | refine WC.seq ?_ | refine WC.block ?_ | refine WC.region ?_ | refine WL.nil ?_ | refine WX.then_normal ?_ | refine WC.skip ?_ | refine WC.exit ?_ | refine WC.ret ?_ | refine WX.then_exit ?_ | refine WX.then_ret ?_ | refine WX.block_normal ?_ | refine WX.block_ret ?_ | refine WX.block_same ?_ | refine WX.block_other rfl ?_ | refine WC.label ?_ | refine WC.scope ?_ | refine WX.scope_normal ?_ | refine WX.scope_ret ?_ | refine WX.scope_exit ?_ | refine WL.y rfl (Yld.add rfl rfl (by simp only [In]; omega)) ?_ | refine WL.y rfl (Yld.sub rfl rfl (by simp only [In]; omega)) ?_ | refine WL.y rfl (Yld.convB za rfl rfl rfl rfl) ?_ | refine WL.y rfl (Yld.conv za rfl rfl rfl (by simp only [In]; omega)) ?_ | refine WL.y rfl (Yld.quo rfl rfl (by omega) (by omega) (by simp only [In]; omega)) ?_ | refine WL.y rfl (Yld.rem rfl rfl (by omega) (by omega)) ?_ | refine WL.y rfl (Yld.pure za rfl) ?_ | refine WL.y rfl (Yld.pickV rfl rfl rfl) ?_ | refine WL.gno rfl rfl rfl rfl ?_ | refine WL.gyes rfl rfl rfl rfl (Yld.sub rfl rfl (by simp only [In]; omega)) ?_ | refine WL.gyes rfl rfl rfl rfl (Yld.pure za rfl) ?_ | refine WL.gyes rfl rfl rfl rfl (Yld.pickV rfl rfl rfl) ?_)
    refine WC.cond rfl (fun h'=>?_) (fun h'=>?_)
    ·have h':=of_decide_eq_true h'
     have hst:=rest_step k v y h'.1 h'.2
     have hv32:v<10 ^ 9:=Nat.lt_of_lt_of_le hv (Nat.pow_le_pow_right (by omega) (by omega))
     repeat (first | refine WC.seq ?_ | refine WC.block ?_ | refine WC.region ?_ | refine WL.nil ?_ | refine WX.then_normal ?_ | refine WC.skip ?_ | refine WC.exit ?_ | refine WC.ret ?_ | refine WX.then_exit ?_ | refine WX.then_ret ?_ | refine WX.block_normal ?_ | refine WX.block_ret ?_ | refine WX.block_same ?_ | refine WX.block_other rfl ?_ | refine WC.label ?_ | refine WC.scope ?_ | refine WX.scope_normal ?_ | refine WX.scope_ret ?_ | refine WX.scope_exit ?_ | refine WL.y rfl (Yld.add rfl rfl (by simp only [In]; omega)) ?_ | refine WL.y rfl (Yld.sub rfl rfl (by simp only [In]; omega)) ?_ | refine WL.y rfl (Yld.convB za rfl rfl rfl rfl) ?_ | refine WL.y rfl (Yld.conv za rfl rfl rfl (by simp only [In]; omega)) ?_ | refine WL.y rfl (Yld.quo rfl rfl (by omega) (by omega) (by simp only [In]; omega)) ?_ | refine WL.y rfl (Yld.rem rfl rfl (by omega) (by omega)) ?_ | refine WL.y rfl (Yld.pure za rfl) ?_ | refine WL.y rfl (Yld.pickV rfl rfl rfl) ?_ | refine WL.gno rfl rfl rfl rfl ?_ | refine WL.gyes rfl rfl rfl rfl (Yld.sub rfl rfl (by simp only [In]; omega)) ?_ | refine WL.gyes rfl rfl rfl rfl (Yld.pure za rfl) ?_ | refine WL.gyes rfl rfl rfl rfl (Yld.pickV rfl rfl rfl) ?_)
     have hd:(48:Int)+(v:Int) % 10=((dc v).toNat:Int):=by rw [dc_toNat]; omega
     have hq:(v:Int) / 10=((v / 10:Nat):Int):=by omega
     rw [hd]
     refine WL.lit (us:=[vb (dc v)]) za rfl rfl rfl (by intro u hu; rw [List.mem_singleton] at hu; rw [hu]; rfl) rfl (by omega) (fun g4 w4 hL4 hg4 hl4=>?_)
     have hR4:Rd vb w4 (some ⟨g4,0,none⟩) 1 [dc v]:=Rd.ofBl' hL4 (by simp) (by simp [maxLen])
     have hO4:=hO3.grown hg4
     have hz3:=hg3.size
     have hz4:=hg4.size
     refine WL.append za rfl rfl One.b hO4 rfl rfl hR4 rfl rfl (by simp only [List.length_cons,List.length_nil]; omega) (by simp only [maxLen,List.length_cons,List.length_nil]; omega) (by omega) (fun A5 c5 w5 hO5 hg5 hf5=>?_)
     repeat (first | refine WC.seq ?_ | refine WC.block ?_ | refine WC.region ?_ | refine WL.nil ?_ | refine WX.then_normal ?_ | refine WC.skip ?_ | refine WC.exit ?_ | refine WC.ret ?_ | refine WX.then_exit ?_ | refine WX.then_ret ?_ | refine WX.block_normal ?_ | refine WX.block_ret ?_ | refine WX.block_same ?_ | refine WX.block_other rfl ?_ | refine WC.label ?_ | refine WC.scope ?_ | refine WX.scope_normal ?_ | refine WX.scope_ret ?_ | refine WX.scope_exit ?_ | refine WL.y rfl (Yld.add rfl rfl (by simp only [In]; omega)) ?_ | refine WL.y rfl (Yld.sub rfl rfl (by simp only [In]; omega)) ?_ | refine WL.y rfl (Yld.convB za rfl rfl rfl rfl) ?_ | refine WL.y rfl (Yld.conv za rfl rfl rfl (by simp only [In]; omega)) ?_ | refine WL.y rfl (Yld.quo rfl rfl (by omega) (by omega) (by simp only [In]; omega)) ?_ | refine WL.y rfl (Yld.rem rfl rfl (by omega) (by omega)) ?_ | refine WL.y rfl (Yld.pure za rfl) ?_ | refine WL.y rfl (Yld.pickV rfl rfl rfl) ?_ | refine WL.gno rfl rfl rfl rfl ?_ | refine WL.gyes rfl rfl rfl rfl (Yld.sub rfl rfl (by simp only [In]; omega)) ?_ | refine WL.gyes rfl rfl rfl rfl (Yld.pure za rfl) ?_ | refine WL.gyes rfl rfl rfl rfl (Yld.pickV rfl rfl rfl) ?_)
     rw [hq]
     refine WX.round5 (k+1) (v / 10) (b++[dc v]) A5 c5 ⟨by omega,?_,?_,by simp; omega,hO5,gr_own (zd hg3 hg4) hO4 hg5 (Nat.le_refl _)⟩ (by omega) (by repeat (first | exact Sub.nil | refine Sub.cons rfl ?_))
     ·rw [show 9 - k=(9 - (k+1))+1 by omega,Nat.pow_succ] at hv
      omega
     ·rw [List.append_assoc,←hb3,hst]; rfl
    ·have h':=of_decide_eq_false h'
     have hen:=rest_end k v y hk hv h'
     repeat (first | refine WC.seq ?_ | refine WC.block ?_ | refine WC.region ?_ | refine WL.nil ?_ | refine WX.then_normal ?_ | refine WC.skip ?_ | refine WC.exit ?_ | refine WC.ret ?_ | refine WX.then_exit ?_ | refine WX.then_ret ?_ | refine WX.block_normal ?_ | refine WX.block_ret ?_ | refine WX.block_same ?_ | refine WX.block_other rfl ?_ | refine WC.label ?_ | refine WC.scope ?_ | refine WX.scope_normal ?_ | refine WX.scope_ret ?_ | refine WX.scope_exit ?_ | refine WL.y rfl (Yld.add rfl rfl (by simp only [In]; omega)) ?_ | refine WL.y rfl (Yld.sub rfl rfl (by simp only [In]; omega)) ?_ | refine WL.y rfl (Yld.convB za rfl rfl rfl rfl) ?_ | refine WL.y rfl (Yld.conv za rfl rfl rfl (by simp only [In]; omega)) ?_ | refine WL.y rfl (Yld.quo rfl rfl (by omega) (by omega) (by simp only [In]; omega)) ?_ | refine WL.y rfl (Yld.rem rfl rfl (by omega) (by omega)) ?_ | refine WL.y rfl (Yld.pure za rfl) ?_ | refine WL.y rfl (Yld.pickV rfl rfl rfl) ?_ | refine WL.gno rfl rfl rfl rfl ?_ | refine WL.gyes rfl rfl rfl rfl (Yld.sub rfl rfl (by simp only [In]; omega)) ?_ | refine WL.gyes rfl rfl rfl rfl (Yld.pure za rfl) ?_ | refine WL.gyes rfl rfl rfl rfl (Yld.pickV rfl rfl rfl) ?_)
     refine WX.round4 (i+1) b A' c' ⟨by omega,by rw [hY,←hen]; exact hb3,by omega,hO3,hg3⟩ (by omega) (by repeat (first | exact Sub.nil | refine Sub.cons rfl ?_))
  ·simp only [decide_eq_false_iff_not] at h
   obtain rfl:i=l.length:=by omega
   rw [List.drop_eq_nil_of_le (Nat.le_refl _)] at hb
   have hb':b=dd (val l):=by simpa [val,dd_zero] using hb
   have hB2:=hB1.keep hg2 (by simp)
   repeat (first | refine WL.y rfl (Yld.bload za hB2 rfl rfl rfl) ?_ | refine WC.seq ?_ | refine WC.block ?_ | refine WC.region ?_ | refine WL.nil ?_ | refine WX.then_normal ?_ | refine WC.skip ?_ | refine WC.exit ?_ | refine WC.ret ?_ | refine WX.then_exit ?_ | refine WX.then_ret ?_ | refine WX.block_normal ?_ | refine WX.block_ret ?_ | refine WX.block_same ?_ | refine WX.block_other rfl ?_ | refine WC.label ?_ | refine WC.scope ?_ | refine WX.scope_normal ?_ | refine WX.scope_ret ?_ | refine WX.scope_exit ?_ | refine WL.y rfl (Yld.add rfl rfl (by simp only [In]; omega)) ?_ | refine WL.y rfl (Yld.sub rfl rfl (by simp only [In]; omega)) ?_ | refine WL.y rfl (Yld.convB za rfl rfl rfl rfl) ?_ | refine WL.y rfl (Yld.conv za rfl rfl rfl (by simp only [In]; omega)) ?_ | refine WL.y rfl (Yld.quo rfl rfl (by omega) (by omega) (by simp only [In]; omega)) ?_ | refine WL.y rfl (Yld.rem rfl rfl (by omega) (by omega)) ?_ | refine WL.y rfl (Yld.pure za rfl) ?_ | refine WL.y rfl (Yld.pickV rfl rfl rfl) ?_ | refine WL.gno rfl rfl rfl rfl ?_ | refine WL.gyes rfl rfl rfl rfl (Yld.sub rfl rfl (by simp only [In]; omega)) ?_ | refine WL.gyes rfl rfl rfl rfl (Yld.pure za rfl) ?_ | refine WL.gyes rfl rfl rfl rfl (Yld.pickV rfl rfl rfl) ?_)
   have hval:x.natAbs=val l:=by cases neg <;> simp at hz <;> omega
   refine WC.mergeW (S:=List UInt8 × Option Addr × Nat) (fun s=>[(3,.slice s.2.1 s.1.length s.2.2)]) (fun s w'=>s.1=dd (val l)++(if x<0 then [45] else [])∧Own vb w' w1.heap.size 5 s.2.1 s.2.2 s.1∧w1.grownBy w' none) rfl (fun h Q' hQ=>?_) (fun h Q' hQ=>?_) ?_
   ·subst h
    have hneg:x<0:=by simp at hz; omega
    repeat (first | refine WC.seq ?_ | refine WC.block ?_ | refine WC.region ?_ | refine WL.nil ?_ | refine WX.then_normal ?_ | refine WC.skip ?_ | refine WC.exit ?_ | refine WC.ret ?_ | refine WX.then_exit ?_ | refine WX.then_ret ?_ | refine WX.block_normal ?_ | refine WX.block_ret ?_ | refine WX.block_same ?_ | refine WX.block_other rfl ?_ | refine WC.label ?_ | refine WC.scope ?_ | refine WX.scope_normal ?_ | refine WX.scope_ret ?_ | refine WX.scope_exit ?_ | refine WL.y rfl (Yld.add rfl rfl (by simp only [In]; omega)) ?_ | refine WL.y rfl (Yld.sub rfl rfl (by simp only [In]; omega)) ?_ | refine WL.y rfl (Yld.convB za rfl rfl rfl rfl) ?_ | refine WL.y rfl (Yld.conv za rfl rfl rfl (by simp only [In]; omega)) ?_ | refine WL.y rfl (Yld.quo rfl rfl (by omega) (by omega) (by simp only [In]; omega)) ?_ | refine WL.y rfl (Yld.rem rfl rfl (by omega) (by omega)) ?_ | refine WL.y rfl (Yld.pure za rfl) ?_ | refine WL.y rfl (Yld.pickV rfl rfl rfl) ?_ | refine WL.gno rfl rfl rfl rfl ?_ | refine WL.gyes rfl rfl rfl rfl (Yld.sub rfl rfl (by simp only [In]; omega)) ?_ | refine WL.gyes rfl rfl rfl rfl (Yld.pure za rfl) ?_ | refine WL.gyes rfl rfl rfl rfl (Yld.pickV rfl rfl rfl) ?_)
    refine WL.lit (us:=[vb 45]) za rfl rfl rfl (by intro u hu; rw [List.mem_singleton] at hu; rw [hu]; rfl) rfl (by omega) (fun g4 w4 hL4 hg4 hl4=>?_)
    have hR4:Rd vb w4 (some ⟨g4,0,none⟩) 1 [45]:=Rd.ofBl' hL4 (by simp) (by simp [maxLen])
    have hO4:=hO.grown hg4
    have hz3:=hg2.size
    have hz4:=hg4.size
    refine WL.append za rfl rfl One.b hO4 rfl rfl hR4 rfl rfl (by simp only [List.length_cons,List.length_nil]; omega) (by simp only [maxLen,List.length_cons,List.length_nil]; omega) (by omega) (fun A5 c5 w5 hO5 hg5 hf5=>?_)
    repeat (first | refine WC.seq ?_ | refine WC.block ?_ | refine WC.region ?_ | refine WL.nil ?_ | refine WX.then_normal ?_ | refine WC.skip ?_ | refine WC.exit ?_ | refine WC.ret ?_ | refine WX.then_exit ?_ | refine WX.then_ret ?_ | refine WX.block_normal ?_ | refine WX.block_ret ?_ | refine WX.block_same ?_ | refine WX.block_other rfl ?_ | refine WC.label ?_ | refine WC.scope ?_ | refine WX.scope_normal ?_ | refine WX.scope_ret ?_ | refine WX.scope_exit ?_ | refine WL.y rfl (Yld.add rfl rfl (by simp only [In]; omega)) ?_ | refine WL.y rfl (Yld.sub rfl rfl (by simp only [In]; omega)) ?_ | refine WL.y rfl (Yld.convB za rfl rfl rfl rfl) ?_ | refine WL.y rfl (Yld.conv za rfl rfl rfl (by simp only [In]; omega)) ?_ | refine WL.y rfl (Yld.quo rfl rfl (by omega) (by omega) (by simp only [In]; omega)) ?_ | refine WL.y rfl (Yld.rem rfl rfl (by omega) (by omega)) ?_ | refine WL.y rfl (Yld.pure za rfl) ?_ | refine WL.y rfl (Yld.pickV rfl rfl rfl) ?_ | refine WL.gno rfl rfl rfl rfl ?_ | refine WL.gyes rfl rfl rfl rfl (Yld.sub rfl rfl (by simp only [In]; omega)) ?_ | refine WL.gyes rfl rfl rfl rfl (Yld.pure za rfl) ?_ | refine WL.gyes rfl rfl rfl rfl (Yld.pickV rfl rfl rfl) ?_)
    exact WX.weaken (by repeat (first | exact Sub.nil | refine Sub.cons rfl ?_)) (hQ (_,A5,c5) w5 ⟨by rw [if_pos hneg,hb'],hO5,gr_own (zd hg2 hg4) hO4 hg5 (Nat.le_refl _)⟩)
   ·subst h
    have hneg:¬ x<0:=by simp at hz; omega
    repeat (first | refine WC.seq ?_ | refine WC.block ?_ | refine WC.region ?_ | refine WL.nil ?_ | refine WX.then_normal ?_ | refine WC.skip ?_ | refine WC.exit ?_ | refine WC.ret ?_ | refine WX.then_exit ?_ | refine WX.then_ret ?_ | refine WX.block_normal ?_ | refine WX.block_ret ?_ | refine WX.block_same ?_ | refine WX.block_other rfl ?_ | refine WC.label ?_ | refine WC.scope ?_ | refine WX.scope_normal ?_ | refine WX.scope_ret ?_ | refine WX.scope_exit ?_ | refine WL.y rfl (Yld.add rfl rfl (by simp only [In]; omega)) ?_ | refine WL.y rfl (Yld.sub rfl rfl (by simp only [In]; omega)) ?_ | refine WL.y rfl (Yld.convB za rfl rfl rfl rfl) ?_ | refine WL.y rfl (Yld.conv za rfl rfl rfl (by simp only [In]; omega)) ?_ | refine WL.y rfl (Yld.quo rfl rfl (by omega) (by omega) (by simp only [In]; omega)) ?_ | refine WL.y rfl (Yld.rem rfl rfl (by omega) (by omega)) ?_ | refine WL.y rfl (Yld.pure za rfl) ?_ | refine WL.y rfl (Yld.pickV rfl rfl rfl) ?_ | refine WL.gno rfl rfl rfl rfl ?_ | refine WL.gyes rfl rfl rfl rfl (Yld.sub rfl rfl (by simp only [In]; omega)) ?_ | refine WL.gyes rfl rfl rfl rfl (Yld.pure za rfl) ?_ | refine WL.gyes rfl rfl rfl rfl (Yld.pickV rfl rfl rfl) ?_)
    exact WX.weaken (by repeat (first | exact Sub.nil | refine Sub.cons rfl ?_)) (hQ (_,A',c') w2 ⟨by rw [if_neg hneg,hb']; simp,hO,hg2⟩)
   ·rintro ⟨b2,A2,c2⟩ w3 ⟨he,hO3,hg3⟩
    simp only at he hO3
    repeat (first | refine WC.seq ?_ | refine WC.block ?_ | refine WC.region ?_ | refine WL.nil ?_ | refine WX.then_normal ?_ | refine WC.skip ?_ | refine WC.exit ?_ | refine WC.ret ?_ | refine WX.then_exit ?_ | refine WX.then_ret ?_ | refine WX.block_normal ?_ | refine WX.block_ret ?_ | refine WX.block_same ?_ | refine WX.block_other rfl ?_ | refine WC.label ?_ | refine WC.scope ?_ | refine WX.scope_normal ?_ | refine WX.scope_ret ?_ | refine WX.scope_exit ?_ | refine WL.y rfl (Yld.add rfl rfl (by simp only [In]; omega)) ?_ | refine WL.y rfl (Yld.sub rfl rfl (by simp only [In]; omega)) ?_ | refine WL.y rfl (Yld.convB za rfl rfl rfl rfl) ?_ | refine WL.y rfl (Yld.conv za rfl rfl rfl (by simp only [In]; omega)) ?_ | refine WL.y rfl (Yld.quo rfl rfl (by omega) (by omega) (by simp only [In]; omega)) ?_ | refine WL.y rfl (Yld.rem rfl rfl (by omega) (by omega)) ?_ | refine WL.y rfl (Yld.pure za rfl) ?_ | refine WL.y rfl (Yld.pickV rfl rfl rfl) ?_ | refine WL.gno rfl rfl rfl rfl ?_ | refine WL.gyes rfl rfl rfl rfl (Yld.sub rfl rfl (by simp only [In]; omega)) ?_ | refine WL.gyes rfl rfl rfl rfl (Yld.pure za rfl) ?_ | refine WL.gyes rfl rfl rfl rfl (Yld.pickV rfl rfl rfl) ?_)
    refine WL.call rfl rfl (reverse_fn A2 c2 _ b2 w3 hO3) ?_
    rintro _ w4 ⟨rfl,hO4,hg4⟩
    repeat (first | refine WL.y rfl (Yld.b2s za hO4.rd rfl rfl rfl rfl (by simp)) ?_ | refine WC.seq ?_ | refine WC.block ?_ | refine WC.region ?_ | refine WL.nil ?_ | refine WX.then_normal ?_ | refine WC.skip ?_ | refine WC.exit ?_ | refine WC.ret ?_ | refine WX.then_exit ?_ | refine WX.then_ret ?_ | refine WX.block_normal ?_ | refine WX.block_ret ?_ | refine WX.block_same ?_ | refine WX.block_other rfl ?_ | refine WC.label ?_ | refine WC.scope ?_ | refine WX.scope_normal ?_ | refine WX.scope_ret ?_ | refine WX.scope_exit ?_ | refine WL.y rfl (Yld.add rfl rfl (by simp only [In]; omega)) ?_ | refine WL.y rfl (Yld.sub rfl rfl (by simp only [In]; omega)) ?_ | refine WL.y rfl (Yld.convB za rfl rfl rfl rfl) ?_ | refine WL.y rfl (Yld.conv za rfl rfl rfl (by simp only [In]; omega)) ?_ | refine WL.y rfl (Yld.quo rfl rfl (by omega) (by omega) (by simp only [In]; omega)) ?_ | refine WL.y rfl (Yld.rem rfl rfl (by omega) (by omega)) ?_ | refine WL.y rfl (Yld.pure za rfl) ?_ | refine WL.y rfl (Yld.pickV rfl rfl rfl) ?_ | refine WL.gno rfl rfl rfl rfl ?_ | refine WL.gyes rfl rfl rfl rfl (Yld.sub rfl rfl (by simp only [In]; omega)) ?_ | refine WL.gyes rfl rfl rfl rfl (Yld.pure za rfl) ?_ | refine WL.gyes rfl rfl rfl rfl (Yld.pickV rfl rfl rfl) ?_)
    refine WX.ret1 rfl rfl ⟨?_,zd hg1 (gr_own hg3 hO3 hg4 (Nat.le_refl _))⟩
    unfold txt
    rw [if_neg hx0,hval,he,List.reverse_append]
    split <;> rfl
end Go.Proofs.YtjjcdkfhaceicaaGreatDoor
 
namespace Go.Proofs.YtjjcdkfhaceicaaGreatDoor
open Go Go.RowKit
def qr (x:Int) (m:Nat) (K:List UInt8→Prop):Prop:=m≤90000∧K (txt x)
theorem W_num_Num_Text {w:World} {a b:Value} {x:Int} {m:Nat} {K:List UInt8→Prop} (h1:Nm w (.agg ⟨[a,b]⟩) x m) (H:qr x m K):Fn Tryz.prog 48 ⟨[.agg ⟨[a,b]⟩]⟩ w (fun v w'=>w.grownBy w' none∧∃ r:List UInt8,v=vs r∧K r) :=
 (text_fn _ x m w h1 H.1).mono fun _ _ ⟨hv,hg⟩=>⟨hg,_,hv,H.2⟩
end Go.Proofs.YtjjcdkfhaceicaaGreatDoor
 
namespace Go.Proofs.YtjjcdkfhaceicaaGreatDoor
open Go Go.RowKit
attribute [local irreducible] WL WC WX WQ WK WJ Yld Eff Ef0 Fn
def zG (p_b:List UInt8) (K:Bool→Prop):Prop :=
 (p_b.length≤maxLen →
 K (decide ((65536:Int)≤(p_b.length:Int))))
def zl (p_b:List UInt8) (l:List (List UInt8)) (K:(List UInt8)→Prop):Prop :=
 (p_b.length≤maxLen →
 (l.length≤maxLen →
 Lp2 (fun (t8:Int) (p0:List UInt8) kont1=>((t8<(l.length:Int)→(0≤t8∧t8<(l.length:Nat)) ∧
 (In .i64 ((65536:Int) - (p0.length:Int))) ∧
 (0≤(if ((65536:Int) - (p0.length:Int))<((l.getD t8.toNat []).length:Int) then (65536:Int) - (p0.length:Int) else ((l.getD t8.toNat []).length:Int))∧(if ((65536:Int) - (p0.length:Int))<((l.getD t8.toNat []).length:Int) then (65536:Int) - (p0.length:Int) else ((l.getD t8.toNat []).length:Int))≤(l.getD t8.toNat []).length) ∧
 ((p0.length+((l.getD t8.toNat []).take (if ((65536:Int) - (p0.length:Int))<((l.getD t8.toNat []).length:Int) then (65536:Int) - (p0.length:Int) else ((l.getD t8.toNat []).length:Int)).toNat).length)*1≤140737488355328) ∧
 (In .i64 (t8+(1:Int))) ∧
 kont1 (t8+(1:Int)) (p0++((l.getD t8.toNat []).take (if ((65536:Int) - (p0.length:Int))<((l.getD t8.toNat []).length:Int) then (65536:Int) - (p0.length:Int) else ((l.getD t8.toNat []).length:Int)).toNat))) ∧
 (¬ (t8<(l.length:Int))→K p0))) (0:Int) p_b))
def z7 (p_b:List UInt8) (v:PV) (deep:Int) (K:(List UInt8)→Prop):Prop :=
 (p_b.length≤maxLen →
 zG p_b (fun (t17:Bool) =>
 ((t17=true→K p_b) ∧
 (t17=false→(v≠PV.none) ∧
 ((∀ z:Int,v=PV.int z→qr z 3 (fun (t41:List UInt8) =>
 zl p_b ([t41]:List (List UInt8)) (fun (p_:List UInt8) =>
 K p_))) ∧
 ((∀ z,v≠PV.int z)→False))))))
def zD (p_b:List UInt8) (l:List PV) (deep:Int) (K:(List UInt8)→Prop):Prop :=
 (p_b.length≤maxLen →
 (l.length≤maxLen →
 Lp2 (fun (t10:Int) (p0:List UInt8) kont1=>((t10<(l.length:Int)→(0≤t10∧t10<(l.length:Nat)) ∧
 zG p0 (fun (t16:Bool) =>
 ((t16=true→K p0) ∧
 (t16=false→∃ J1:(List UInt8)→Prop,((((0:Int)<t10→zl p0 ([([44,32]:List UInt8)]:List (List UInt8)) (fun (p_2:List UInt8) =>
 J1 p_2)) ∧
 (¬ ((0:Int)<t10)→J1 p0))) ∧
 (∀ p02:List UInt8,J1 p02→z7 p02 (l.getD t10.toNat PV.nil) deep (fun (p_:List UInt8) =>
 (In .i64 (t10+(1:Int))) ∧
 kont1 (t10+(1:Int)) p_)))))) ∧
 (¬ (t10<(l.length:Int))→K p0))) (0:Int) p_b))
def qt (p_b:List UInt8) (v:PV) (deep:Int) (K:(List UInt8)→Prop):Prop :=
 (p_b.length≤maxLen →
 (((60:Int)≤deep→zl p_b ([([46,46,46]:List UInt8)]:List (List UInt8)) (fun (p_:List UInt8) =>
 K p_)) ∧
 (¬ ((60:Int)≤deep)→((v=PV.emp→zl p_b ([([91]:List UInt8)]:List (List UInt8)) (fun (p_2:List UInt8) =>
 (In .i64 (deep+(1:Int))) ∧
 zD p_2 ([]:List PV) (deep+(1:Int)) (fun (p_3:List UInt8) =>
 zl p_3 ([([93]:List UInt8)]:List (List UInt8)) (fun (p_4:List UInt8) =>
 K p_4)))) ∧
 (v≠PV.emp→((∀ l:List Int,v=PV.tup l→zl p_b ([([40]:List UInt8)]:List (List UInt8)) (fun (p_5:List UInt8) =>
 (In .i64 (deep+(1:Int))) ∧
 zD p_5 (l.map PV.int) (deep+(1:Int)) (fun (p_6:List UInt8) =>
 ∃ J1:(List UInt8)→Prop,(((((l.map PV.int).length:Int)=(1:Int)→zl p_6 ([([44]:List UInt8)]:List (List UInt8)) (fun (p_8:List UInt8) =>
 J1 p_8)) ∧
 (¬ (((l.map PV.int).length:Int)=(1:Int))→J1 p_6))) ∧
 (∀ p0:List UInt8,J1 p0→zl p0 ([([41]:List UInt8)]:List (List UInt8)) (fun (p_7:List UInt8) =>
 K p_7))))) ∧
 ((∀ l,v≠PV.tup l)→K p_b)))))))
def qB (p_b:List UInt8) (v:PV) (deep:Int) (K:(List UInt8)→Prop):Prop :=
 (p_b.length≤maxLen →
 zG p_b (fun (t17:Bool) =>
 ((t17=true→K p_b) ∧
 (t17=false→(v≠PV.none) ∧
 ((∀ z:Int,v=PV.int z→qr z 3 (fun (t41:List UInt8) =>
 zl p_b ([t41]:List (List UInt8)) (fun (p_:List UInt8) =>
 K p_))) ∧
 ((∀ z,v≠PV.int z)→qt p_b v deep (fun (p_2:List UInt8) =>
 K p_2)))))))
def M_val_Repr (v:PV) (K:(List UInt8)→Prop):Prop :=
 qB [] v (0:Int) (fun (t5_:List UInt8) =>
 K t5_)
def M_pval_keyer_key (k_b:List UInt8) (k_left:Int) (v:PV) (deep:Int) (K:Er→(List UInt8)→Int→Prop):Prop :=
 (k_b.length≤maxLen →
 (In .i64 (k_left - (1:Int))) ∧
 (((k_left - (1:Int))<(0:Int)→K (Er.e 7) k_b (k_left - (1:Int))) ∧
 (¬ ((k_left - (1:Int))<(0:Int))→∃ J1:(List UInt8)→Prop,((v≠PV.none) ∧
 ((∀ z:Int,v=PV.int z→((k_b.length+(([73]:List UInt8)).length)*1≤140737488355328) ∧
 qr z 3 (fun (t83:List UInt8) =>
 (((k_b++([73]:List UInt8)).length+t83.length)*1≤140737488355328) ∧
 J1 ((k_b++([73]:List UInt8))++t83))) ∧
 ((∀ z,v≠PV.int z)→((∀ l:List Int,v=PV.tup l→(((60:Int)≤deep→K (Er.e 7) k_b (k_left - (1:Int))) ∧
 (¬ ((60:Int)≤deep)→((k_b.length+(([84]:List UInt8)).length)*1≤140737488355328) ∧
 Lp1 (fun (t147:Int) kont1=>((t147<((l.map PV.int).length:Int)→(0≤t147∧t147<((l.map PV.int).length:Nat)) ∧
 (In .i64 (deep+(1:Int))) ∧
 False) ∧
 (¬ (t147<((l.map PV.int).length:Int))→(((k_b++([84]:List UInt8)).length+(([69]:List UInt8)).length)*1≤140737488355328) ∧
 J1 ((k_b++([84]:List UInt8))++([69]:List UInt8))))) (0:Int)))) ∧
 ((∀ l,v≠PV.tup l)→K (Er.e 3) k_b (k_left - (1:Int))))))) ∧
 (∀ k0:List UInt8,J1 k0→((k0.length+(([59]:List UInt8)).length)*1≤140737488355328) ∧
 K Er.ok (k0++([59]:List UInt8)) (k_left - (1:Int))))))
def M_val_Key (v:PV) (K:(List UInt8)→Er→Prop):Prop :=
 M_pval_keyer_key [] (4096:Int) v (0:Int) (fun (err:Er) (t7_:List UInt8) (t7_2:Int) =>
 ((¬ (err=Er.ok)→K ([]:List UInt8) err) ∧
 (err=Er.ok→K t7_ Er.ok)))
def M_val_weight (v:PV) (most:Int) (K:Int→Prop):Prop :=
 ∃ J1:(List PV)→Prop,(((v=PV.emp→J1 ([]:List PV)) ∧
 (v≠PV.emp→((∀ l2:List Int,v=PV.tup l2→J1 (l2.map PV.int)) ∧
 ((∀ l,v≠PV.tup l)→J1 []))))) ∧
 (∀ l:List PV,J1 l→Lp2 (fun (n:Int) (t63:Int) kont1=>((t63<(l.length:Int)→(0≤t63∧t63<(l.length:Nat)) ∧
 ((most<n→K n) ∧
 (¬ (most<n)→(In .i64 (most - n)) ∧
 False))) ∧
 (¬ (t63<(l.length:Int))→K n))) (1:Int) (0:Int))
def M_val_Light (most:Int) (l:List PV) (K:Bool→Prop):Prop :=
 (l.length≤maxLen →
 Lp2 (fun (most2:Int) (t9:Int) kont1=>((t9<(l.length:Int)→(0≤t9∧t9<(l.length:Nat)) ∧
 M_val_weight (l.getD t9.toNat PV.nil) most2 (fun (t16:Int) =>
 (In .i64 (most2 - t16)) ∧
 (((most2 - t16)<(0:Int)→K false) ∧
 (¬ ((most2 - t16)<(0:Int))→(In .i64 (t9+(1:Int))) ∧
 kont1 (most2 - t16) (t9+(1:Int)))))) ∧
 (¬ (t9<(l.length:Int))→K true))) most (0:Int))
def zu (s:List PV) (K:(List PV)→Prop):Prop :=
 (s.length≤maxLen →
 ((s=[]→K []) ∧
 ((((([]:List PV)).length+s.length)*16≤140737488355328) ∧
 K (([]:List PV)++s))))
def zn (s:List PS) (K:(List PS)→Prop):Prop :=
 (s.length≤maxLen →
 ((s=[]→K []) ∧
 ((((([]:List PS)).length+s.length)*8≤140737488355328) ∧
 K (([]:List PS)++s))))
set_option maxHeartbeats 8000000 in
theorem qC {w:World} {g_p:Nat} {p_b:List UInt8} {A_p_b:Option Addr} {c_p_b:Nat} {n_p_b:Nat} {K:Bool→Prop} (hp_b:Rd vb w A_p_b c_p_b p_b) (hn_p_b:n_p_b=p_b.length) (hp:Bl w g_p 153 [.slice A_p_b n_p_b c_p_b]) (H:zG p_b K):Fn Tryz.prog 136 ⟨[.pointer (some ⟨g_p,0,none⟩)]⟩ w (fun v w'=>w=w'∧∃ (r:Bool),v=.bool r∧K r):=by
 subst hn_p_b
 unfold zG at H
 refine Fn.enter (by kernel_rfl) Tryz.func136 rfl Tryz.ntmps136 rfl ?_
 replace H:=H (Nat.le_trans hp_b.cap hp_b.max)
 exact WC.seq (WC.region (yp (h:=(WL.nil (WX.then_normal (WC.seq (WC.region (yp (h:=(yp (h:=(yp (h:=(WL.y rfl (Yld.bload za hp rfl rfl rfl) (yp (h:=(yp (h:=(yp (h:=(WL.nil (WX.then_normal (WC.ret (WX.ret1 rfl rfl ⟨rfl,decide ((65536:Int)≤(p_b.length:Int)),rfl,H⟩))))))))))))))))))))))))
set_option maxHeartbeats 8000000 in
theorem zv {w:World} {g_p:Nat} {p_b:List UInt8} {A_p_b:Option Addr} {c_p_b:Nat} {l:List (List UInt8)} {A_l:Option Addr} {c_l:Nat} {n_p_b:Nat} {n_l:Nat} {K:(List UInt8)→Prop} (hp_b:Own vb w 0 5 A_p_b c_p_b p_b) (hn_p_b:n_p_b=p_b.length) (hp:Bl w g_p 153 [.slice A_p_b n_p_b c_p_b]) (hl:Rd vs w A_l c_l l) (hn_l:n_l=l.length) (hdj0_1:Dj (some g_p) (blk A_p_b)) (hap0:AllP (Dn l (blk A_l)) [(some g_p),(blk A_p_b)]) (H:zl p_b l K):Fn Tryz.prog 137 ⟨[.pointer (some ⟨g_p,0,none⟩),.slice A_l n_l c_l]⟩ w (fun v w'=>GrL [(some g_p),(blk A_p_b)] w w'∧∃ (p_b2:List UInt8),∃ (A_p_b2:Option Addr),∃ (c_p_b2:Nat),v=.tuple #[]∧Bl w' g_p 153 [.slice A_p_b2 p_b2.length c_p_b2]∧Own vb w' 0 5 A_p_b2 c_p_b2 p_b2∧InP [(some g_p),(blk A_p_b)] w.heap.size (blk A_p_b2)∧Dj (some g_p) (blk A_p_b2)∧K p_b2):=by
 subst hn_p_b
 subst hn_l
 unfold zl at H
 refine Fn.enter (by kernel_rfl) Tryz.func137 rfl Tryz.ntmps137 rfl ?_
 replace H:=H (Nat.le_trans hp_b.rd.cap hp_b.rd.max)
 replace H:=H (Nat.le_trans hl.cap hl.max)
 have hNoAt:AllP (NoAt w) [(some g_p),(blk A_p_b)]:=(apC (NoAt.bl hp rfl) (apC (NoAt.own hp_b rfl) apN))
 refine WC.seq (WC.region (yp (h:=(yp (h:=(yp (h:=(WL.nil (WX.then_normal (WC.block ?_))))))))))
 obtain ⟨I1,mu1,h0_1,HR1⟩:=H
 refine WC.loopF (fun n' L' w'=>∃ (t8:Int),∃ (p0:List UInt8),∃ (A_p0:Option Addr),∃ (c_p0:Nat),∃ (n_p0:Nat),n'=mu1 t8 p0∧L'=[(0,.pointer (some ⟨g_p,0,none⟩)),(6,.slice A_l l.length c_l),(7,.int .i64 (l.length:Int)),(8,.int .i64 t8)]∧I1 t8 p0∧n_p0=p0.length∧GrL [(some g_p),(blk A_p_b)] w w'∧Bl w' g_p 153 [.slice A_p0 n_p0 c_p0]∧Own vb w' 0 5 A_p0 c_p0 p0∧Dj (some g_p) (blk A_p0)∧InP [(some g_p),(blk A_p_b)] w.heap.size (blk A_p0)) _ _ ⟨(0:Int),p_b,A_p_b,c_p_b,p_b.length,rfl,rfl,h0_1,rfl,(GrL.refl _),hp,hp_b,hdj0_1,(InP.mem (List.Mem.tail _ (List.Mem.head _)))⟩ (by repeat (first | exact Sub.nil | refine Sub.cons rfl ?_)) ?_
 clear h0_1
 rintro _ _ w1 ⟨t8,p0,A_p0,c_p0,n_p0,rfl,rfl,hI1,rfl,gr1,k1,k2,dj1,hi1⟩
 have H:=HR1 t8 p0 hI1
 refine WC.seq (WC.region (yp (h:=(WL.nil (WX.then_normal (WC.seq (WC.cond rfl (fun b1=>?_) (fun b1=>?_))))))))
 ·replace H:=H.1 (of_decide_eq_true b1)
  refine WC.skip (WX.then_normal (WC.seq (WC.block (WC.seq (WC.region ?_)))))
  obtain ⟨h1,H⟩:=H
  refine WL.y rfl (Yld.iaddrW za (hl.goL gr1 hap0) rfl rfl rfl rfl h1.1 h1.2) (WL.y rfl (Yld.iload [] za (hl.goL gr1 hap0) rfl rfl (iltN h1 rfl)) (yp (h:=(WL.nil (WX.then_normal (WC.chainF (fun k => !(Nat.beq k 16 || Nat.beq k 19)) (LD [4,11] (fun w'=>Bl w' g_p 153 [.slice A_p0 p0.length c_p0])) mixed (by kernel_rfl) (fun k w' h _=>(zU h k1)) (WJ.y rfl rfl (fun w' hw'=>Yld.pure za rfl) (WJ.y rfl rfl (fun w' hw'=>Yld.pure za rfl) (WJ.y rfl rfl (fun w' hw'=>Yld.pure za rfl) (WJ.y rfl rfl (fun w' hw'=>Yld.pure za rfl) (WJ.y rfl rfl (fun w' hw'=>Yld.bload za (hw' rfl) rfl rfl rfl) (WJ.y rfl rfl (fun w' hw'=>Yld.pure za rfl) (WJ.y rfl rfl (fun w' hw'=>Yld.pure za rfl) (WJ.y rfl rfl (fun w' hw'=>Yld.pure za rfl) (WJ.y rfl rfl (fun w' hw'=>Yld.pure za rfl) (WJ.y rfl rfl (fun w' hw'=>Yld.pure za rfl) (WJ.y rfl rfl (fun w' hw'=>Yld.pure za rfl) (WJ.y rfl rfl (fun w' hw'=>Yld.bload za (hw' rfl) rfl rfl rfl) (WJ.y rfl rfl (fun w' hw'=>Yld.pure za rfl) ?_)))))))))))))))))))
  obtain ⟨h2,H⟩:=H
  refine WJ.y rfl rfl (fun w' hw'=>Yld.sub rfl rfl h2) (WJ.y rfl rfl (fun w' hw'=>Yld.min2 rfl rfl) ?_)
  obtain ⟨h3,H⟩:=H
  refine WJ.y rfl rfl (fun w' hw'=>Yld.scut za rfl rfl rfl rfl (Int.le_refl 0) h3.1 h3.2) ?_
  obtain ⟨h4,H⟩:=H
  refine WJ.putw rfl (zo) rfl (Eff.appendS za rfl rfl k2 rfl rfl rfl h4 (zx h4) (Nat.zero_le _)) (fun v w' ⟨_,_,_,_,h,_⟩=>DD.keep (Bl.go k1 (zq h (Eqv.refl _)) dj1)) ?_
  rintro _ w2 ⟨A_t28,c_t28,rfl,hO1,hg1,hk1⟩
  have gr2:GrL [(some g_p),(blk A_p_b)] w w2:=GrL.mod gr1 hg1 hi1
  refine WJ.y rfl rfl (fun w' hw'=>Yld.pure za rfl) (WJ.y rfl rfl (fun w' hw'=>Yld.pure za rfl) (WJ.eff rfl (Ef0.store1 one151 rfl rfl rfl (k1.go hg1 dj1) (by simp)) (fun w' h=>DD.past (by kernel_rfl)) ?_))
  rintro w3 ⟨hB2,hg2⟩
  have hB1:Bl w3 g_p 153 [.slice A_t28 ((p0++((l.getD t8.toNat []).take (if ((65536:Int) - (p0.length:Int))<((l.getD t8.toNat []).length:Int) then (65536:Int) - (p0.length:Int) else ((l.getD t8.toNat []).length:Int)).toNat)).length) c_t28]:=hB2
  have gr3:GrL [(some g_p),(blk A_p_b)] w w3:=GrL.mod gr2 hg2 (InP.mem (List.Mem.head _))
  refine WJ.nil (WX.block_normal (WX.then_normal (WC.region ?_)))
  obtain ⟨h5,H⟩:=H
  refine WL.y rfl (Yld.add rfl rfl h5) (yp (h:=(WL.nil ?_)))
  exact WX.roundF _ ⟨t8+(1:Int),p0++((l.getD t8.toNat []).take (if ((65536:Int) - (p0.length:Int))<((l.getD t8.toNat []).length:Int) then (65536:Int) - (p0.length:Int) else ((l.getD t8.toNat []).length:Int)).toNat),A_t28,c_t28,(p0++((l.getD t8.toNat []).take (if ((65536:Int) - (p0.length:Int))<((l.getD t8.toNat []).length:Int) then (65536:Int) - (p0.length:Int) else ((l.getD t8.toNat []).length:Int)).toNat)).length,rfl,rfl,H.1,rfl,gr3,hB1,(hO1.go hg2 (Dj.app dj1.symm k1.lt' hk1)),(Dj.app dj1.symm k1.lt' hk1).symm,(InP.app hi1 hk1 (GrL.sizeL gr1))⟩ (by repeat (first | exact Sub.nil | refine Sub.cons rfl ?_)) H.2
 ·replace H:=H.2 (of_decide_eq_false b1)
  exact WC.exit (WX.then_exit (WX.then_exit (WX.block_same (WX.end0 rfl ⟨gr1,p0,A_p0,c_p0,rfl,k1,k2,hi1,dj1,H⟩))))
set_option maxHeartbeats 8000000 in
theorem W_pval_printer_repr {w:World} {g_p:Nat} {p_b:List UInt8} {A_p_b:Option Addr} {c_p_b:Nat} {v_v:OV} {F_v:Nat→Prop} {v:PV} {deep:Int} {n_p_b:Nat} {K:(List UInt8)→Prop} (hp_b:Own vb w 0 5 A_p_b c_p_b p_b) (hn_p_b:n_p_b=p_b.length) (hp:Bl w g_p 153 [.slice A_p_b n_p_b c_p_b]) (hv:RelD deV w [(v_v,F_v)] [v]) (hdj0_1:Dj (some g_p) (blk A_p_b)) (hap0:AllP (DnD deV [(v_v,F_v)] [v]) [(some g_p),(blk A_p_b)]) (H:z7 p_b v deep K):Fn Tryz.prog 82 ⟨[.pointer (some ⟨g_p,0,none⟩),v_v.1,.int .i64 deep]⟩ w (fun v w'=>GrL [(some g_p),(blk A_p_b)] w w'∧∃ (p_b2:List UInt8),∃ (A_p_b2:Option Addr),∃ (c_p_b2:Nat),v=.tuple #[]∧Bl w' g_p 153 [.slice A_p_b2 p_b2.length c_p_b2]∧Own vb w' 0 5 A_p_b2 c_p_b2 p_b2∧InP [(some g_p),(blk A_p_b)] w.heap.size (blk A_p_b2)∧Dj (some g_p) (blk A_p_b2)∧K p_b2):=by
 subst hn_p_b
 unfold z7 at H
 refine Fn.enter (by kernel_rfl) Tryz.func82 rfl Tryz.ntmps82 rfl ?_
 replace H:=H (Nat.le_trans hp_b.rd.cap hp_b.rd.max)
 have hNoAt:AllP (NoAt w) [(some g_p),(blk A_p_b)]:=(apC (NoAt.bl hp rfl) (apC (NoAt.own hp_b rfl) apN))
 refine WC.seq (WC.seq (WC.region (yp (h:=(WL.call rfl rfl (qC hp_b.rd rfl hp H) ?_)))))
 rintro _ _ ⟨rfl,t17,rfl,H⟩
 refine WL.nil (WX.then_normal (WC.cond rfl (fun b1=>?_) (fun b1=>?_)))
 ·replace H:=H.1 (b1)
  exact WC.ret (WX.then_ret (WX.ret0 rfl ⟨(GrL.refl _),p_b,A_p_b,c_p_b,rfl,hp,hp_b,(InP.mem (List.Mem.tail _ (List.Mem.head _))),hdj0_1,H⟩))
 ·replace H:=H.2 (b1)
  refine WC.skip (WX.then_normal (WC.seq (WC.region (yp (h:=(WL.nil (WX.then_normal (WC.block (WC.seq (WC.region ?_))))))))))
  obtain ⟨h1,H⟩:=H
  refine WL.y rfl (zw (z:=.agg ⟨[]⟩) Tryz.underlying221 rfl (fun _=>by kernel_rfl) hv rfl (tyP_none h1)) (yp (h:=(yp (h:=(WL.nil (WX.then_normal (WC.cond rfl (fun h=>by cases h) (fun _=>WC.seq (WC.region (WL.y rfl (zw (z:=.bool false) Tryz.underlying223 rfl (fun _=>by kernel_rfl) hv rfl (tyP_no rfl v)) (yp (h:=(yp (h:=(WL.nil (WX.then_normal (WC.cond rfl (fun h=>by cases h) (fun _=>WC.seq (WC.region ?_)))))))))))))))))))
  rcases PV.intCases v with ⟨z,he1⟩ | he1
  ·replace H:=H.1 z he1
   obtain ⟨a,b,hv1,hN1,one1,one2,hL1⟩:=VR.intOut hv he1
   refine WL.y rfl (qw Tryz.underlying208 rfl rfl hv1) (yp (h:=(yp (h:=(WL.nil (WX.then_normal (WC.cond rfl (fun _=>WC.seq (WC.region (WL.alloc rfl zero208 (fun g1 w1 hB1 hg1 hl1=>WL.storeW (vs:=[a,b]) za rfl rfl rfl (zf one1 (zf one2 zm)) hB1 rfl rfl (fun w2 hB2 hg2=>?_))))) (fun h=>by cases h))))))))
   have gr2:GrL [(some g_p),(blk A_p_b)] w w2:=GrL.mod ((GrL.of0 (ps:=[(some g_p),(blk A_p_b)]) hg1)) hg2 (InP.ge (Ge.le (Ge.box hl1) (Nat.le_refl _)))
   refine WL.nil (WX.then_normal (WC.region (yp (h:=(WL.y rfl (Yld.fa0 (o:=0) (by kernel_rfl) rfl) (WL.y rfl (Yld.bagg (vs:=[a,b]) za hB2 rfl rfl rfl rfl) (WL.call rfl rfl (W_num_Num_Text (Nm.goV (hN1.grown hg1) hL1 (GrL.of1 hg2) (apC (DnD.one (hv.inp hap0 (InP.ge (Ge.le (Ge.box hl1) (Nat.le_refl _))))) apN)) H) ?_)))))))
   rintro _ w3 ⟨hg3,t41,rfl,H⟩
   have gr3:=GrL.add0 gr2 hg3
   have k7:=((hp_b.grown hg1).go hg2 (Dj.new hp_b.lt' (Ge.box hl1))).grown hg3
   have k8:=((hp.g0 hg1).go hg2 (Dj.new hp.lt' (Ge.box hl1))).g0 hg3
   refine WL.lit za rfl rfl rfl (zf rfl zm) rfl (by omega) (fun g2 w4 hB3 hg4 hl2=>?_)
   have hO1:Own vs w4 w.heap.size 9 (some ⟨g2,0,none⟩) 1 ([t41]:List (List UInt8)):=Own.ofBl hB3 (Nat.le_trans (GrL.sizeL gr3) hl2) (by simp [maxLen]) rfl
   have gr4:=GrL.add0 gr3 hg4
   refine WL.call rfl rfl (zv (k7.grown hg4) rfl (k8.g0 hg4) hO1.rd rfl hdj0_1 (apC (Dn.of (Dj.new k8.lt' (Ge.box hl2)).symm) (apC (Dn.of (Dj.new k7.lt' (Ge.box hl2)).symm) apN)) H) ?_
   rintro _ w5 ⟨hgl1,p_,A_p_,c_p_,rfl,hB4,hO2,hi1,dj1,H⟩
   have hi2:InP [(some g_p),(blk A_p_b)] w.heap.size (blk A_p_):=InP.trans hi1 (apC (InP.mem (List.Mem.head _)) (apC (InP.mem (List.Mem.tail _ (List.Mem.head _))) apN)) (GrL.sizeL gr4)
   have gr5:GrL [(some g_p),(blk A_p_b)] w w5:=GrL.modL gr4 hgl1 (apC (InP.mem (List.Mem.head _)) (apC (InP.mem (List.Mem.tail _ (List.Mem.head _))) apN))
   exact WL.nil (WX.block_normal (WX.end0 rfl ⟨gr5,p_,A_p_,c_p_,rfl,hB4,hO2,hi2,dj1,H⟩))
  ·replace H:=H.2 he1
   exact WL.y rfl (zw (z:=.agg ⟨[.bool false,.slice none 0 0]⟩) Tryz.underlying208 rfl (fun _=>by kernel_rfl) hv rfl (tyP_int he1)) (yp (h:=(yp (h:=(WL.nil (WX.then_normal (WC.cond rfl (fun h=>by cases h) (fun _=>WC.seq (WC.region (WL.y rfl (zw (z:=vs ([]:List UInt8)) Tryz.underlying169 rfl (fun _=>by kernel_rfl) hv rfl (tyP_no rfl v)) (yp (h:=(yp (h:=(WL.nil (WX.then_normal (WC.cond rfl (fun h=>by cases h) (fun _=>WC.seq (WC.region (WL.y rfl (assertNoI (z:=.nilIface) Tryz.underlying227 (fun _=>by kernel_rfl) (by decide +kernel) hv rfl) (yp (h:=(yp (h:=(WL.nil (WX.then_normal (WC.cond rfl (fun h=>by cases h) (fun _=>WC.seq (WC.region (WL.y rfl (assertNoI (z:=.nilIface) Tryz.underlying229 (fun _=>by kernel_rfl) (by decide +kernel) hv rfl) (yp (h:=(yp (h:=(WL.nil (WX.then_normal (WC.cond rfl (fun h=>by cases h) (fun _=>WC.seq (WC.region (WL.y rfl (assertNoI (z:=.nilIface) Tryz.underlying232 (fun _=>by kernel_rfl) (by decide +kernel) hv rfl) (yp (h:=(yp (h:=(WL.nil (WX.then_normal (WC.cond rfl (fun h=>by cases h) (fun _=>WC.seq (WC.region (yp (h:=(WL.nil (WX.then_normal (WC.region (yp (h:=(yp (h:=(yp (h:=(False.elim H)))))))))))))))))))))))))))))))))))))))))))))))))))))))))))))
set_option maxHeartbeats 8000000 in
theorem W_pval_printer_items {w:World} {g_p:Nat} {p_b:List UInt8} {A_p_b:Option Addr} {c_p_b:Nat} {l:List PV} {A_l:Option Addr} {c_l:Nat} {hs_l:List VH} {deep:Int} {n_p_b:Nat} {n_l:Nat} {K:(List UInt8)→Prop} (hp_b:Own vb w 0 5 A_p_b c_p_b p_b) (hn_p_b:n_p_b=p_b.length) (hp:Bl w g_p 153 [.slice A_p_b n_p_b c_p_b]) (hl:Rd vv w A_l c_l hs_l) (hn_l:n_l=l.length) (hr_l:RelD deV w hs_l l) (hdj0_1:Dj (some g_p) (blk A_p_b)) (hap0:AllP (Dn hs_l (blk A_l)) [(some g_p),(blk A_p_b)]) (hap1:AllP (DnD deV hs_l l) [(some g_p),(blk A_p_b)]) (H:zD p_b l deep K):Fn Tryz.prog 141 ⟨[.pointer (some ⟨g_p,0,none⟩),.slice A_l n_l c_l,.int .i64 deep]⟩ w (fun v w'=>GrL [(some g_p),(blk A_p_b)] w w'∧∃ (p_b2:List UInt8),∃ (A_p_b2:Option Addr),∃ (c_p_b2:Nat),v=.tuple #[]∧Bl w' g_p 153 [.slice A_p_b2 p_b2.length c_p_b2]∧Own vb w' 0 5 A_p_b2 c_p_b2 p_b2∧InP [(some g_p),(blk A_p_b)] w.heap.size (blk A_p_b2)∧Dj (some g_p) (blk A_p_b2)∧K p_b2):=by
 subst hn_p_b
 subst hn_l
 unfold zD at H
 refine Fn.enter (by kernel_rfl) Tryz.func141 rfl Tryz.ntmps141 rfl ?_
 replace H:=H (Nat.le_trans hp_b.rd.cap hp_b.rd.max)
 replace H:=H (by rw [←hr_l.1]; exact Nat.le_trans hl.cap hl.max)
 have hNoAt:AllP (NoAt w) [(some g_p),(blk A_p_b)]:=(apC (NoAt.bl hp rfl) (apC (NoAt.own hp_b rfl) apN))
 refine WC.seq (WC.region (yp (h:=(yp (h:=(yp (h:=(WL.nil (WX.then_normal (WC.block ?_))))))))))
 obtain ⟨I1,mu1,h0_1,HR1⟩:=H
 refine WC.loopF (fun n' L' w'=>∃ (t10:Int),∃ (p0:List UInt8),∃ (A_p0:Option Addr),∃ (c_p0:Nat),∃ (n_p0:Nat),n'=mu1 t10 p0∧L'=[(0,.pointer (some ⟨g_p,0,none⟩)),(2,.int .i64 deep),(8,.slice A_l l.length c_l),(9,.int .i64 (l.length:Int)),(10,.int .i64 t10)]∧I1 t10 p0∧n_p0=p0.length∧GrL [(some g_p),(blk A_p_b)] w w'∧Bl w' g_p 153 [.slice A_p0 n_p0 c_p0]∧Own vb w' 0 5 A_p0 c_p0 p0∧Dj (some g_p) (blk A_p0)∧InP [(some g_p),(blk A_p_b)] w.heap.size (blk A_p0)) _ _ ⟨(0:Int),p_b,A_p_b,c_p_b,p_b.length,rfl,rfl,h0_1,rfl,(GrL.refl _),hp,hp_b,hdj0_1,(InP.mem (List.Mem.tail _ (List.Mem.head _)))⟩ (by repeat (first | exact Sub.nil | refine Sub.cons rfl ?_)) ?_
 clear h0_1
 rintro _ _ w1 ⟨t10,p0,A_p0,c_p0,n_p0,rfl,rfl,hI1,rfl,gr1,k1,k2,dj1,hi1⟩
 have H:=HR1 t10 p0 hI1
 refine WC.seq (WC.region (yp (h:=(WL.nil (WX.then_normal (WC.seq (WC.cond rfl (fun b1=>?_) (fun b1=>?_))))))))
 ·replace H:=H.1 (of_decide_eq_true b1)
  refine WC.skip (WX.then_normal (WC.seq (WC.block (WC.seq (WC.region (yp (h:=?_)))))))
  obtain ⟨h1,H⟩:=H
  refine WL.y rfl (Yld.iaddrW za (hl.goL gr1 hap0) rfl rfl hr_l.1.symm rfl h1.1 h1.2) ?_
  obtain ⟨⟨v_el,F_el⟩,eh1,hR1⟩:=RelD.at (hr_l.goL gr1 hap1) vh0 PV.nil (j:=t10.toNat) (Nat.lt_of_lt_of_eq (iltN h1 hr_l.1.symm) (hr_l.goL gr1 hap1).1)
  have hv1:RelD deV w1 [(v_el,F_el)] [l.getD t10.toNat PV.nil]:=RelD.cons hR1 RelD.nil
  refine WL.y rfl (Yld.to (v:=v_el.1) (Yld.iload vh0 za (hl.goL gr1 hap0) rfl rfl (iltN h1 hr_l.1.symm)) (congrArg vv eh1)) (yp (h:=(yp (h:=(WL.nil (WX.then_normal (WC.seq (WC.seq (WC.region (yp (h:=(WL.call rfl rfl (qC k2.rd rfl k1 H) ?_))))))))))))
  rintro _ _ ⟨rfl,t16,rfl,H⟩
  refine WL.nil (WX.then_normal (WC.cond rfl (fun b2=>?_) (fun b2=>?_)))
  ·replace H:=H.1 (b2)
   exact WC.ret (WX.then_ret (WX.block_ret (WX.then_ret (WX.then_ret (WX.block_ret (WX.ret0 rfl ⟨gr1,p0,A_p0,c_p0,rfl,k1,k2,hi1,dj1,H⟩))))))
  ·replace H:=H.2 (b2)
   refine WC.skip (WX.then_normal (WC.seq ?_))
   obtain ⟨J1,H,hJ1⟩:=H
   refine WC.midF (fun L' w'=>∃ (p02:List UInt8),∃ (A_p02:Option Addr),∃ (c_p02:Nat),∃ (n_p02:Nat),L'=[(0,.pointer (some ⟨g_p,0,none⟩)),(2,.int .i64 deep),(7,v_el.1),(8,.slice A_l l.length c_l),(9,.int .i64 (l.length:Int)),(10,.int .i64 t10)]∧J1 p02∧n_p02=p02.length∧GrL [(some g_p),(blk A_p_b)] w w'∧Bl w' g_p 153 [.slice A_p02 n_p02 c_p02]∧RelD deV w' [(v_el,F_el)] [l.getD t10.toNat PV.nil]∧Own vb w' 0 5 A_p02 c_p02 p02∧Dj (some g_p) (blk A_p02)∧DnD deV [(v_el,F_el)] [l.getD t10.toNat PV.nil] (some g_p)∧DnD deV [(v_el,F_el)] [l.getD t10.toNat PV.nil] (blk A_p02)∧InP [(some g_p),(blk A_p_b)] w.heap.size (blk A_p02)) ?_ (fun hQ=>?_)
   ·clear H
    rintro _ w2 ⟨p02,A_p02,c_p02,n_p02,rfl,H,rfl,gr2,k3,k4,k5,dj2,dj3,dj4,hi2⟩
    replace H:=hJ1 p02 H
    refine WX.then_normal (WC.region (yp (h:=(yp (h:=(yp (h:=(WL.call rfl rfl (W_pval_printer_repr k5 rfl k3 k4 dj2 (apC dj3 (apC dj4 apN)) H) ?_))))))))
    rintro _ w3 ⟨hgl1,p_,A_p_,c_p_,rfl,hB1,hO1,hi3,dj5,H⟩
    have hi4:InP [(some g_p),(blk A_p_b)] w.heap.size (blk A_p_):=InP.trans hi3 (apC (InP.mem (List.Mem.head _)) (apC hi2 apN)) (GrL.sizeL gr2)
    have gr3:GrL [(some g_p),(blk A_p_b)] w w3:=GrL.modL gr2 hgl1 (apC (InP.mem (List.Mem.head _)) (apC hi2 apN))
    refine WL.nil (WX.block_normal (WX.then_normal (WC.region ?_)))
    obtain ⟨h2,H⟩:=H
    refine WL.y rfl (Yld.add rfl rfl h2) (yp (h:=(WL.nil ?_)))
    exact WX.roundF _ ⟨t10+(1:Int),p_,A_p_,c_p_,p_.length,rfl,rfl,H.1,rfl,gr3,hB1,hO1,dj5,hi4⟩ (by repeat (first | exact Sub.nil | refine Sub.cons rfl ?_)) H.2
   ·clear hJ1
    refine WC.seq (WC.region (yp (h:=(yp (h:=(WL.nil (WX.then_normal (WC.cond rfl (fun b3=>?_) (fun b3=>?_)))))))))
    ·replace H:=H.1 (of_decide_eq_true b3)
     refine WC.region (yp (h:=(WL.lit za rfl rfl rfl (zf rfl zm) rfl (by omega) (fun g1 w4 hB2 hg1 hl1=>?_))))
     have hO2:Own vs w4 w.heap.size 9 (some ⟨g1,0,none⟩) 1 ([([44,32]:List UInt8)]:List (List UInt8)):=Own.ofBl hB2 (Nat.le_trans (GrL.sizeL gr1) hl1) (by simp [maxLen]) rfl
     have gr4:=GrL.add0 gr1 hg1
     have k8:=hv1.grown hg1
     refine WL.call rfl rfl (zv (k2.grown hg1) rfl (k1.g0 hg1) hO2.rd rfl dj1 (apC (Dn.of (Dj.new k1.lt' (Ge.box hl1)).symm) (apC (Dn.of (Dj.new k2.lt' (Ge.box hl1)).symm) apN)) H) ?_
     rintro _ w5 ⟨hgl2,p_2,A_p_2,c_p_2,rfl,hB3,hO3,hi5,dj6,H⟩
     have hi6:InP [(some g_p),(blk A_p_b)] w.heap.size (blk A_p_2):=InP.trans hi5 (apC (InP.mem (List.Mem.head _)) (apC hi1 apN)) (GrL.sizeL gr4)
     have gr5:GrL [(some g_p),(blk A_p_b)] w w5:=GrL.modL gr4 hgl2 (apC (InP.mem (List.Mem.head _)) (apC hi1 apN))
     refine WL.nil ?_
     exact WX.weaken (by repeat (first | exact Sub.nil | refine Sub.cons rfl ?_)) (hQ _ _ ⟨p_2,A_p_2,c_p_2,p_2.length,rfl,H,rfl,gr5,hB3,(k8.goL hgl2 (apC (DnD.cons (DnD.at (hr_l.inp hap1 (InP.mem (List.Mem.head _))) (hr_l.goL gr1 hap1).1 (Nat.lt_of_lt_of_eq (iltN h1 hr_l.1.symm) (hr_l.goL gr1 hap1).1) eh1) DnD.nil) (apC (DnD.cons (DnD.at (hr_l.inp hap1 hi1) (hr_l.goL gr1 hap1).1 (Nat.lt_of_lt_of_eq (iltN h1 hr_l.1.symm) (hr_l.goL gr1 hap1).1) eh1) DnD.nil) apN))),hO3,dj6,(DnD.cons (DnD.at (hr_l.inp hap1 (InP.mem (List.Mem.head _))) (hr_l.goL gr1 hap1).1 (Nat.lt_of_lt_of_eq (iltN h1 hr_l.1.symm) (hr_l.goL gr1 hap1).1) eh1) DnD.nil),(RelD.inp k8 (apC (DnD.cons (DnD.at (hr_l.inp hap1 (InP.mem (List.Mem.head _))) (hr_l.goL gr1 hap1).1 (Nat.lt_of_lt_of_eq (iltN h1 hr_l.1.symm) (hr_l.goL gr1 hap1).1) eh1) DnD.nil) (apC (DnD.cons (DnD.at (hr_l.inp hap1 hi1) (hr_l.goL gr1 hap1).1 (Nat.lt_of_lt_of_eq (iltN h1 hr_l.1.symm) (hr_l.goL gr1 hap1).1) eh1) DnD.nil) apN)) hi5),hi6⟩)
    ·replace H:=H.2 (of_decide_eq_false b3)
     refine WC.skip ?_
     exact WX.weaken (by repeat (first | exact Sub.nil | refine Sub.cons rfl ?_)) (hQ _ _ ⟨p0,A_p0,c_p0,p0.length,rfl,H,rfl,gr1,k1,hv1,k2,dj1,(DnD.cons (DnD.at (hr_l.inp hap1 (InP.mem (List.Mem.head _))) (hr_l.goL gr1 hap1).1 (Nat.lt_of_lt_of_eq (iltN h1 hr_l.1.symm) (hr_l.goL gr1 hap1).1) eh1) DnD.nil),(DnD.cons (DnD.at (hr_l.inp hap1 hi1) (hr_l.goL gr1 hap1).1 (Nat.lt_of_lt_of_eq (iltN h1 hr_l.1.symm) (hr_l.goL gr1 hap1).1) eh1) DnD.nil),hi1⟩)
 ·replace H:=H.2 (of_decide_eq_false b1)
  exact WC.exit (WX.then_exit (WX.then_exit (WX.block_same (WX.end0 rfl ⟨gr1,p0,A_p0,c_p0,rfl,k1,k2,hi1,dj1,H⟩))))
set_option maxHeartbeats 8000000 in
theorem W_pval_printer_parts {w:World} {g_p:Nat} {p_b:List UInt8} {A_p_b:Option Addr} {c_p_b:Nat} {v_v:OV} {F_v:Nat→Prop} {v:PV} {deep:Int} {n_p_b:Nat} {K:(List UInt8)→Prop} (hp_b:Own vb w 0 5 A_p_b c_p_b p_b) (hn_p_b:n_p_b=p_b.length) (hp:Bl w g_p 153 [.slice A_p_b n_p_b c_p_b]) (hv:RelD deV w [(v_v,F_v)] [v]) (hdj0_1:Dj (some g_p) (blk A_p_b)) (hap0:AllP (DnD deV [(v_v,F_v)] [v]) [(some g_p),(blk A_p_b)]) (H:qt p_b v deep K):Fn Tryz.prog 142 ⟨[.pointer (some ⟨g_p,0,none⟩),v_v.1,.int .i64 deep]⟩ w (fun v w'=>GrL [(some g_p),(blk A_p_b)] w w'∧∃ (p_b2:List UInt8),∃ (A_p_b2:Option Addr),∃ (c_p_b2:Nat),v=.tuple #[]∧Bl w' g_p 153 [.slice A_p_b2 p_b2.length c_p_b2]∧Own vb w' 0 5 A_p_b2 c_p_b2 p_b2∧InP [(some g_p),(blk A_p_b)] w.heap.size (blk A_p_b2)∧Dj (some g_p) (blk A_p_b2)∧K p_b2):=by
 subst hn_p_b
 unfold qt at H
 refine Fn.enter (by kernel_rfl) Tryz.func142 rfl Tryz.ntmps142 rfl ?_
 replace H:=H (Nat.le_trans hp_b.rd.cap hp_b.rd.max)
 have hNoAt:AllP (NoAt w) [(some g_p),(blk A_p_b)]:=(apC (NoAt.bl hp rfl) (apC (NoAt.own hp_b rfl) apN))
 refine WC.seq (WC.seq (WC.region (yp (h:=(yp (h:=(WL.nil (WX.then_normal (WC.cond rfl (fun b1=>?_) (fun b1=>?_))))))))))
 ·replace H:=H.1 (of_decide_eq_true b1)
  refine WC.seq (WC.region (yp (h:=(WL.lit za rfl rfl rfl (zf rfl zm) rfl (by omega) (fun g1 w1 hB1 hg1 hl1=>?_)))))
  have hO1:Own vs w1 w.heap.size 9 (some ⟨g1,0,none⟩) 1 ([([46,46,46]:List UInt8)]:List (List UInt8)):=Own.ofBl hB1 (Nat.le_trans (Nat.le_refl _) hl1) (by simp [maxLen]) rfl
  have gr1:=(GrL.of0 (ps:=[(some g_p),(blk A_p_b)]) hg1)
  refine WL.call rfl rfl (zv (hp_b.grown hg1) rfl (hp.g0 hg1) hO1.rd rfl hdj0_1 (apC (Dn.of (Dj.new hp.lt' (Ge.box hl1)).symm) (apC (Dn.of (Dj.new hp_b.lt' (Ge.box hl1)).symm) apN)) H) ?_
  rintro _ w2 ⟨hgl1,p_,A_p_,c_p_,rfl,hB2,hO2,hi1,dj1,H⟩
  have hi2:InP [(some g_p),(blk A_p_b)] w.heap.size (blk A_p_):=InP.trans hi1 (apC (InP.mem (List.Mem.head _)) (apC (InP.mem (List.Mem.tail _ (List.Mem.head _))) apN)) (GrL.sizeL gr1)
  have gr2:GrL [(some g_p),(blk A_p_b)] w w2:=GrL.modL gr1 hgl1 (apC (InP.mem (List.Mem.head _)) (apC (InP.mem (List.Mem.tail _ (List.Mem.head _))) apN))
  exact WL.nil (WX.then_normal (WC.ret (WX.then_ret (WX.ret0 rfl ⟨gr2,p_,A_p_,c_p_,rfl,hB2,hO2,hi2,dj1,H⟩))))
 ·replace H:=H.2 (of_decide_eq_false b1)
  refine WC.skip (WX.then_normal (WC.seq (WC.region (yp (h:=(WL.nil (WX.then_normal (WC.block (WC.seq (WC.region ?_))))))))))
  rcases PV.empCases v with he1 | he1
  ·replace H:=H.1 he1
   obtain ⟨g_l,A_l,c_l,hv1,hB3,hR1,hr1,hd1⟩:=VR.empOut hv he1
   refine WL.y rfl (qw Tryz.underlying61 rfl rfl hv1) (yp (h:=(yp (h:=(WL.nil (WX.then_normal (WC.cond rfl (fun _=>WC.seq (WC.region (yp (h:=(WL.nil (WX.then_normal (WC.seq (WC.region (yp (h:=(WL.lit za rfl rfl rfl (zf rfl zm) rfl (by omega) (fun g2 w3 hB4 hg2 hl2=>?_)))))))))))) (fun h=>by cases h))))))))
   have hO3:Own vs w3 w.heap.size 9 (some ⟨g2,0,none⟩) 1 ([([91]:List UInt8)]:List (List UInt8)):=Own.ofBl hB4 (Nat.le_trans (Nat.le_refl _) hl2) (by simp [maxLen]) rfl
   have gr3:=(GrL.of0 (ps:=[(some g_p),(blk A_p_b)]) hg2)
   have k5:=hR1.grown hg2
   have k6:=hr1.grown hg2
   refine WL.call rfl rfl (zv (hp_b.grown hg2) rfl (hp.g0 hg2) hO3.rd rfl hdj0_1 (apC (Dn.of (Dj.new hp.lt' (Ge.box hl2)).symm) (apC (Dn.of (Dj.new hp_b.lt' (Ge.box hl2)).symm) apN)) H) ?_
   rintro _ w4 ⟨hgl2,p_2,A_p_2,c_p_2,rfl,hB5,hO4,hi3,dj2,H⟩
   have hi4:InP [(some g_p),(blk A_p_b)] w.heap.size (blk A_p_2):=InP.trans hi3 (apC (InP.mem (List.Mem.head _)) (apC (InP.mem (List.Mem.tail _ (List.Mem.head _))) apN)) (GrL.sizeL gr3)
   have gr4:GrL [(some g_p),(blk A_p_b)] w w4:=GrL.modL gr3 hgl2 (apC (InP.mem (List.Mem.head _)) (apC (InP.mem (List.Mem.tail _ (List.Mem.head _))) apN))
   have k9:=k6.goL hgl2 (apC (DnD.nil (d:=deV)) (apC (DnD.nil (d:=deV)) apN))
   refine WL.nil (WX.then_normal (WC.seq (WC.region (yp (h:=(yp (h:=(yp (h:=(WL.y rfl (Yld.fa0 (o:=0) (by kernel_rfl) rfl) (WL.y rfl (Yld.bload za ((hB3.g0 hg2).goL hgl2 (apC (hd1 _ (hv.inp hap0 (InP.mem (List.Mem.head _)))) (apC (hd1 _ (hv.inp hap0 (InP.mem (List.Mem.tail _ (List.Mem.head _))))) apN))) rfl rfl rfl) (yp (h:=?_)))))))))))))
   obtain ⟨h1,H⟩:=H
   refine WL.y rfl (Yld.add rfl rfl h1) (WL.call rfl rfl (W_pval_printer_items hO4 rfl hB5 (k5.goL hgl2 (apC (fun h=>absurd rfl h) (apC (fun h=>absurd rfl h) apN))) rfl k9 dj2 (apC (fun h=>absurd rfl h) (apC (InP.dn hi3 (fun hx=>k5.lt' hx) (apC (fun h=>absurd rfl h) (apC (fun h=>absurd rfl h) apN))) apN)) (apC (DnD.nil (d:=deV)) (apC (RelD.inp k6 (apC (DnD.nil (d:=deV)) (apC (DnD.nil (d:=deV)) apN)) hi3) apN)) H) ?_)
   rintro _ w5 ⟨hgl3,p_3,A_p_3,c_p_3,rfl,hB6,hO5,hi5,dj3,H⟩
   have hi6:InP [(some g_p),(blk A_p_b)] w.heap.size (blk A_p_3):=InP.trans hi5 (apC (InP.mem (List.Mem.head _)) (apC hi4 apN)) (GrL.sizeL gr4)
   have gr5:GrL [(some g_p),(blk A_p_b)] w w5:=GrL.modL gr4 hgl3 (apC (InP.mem (List.Mem.head _)) (apC hi4 apN))
   refine WL.nil (WX.then_normal (WC.region (yp (h:=(WL.lit za rfl rfl rfl (zf rfl zm) rfl (by omega) (fun g3 w6 hB7 hg3 hl3=>?_))))))
   have hO6:Own vs w6 w.heap.size 9 (some ⟨g3,0,none⟩) 1 ([([93]:List UInt8)]:List (List UInt8)):=Own.ofBl hB7 (Nat.le_trans (GrL.sizeL gr5) hl3) (by simp [maxLen]) rfl
   have gr6:=GrL.add0 gr5 hg3
   refine WL.call rfl rfl (zv (hO5.grown hg3) rfl (hB6.g0 hg3) hO6.rd rfl dj3 (apC (Dn.of (Dj.new hB6.lt' (Ge.box hl3)).symm) (apC (Dn.of (Dj.new hO5.lt' (Ge.box hl3)).symm) apN)) H) ?_
   rintro _ w7 ⟨hgl4,p_4,A_p_4,c_p_4,rfl,hB8,hO7,hi7,dj4,H⟩
   have hi8:InP [(some g_p),(blk A_p_b)] w.heap.size (blk A_p_4):=InP.trans hi7 (apC (InP.mem (List.Mem.head _)) (apC hi6 apN)) (GrL.sizeL gr6)
   have gr7:GrL [(some g_p),(blk A_p_b)] w w7:=GrL.modL gr6 hgl4 (apC (InP.mem (List.Mem.head _)) (apC hi6 apN))
   exact WL.nil (WX.block_normal (WX.end0 rfl ⟨gr7,p_4,A_p_4,c_p_4,rfl,hB8,hO7,hi8,dj4,H⟩))
  ·replace H:=H.2 he1
   refine WL.y rfl (zw (z:=.pointer none) Tryz.underlying61 rfl (fun _=>by kernel_rfl) hv rfl (tyP_emp he1)) (yp (h:=(yp (h:=(WL.nil (WX.then_normal (WC.cond rfl (fun h=>by cases h) (fun _=>WC.seq (WC.region ?_)))))))))
   rcases PV.tupCases v with ⟨l,he2⟩ | he2
   ·replace H:=H.1 l he2
    obtain ⟨g_t,A_t,c_t,hs_t,hv2,hB9,hR2,hr2,hd2,hd3,hd4⟩:=VR.tupOut hv he2
    refine WL.y rfl (qw Tryz.underlying155 rfl rfl hv2) (yp (h:=(yp (h:=(WL.nil (WX.then_normal (WC.cond rfl (fun _=>WC.seq (WC.region (yp (h:=(WL.nil (WX.then_normal (WC.seq (WC.region (yp (h:=(WL.lit za rfl rfl rfl (zf rfl zm) rfl (by omega) (fun g4 w8 hB10 hg4 hl4=>?_)))))))))))) (fun h=>by cases h))))))))
    have hO8:Own vs w8 w.heap.size 9 (some ⟨g4,0,none⟩) 1 ([([40]:List UInt8)]:List (List UInt8)):=Own.ofBl hB10 (Nat.le_trans (Nat.le_refl _) hl4) (by simp [maxLen]) rfl
    have gr8:=(GrL.of0 (ps:=[(some g_p),(blk A_p_b)]) hg4)
    have k15:=hR2.grown hg4
    have k16:=hr2.grown hg4
    have k17:=hB9.g0 hg4
    refine WL.call rfl rfl (zv (hp_b.grown hg4) rfl (hp.g0 hg4) hO8.rd rfl hdj0_1 (apC (Dn.of (Dj.new hp.lt' (Ge.box hl4)).symm) (apC (Dn.of (Dj.new hp_b.lt' (Ge.box hl4)).symm) apN)) H) ?_
    rintro _ w9 ⟨hgl5,p_5,A_p_5,c_p_5,rfl,hB11,hO9,hi9,dj5,H⟩
    have hi10:InP [(some g_p),(blk A_p_b)] w.heap.size (blk A_p_5):=InP.trans hi9 (apC (InP.mem (List.Mem.head _)) (apC (InP.mem (List.Mem.tail _ (List.Mem.head _))) apN)) (GrL.sizeL gr8)
    have gr9:GrL [(some g_p),(blk A_p_b)] w w9:=GrL.modL gr8 hgl5 (apC (InP.mem (List.Mem.head _)) (apC (InP.mem (List.Mem.tail _ (List.Mem.head _))) apN))
    have k18:=k15.goL hgl5 (apC (hd3 _ (hv.inp hap0 (InP.mem (List.Mem.head _)))) (apC (hd3 _ (hv.inp hap0 (InP.mem (List.Mem.tail _ (List.Mem.head _))))) apN))
    have k19:=k16.goL hgl5 (apC (hd4 _ (hv.inp hap0 (InP.mem (List.Mem.head _)))) (apC (hd4 _ (hv.inp hap0 (InP.mem (List.Mem.tail _ (List.Mem.head _))))) apN))
    have k20:=k17.goL hgl5 (apC (hd2 _ (hv.inp hap0 (InP.mem (List.Mem.head _)))) (apC (hd2 _ (hv.inp hap0 (InP.mem (List.Mem.tail _ (List.Mem.head _))))) apN))
    refine WL.nil (WX.then_normal (WC.seq (WC.region (yp (h:=(yp (h:=(yp (h:=(WL.y rfl (Yld.fa0 (o:=0) (by kernel_rfl) rfl) (WL.y rfl (Yld.bload za k20 rfl rfl rfl) (yp (h:=?_)))))))))))))
    obtain ⟨h2,H⟩:=H
    refine WL.y rfl (Yld.add rfl rfl h2) (WL.call rfl rfl (W_pval_printer_items hO9 rfl hB11 k18 rfl k19 dj5 (apC (hd3 _ (hv.inp hap0 (InP.mem (List.Mem.head _)))) (apC (InP.dn hi9 (fun hx=>k15.lt' hx) (apC (hd3 _ (hv.inp hap0 (InP.mem (List.Mem.head _)))) (apC (hd3 _ (hv.inp hap0 (InP.mem (List.Mem.tail _ (List.Mem.head _))))) apN))) apN)) (apC (hd4 _ (hv.inp hap0 (InP.mem (List.Mem.head _)))) (apC (RelD.inp k16 (apC (hd4 _ (hv.inp hap0 (InP.mem (List.Mem.head _)))) (apC (hd4 _ (hv.inp hap0 (InP.mem (List.Mem.tail _ (List.Mem.head _))))) apN)) hi9) apN)) H) ?_)
    rintro _ w10 ⟨hgl6,p_6,A_p_6,c_p_6,rfl,hB12,hO10,hi11,dj6,H⟩
    have hi12:InP [(some g_p),(blk A_p_b)] w.heap.size (blk A_p_6):=InP.trans hi11 (apC (InP.mem (List.Mem.head _)) (apC hi10 apN)) (GrL.sizeL gr9)
    have gr10:GrL [(some g_p),(blk A_p_b)] w w10:=GrL.modL gr9 hgl6 (apC (InP.mem (List.Mem.head _)) (apC hi10 apN))
    have k21:=k18.goL hgl6 (apC (hd3 _ (hv.inp hap0 (InP.mem (List.Mem.head _)))) (apC (InP.dn hi9 (fun hx=>k15.lt' hx) (apC (hd3 _ (hv.inp hap0 (InP.mem (List.Mem.head _)))) (apC (hd3 _ (hv.inp hap0 (InP.mem (List.Mem.tail _ (List.Mem.head _))))) apN))) apN))
    have k22:=k19.goL hgl6 (apC (hd4 _ (hv.inp hap0 (InP.mem (List.Mem.head _)))) (apC (RelD.inp k16 (apC (hd4 _ (hv.inp hap0 (InP.mem (List.Mem.head _)))) (apC (hd4 _ (hv.inp hap0 (InP.mem (List.Mem.tail _ (List.Mem.head _))))) apN)) hi9) apN))
    refine WL.nil (WX.then_normal (WC.seq ?_))
    obtain ⟨J1,H,hJ1⟩:=H
    refine WC.midF (fun L' w'=>∃ (p0:List UInt8),∃ (A_p0:Option Addr),∃ (c_p0:Nat),∃ (n_p0:Nat),L'=[(0,.pointer (some ⟨g_p,0,none⟩))]∧J1 p0∧n_p0=p0.length∧GrL [(some g_p),(blk A_p_b)] w w'∧Bl w' g_p 153 [.slice A_p0 n_p0 c_p0]∧Own vb w' 0 5 A_p0 c_p0 p0∧Dj (some g_p) (blk A_p0)∧InP [(some g_p),(blk A_p_b)] w.heap.size (blk A_p0)) ?_ (fun hQ=>?_)
    ·clear H
     rintro _ w11 ⟨p0,A_p0,c_p0,n_p0,rfl,H,rfl,gr11,k24,k25,dj7,hi13⟩
     replace H:=hJ1 p0 H
     refine WX.then_normal (WC.region (yp (h:=(WL.lit za rfl rfl rfl (zf rfl zm) rfl (by omega) (fun g5 w12 hB13 hg5 hl5=>?_)))))
     have hO11:Own vs w12 w.heap.size 9 (some ⟨g5,0,none⟩) 1 ([([41]:List UInt8)]:List (List UInt8)):=Own.ofBl hB13 (Nat.le_trans (GrL.sizeL gr11) hl5) (by simp [maxLen]) rfl
     have gr12:=GrL.add0 gr11 hg5
     refine WL.call rfl rfl (zv (k25.grown hg5) rfl (k24.g0 hg5) hO11.rd rfl dj7 (apC (Dn.of (Dj.new k24.lt' (Ge.box hl5)).symm) (apC (Dn.of (Dj.new k25.lt' (Ge.box hl5)).symm) apN)) H) ?_
     rintro _ w13 ⟨hgl7,p_7,A_p_7,c_p_7,rfl,hB14,hO12,hi14,dj8,H⟩
     have hi15:InP [(some g_p),(blk A_p_b)] w.heap.size (blk A_p_7):=InP.trans hi14 (apC (InP.mem (List.Mem.head _)) (apC hi13 apN)) (GrL.sizeL gr12)
     have gr13:GrL [(some g_p),(blk A_p_b)] w w13:=GrL.modL gr12 hgl7 (apC (InP.mem (List.Mem.head _)) (apC hi13 apN))
     exact WL.nil (WX.block_normal (WX.end0 rfl ⟨gr13,p_7,A_p_7,c_p_7,rfl,hB14,hO12,hi15,dj8,H⟩))
    ·clear hJ1
     refine WC.seq (WC.region (yp (h:=(yp (h:=(WL.y rfl (Yld.fa0 (o:=0) (by kernel_rfl) rfl) (WL.y rfl (Yld.bload za (k20.goL hgl6 (apC (hd2 _ (hv.inp hap0 (InP.mem (List.Mem.head _)))) (apC (InP.dj hi9 k17.lt' (apC (hd2 _ (hv.inp hap0 (InP.mem (List.Mem.head _)))) (apC (hd2 _ (hv.inp hap0 (InP.mem (List.Mem.tail _ (List.Mem.head _))))) apN))).symm apN))) rfl rfl rfl) (yp (h:=(yp (h:=(WL.nil (WX.then_normal (WC.cond rfl (fun b2=>?_) (fun b2=>?_)))))))))))))))
     ·replace H:=H.1 (of_decide_eq_true b2)
      refine WC.region (yp (h:=(WL.lit za rfl rfl rfl (zf rfl zm) rfl (by omega) (fun g6 w14 hB15 hg6 hl6=>?_))))
      have hO13:Own vs w14 w.heap.size 9 (some ⟨g6,0,none⟩) 1 ([([44]:List UInt8)]:List (List UInt8)):=Own.ofBl hB15 (Nat.le_trans (GrL.sizeL gr10) hl6) (by simp [maxLen]) rfl
      have gr14:=GrL.add0 gr10 hg6
      refine WL.call rfl rfl (zv (hO10.grown hg6) rfl (hB12.g0 hg6) hO13.rd rfl dj6 (apC (Dn.of (Dj.new hB12.lt' (Ge.box hl6)).symm) (apC (Dn.of (Dj.new hO10.lt' (Ge.box hl6)).symm) apN)) H) ?_
      rintro _ w15 ⟨hgl8,p_8,A_p_8,c_p_8,rfl,hB16,hO14,hi16,dj9,H⟩
      have hi17:InP [(some g_p),(blk A_p_b)] w.heap.size (blk A_p_8):=InP.trans hi16 (apC (InP.mem (List.Mem.head _)) (apC hi12 apN)) (GrL.sizeL gr14)
      have gr15:GrL [(some g_p),(blk A_p_b)] w w15:=GrL.modL gr14 hgl8 (apC (InP.mem (List.Mem.head _)) (apC hi12 apN))
      refine WL.nil ?_
      exact WX.weaken (by repeat (first | exact Sub.nil | refine Sub.cons rfl ?_)) (hQ _ _ ⟨p_8,A_p_8,c_p_8,p_8.length,rfl,H,rfl,gr15,hB16,hO14,dj9,hi17⟩)
     ·replace H:=H.2 (of_decide_eq_false b2)
      refine WC.skip ?_
      exact WX.weaken (by repeat (first | exact Sub.nil | refine Sub.cons rfl ?_)) (hQ _ _ ⟨p_6,A_p_6,c_p_6,p_6.length,rfl,H,rfl,gr10,hB12,hO10,dj6,hi12⟩)
   ·replace H:=H.2 he2
    exact WL.y rfl (zw (z:=.pointer none) Tryz.underlying155 rfl (fun _=>by kernel_rfl) hv rfl (tyP_tup he2)) (yp (h:=(yp (h:=(WL.nil (WX.then_normal (WC.cond rfl (fun h=>by cases h) (fun _=>WC.seq (WC.region (WL.y rfl (zw (z:=.pointer none) Tryz.underlying242 rfl (fun _=>by kernel_rfl) hv rfl (tyP_no rfl v)) (yp (h:=(yp (h:=(WL.nil (WX.then_normal (WC.cond rfl (fun h=>by cases h) (fun _=>WC.seq (WC.region (WL.y rfl (zw (z:=.pointer none) Tryz.underlying269 rfl (fun _=>by kernel_rfl) hv rfl (tyP_no rfl v)) (yp (h:=(yp (h:=(WL.nil (WX.then_normal (WC.cond rfl (fun h=>by cases h) (fun _=>WC.skip (WX.block_normal (WX.end0 rfl ⟨(GrL.refl _),p_b,A_p_b,c_p_b,rfl,hp,hp_b,(InP.mem (List.Mem.tail _ (List.Mem.head _))),hdj0_1,H⟩))))))))))))))))))))))))))))))
set_option maxHeartbeats 8000000 in
theorem W_val_printer_reprT {w:World} {g_p:Nat} {p_b:List UInt8} {A_p_b:Option Addr} {c_p_b:Nat} {v_v:OV} {F_v:Nat→Prop} {v:PV} {deep:Int} {n_p_b:Nat} {K:(List UInt8)→Prop} (hp_b:Own vb w 0 5 A_p_b c_p_b p_b) (hn_p_b:n_p_b=p_b.length) (hp:Bl w g_p 153 [.slice A_p_b n_p_b c_p_b]) (hv:RelD deV w [(v_v,F_v)] [v]) (hdj0_1:Dj (some g_p) (blk A_p_b)) (hap0:AllP (DnD deV [(v_v,F_v)] [v]) [(some g_p),(blk A_p_b)]) (H:qB p_b v deep K):Fn Tryz.prog 82 ⟨[.pointer (some ⟨g_p,0,none⟩),v_v.1,.int .i64 deep]⟩ w (fun v w'=>GrL [(some g_p),(blk A_p_b)] w w'∧∃ (p_b2:List UInt8),∃ (A_p_b2:Option Addr),∃ (c_p_b2:Nat),v=.tuple #[]∧Bl w' g_p 153 [.slice A_p_b2 p_b2.length c_p_b2]∧Own vb w' 0 5 A_p_b2 c_p_b2 p_b2∧InP [(some g_p),(blk A_p_b)] w.heap.size (blk A_p_b2)∧Dj (some g_p) (blk A_p_b2)∧K p_b2):=by
 subst hn_p_b
 unfold qB at H
 refine Fn.enter (by kernel_rfl) Tryz.func82 rfl Tryz.ntmps82 rfl ?_
 replace H:=H (Nat.le_trans hp_b.rd.cap hp_b.rd.max)
 have hNoAt:AllP (NoAt w) [(some g_p),(blk A_p_b)]:=(apC (NoAt.bl hp rfl) (apC (NoAt.own hp_b rfl) apN))
 refine WC.seq (WC.seq (WC.region (yp (h:=(WL.call rfl rfl (qC hp_b.rd rfl hp H) ?_)))))
 rintro _ _ ⟨rfl,t17,rfl,H⟩
 refine WL.nil (WX.then_normal (WC.cond rfl (fun b1=>?_) (fun b1=>?_)))
 ·replace H:=H.1 (b1)
  exact WC.ret (WX.then_ret (WX.ret0 rfl ⟨(GrL.refl _),p_b,A_p_b,c_p_b,rfl,hp,hp_b,(InP.mem (List.Mem.tail _ (List.Mem.head _))),hdj0_1,H⟩))
 ·replace H:=H.2 (b1)
  refine WC.skip (WX.then_normal (WC.seq (WC.region (yp (h:=(WL.nil (WX.then_normal (WC.block (WC.seq (WC.region ?_))))))))))
  obtain ⟨h1,H⟩:=H
  refine WL.y rfl (zw (z:=.agg ⟨[]⟩) Tryz.underlying221 rfl (fun _=>by kernel_rfl) hv rfl (tyP_none h1)) (yp (h:=(yp (h:=(WL.nil (WX.then_normal (WC.cond rfl (fun h=>by cases h) (fun _=>WC.seq (WC.region (WL.y rfl (zw (z:=.bool false) Tryz.underlying223 rfl (fun _=>by kernel_rfl) hv rfl (tyP_no rfl v)) (yp (h:=(yp (h:=(WL.nil (WX.then_normal (WC.cond rfl (fun h=>by cases h) (fun _=>WC.seq (WC.region ?_)))))))))))))))))))
  rcases PV.intCases v with ⟨z,he1⟩ | he1
  ·replace H:=H.1 z he1
   obtain ⟨a,b,hv1,hN1,one1,one2,hL1⟩:=VR.intOut hv he1
   refine WL.y rfl (qw Tryz.underlying208 rfl rfl hv1) (yp (h:=(yp (h:=(WL.nil (WX.then_normal (WC.cond rfl (fun _=>WC.seq (WC.region (WL.alloc rfl zero208 (fun g1 w1 hB1 hg1 hl1=>WL.storeW (vs:=[a,b]) za rfl rfl rfl (zf one1 (zf one2 zm)) hB1 rfl rfl (fun w2 hB2 hg2=>?_))))) (fun h=>by cases h))))))))
   have gr2:GrL [(some g_p),(blk A_p_b)] w w2:=GrL.mod ((GrL.of0 (ps:=[(some g_p),(blk A_p_b)]) hg1)) hg2 (InP.ge (Ge.le (Ge.box hl1) (Nat.le_refl _)))
   refine WL.nil (WX.then_normal (WC.region (yp (h:=(WL.y rfl (Yld.fa0 (o:=0) (by kernel_rfl) rfl) (WL.y rfl (Yld.bagg (vs:=[a,b]) za hB2 rfl rfl rfl rfl) (WL.call rfl rfl (W_num_Num_Text (Nm.goV (hN1.grown hg1) hL1 (GrL.of1 hg2) (apC (DnD.one (hv.inp hap0 (InP.ge (Ge.le (Ge.box hl1) (Nat.le_refl _))))) apN)) H) ?_)))))))
   rintro _ w3 ⟨hg3,t41,rfl,H⟩
   have gr3:=GrL.add0 gr2 hg3
   have k7:=((hp_b.grown hg1).go hg2 (Dj.new hp_b.lt' (Ge.box hl1))).grown hg3
   have k8:=((hp.g0 hg1).go hg2 (Dj.new hp.lt' (Ge.box hl1))).g0 hg3
   refine WL.lit za rfl rfl rfl (zf rfl zm) rfl (by omega) (fun g2 w4 hB3 hg4 hl2=>?_)
   have hO1:Own vs w4 w.heap.size 9 (some ⟨g2,0,none⟩) 1 ([t41]:List (List UInt8)):=Own.ofBl hB3 (Nat.le_trans (GrL.sizeL gr3) hl2) (by simp [maxLen]) rfl
   have gr4:=GrL.add0 gr3 hg4
   refine WL.call rfl rfl (zv (k7.grown hg4) rfl (k8.g0 hg4) hO1.rd rfl hdj0_1 (apC (Dn.of (Dj.new k8.lt' (Ge.box hl2)).symm) (apC (Dn.of (Dj.new k7.lt' (Ge.box hl2)).symm) apN)) H) ?_
   rintro _ w5 ⟨hgl1,p_,A_p_,c_p_,rfl,hB4,hO2,hi1,dj1,H⟩
   have hi2:InP [(some g_p),(blk A_p_b)] w.heap.size (blk A_p_):=InP.trans hi1 (apC (InP.mem (List.Mem.head _)) (apC (InP.mem (List.Mem.tail _ (List.Mem.head _))) apN)) (GrL.sizeL gr4)
   have gr5:GrL [(some g_p),(blk A_p_b)] w w5:=GrL.modL gr4 hgl1 (apC (InP.mem (List.Mem.head _)) (apC (InP.mem (List.Mem.tail _ (List.Mem.head _))) apN))
   exact WL.nil (WX.block_normal (WX.end0 rfl ⟨gr5,p_,A_p_,c_p_,rfl,hB4,hO2,hi2,dj1,H⟩))
  ·replace H:=H.2 he1
   refine WL.y rfl (zw (z:=.agg ⟨[.bool false,.slice none 0 0]⟩) Tryz.underlying208 rfl (fun _=>by kernel_rfl) hv rfl (tyP_int he1)) (yp (h:=(yp (h:=(WL.nil (WX.then_normal (WC.cond rfl (fun h=>by cases h) (fun _=>WC.seq (WC.region (WL.y rfl (zw (z:=vs ([]:List UInt8)) Tryz.underlying169 rfl (fun _=>by kernel_rfl) hv rfl (tyP_no rfl v)) (yp (h:=(yp (h:=(WL.nil (WX.then_normal (WC.cond rfl (fun h=>by cases h) (fun _=>WC.seq (WC.region (WL.y rfl (assertNoI (z:=.nilIface) Tryz.underlying227 (fun _=>by kernel_rfl) (by decide +kernel) hv rfl) (yp (h:=(yp (h:=(WL.nil (WX.then_normal (WC.cond rfl (fun h=>by cases h) (fun _=>WC.seq (WC.region (WL.y rfl (assertNoI (z:=.nilIface) Tryz.underlying229 (fun _=>by kernel_rfl) (by decide +kernel) hv rfl) (yp (h:=(yp (h:=(WL.nil (WX.then_normal (WC.cond rfl (fun h=>by cases h) (fun _=>WC.seq (WC.region (WL.y rfl (assertNoI (z:=.nilIface) Tryz.underlying232 (fun _=>by kernel_rfl) (by decide +kernel) hv rfl) (yp (h:=(yp (h:=(WL.nil (WX.then_normal (WC.cond rfl (fun h=>by cases h) (fun _=>WC.seq (WC.region (yp (h:=(WL.nil (WX.then_normal (WC.region (yp (h:=(yp (h:=(yp (h:=?_))))))))))))))))))))))))))))))))))))))))))))))))))))))))))))
   refine WL.call rfl rfl (W_pval_printer_parts hp_b rfl hp hv hdj0_1 (apC (hv.inp hap0 (InP.mem (List.Mem.head _))) (apC (hv.inp hap0 (InP.mem (List.Mem.tail _ (List.Mem.head _)))) apN)) H) ?_
   rintro _ w6 ⟨hgl2,p_2,A_p_2,c_p_2,rfl,hB5,hO3,hi3,dj2,H⟩
   have hi4:InP [(some g_p),(blk A_p_b)] w.heap.size (blk A_p_2):=InP.trans hi3 (apC (InP.mem (List.Mem.head _)) (apC (InP.mem (List.Mem.tail _ (List.Mem.head _))) apN)) (Nat.le_refl _)
   have gr6:GrL [(some g_p),(blk A_p_b)] w w6:=GrL.modL (GrL.refl _) hgl2 (apC (InP.mem (List.Mem.head _)) (apC (InP.mem (List.Mem.tail _ (List.Mem.head _))) apN))
   exact WL.nil (WX.block_normal (WX.end0 rfl ⟨gr6,p_2,A_p_2,c_p_2,rfl,hB5,hO3,hi4,dj2,H⟩))
set_option maxHeartbeats 8000000 in
theorem W_val_Repr {w:World} {v_v:OV} {F_v:Nat→Prop} {v:PV} {K:(List UInt8)→Prop} (hv:RelD deV w [(v_v,F_v)] [v]) (H:M_val_Repr v K):Fn Tryz.prog 18 ⟨[v_v.1]⟩ w (fun v w'=>w.grownBy w' none∧∃ (r:List UInt8),v=vs r∧K r):=by
 unfold M_val_Repr at H
 refine Fn.enter (by kernel_rfl) Tryz.func18 rfl Tryz.ntmps18 rfl ?_
 refine WC.seq (WC.region (yp (h:=(WL.nil (WX.then_normal (WC.seq (WC.region (WL.y rfl (Yld.struct (us:=[.slice none 0 0]) zero153 places153 rfl rfl) (WL.box (us:=[.slice none 0 0]) rfl rfl rfl (fun g1 w1 hB1 hg1 hl1=>?_))))))))))
 have gr1:=hg1
 refine yp (h:=(WL.nil (WX.then_normal (WC.seq (WC.region (yp (h:=(yp (h:=(WL.call rfl rfl (W_val_printer_reprT ((Own.nil vb w1 w.heap.size 5).base (fun _ _=>Nat.zero_le _)) rfl hB1 (hv.grown gr1) Dj.nr (apC (hv.new (Ge.le (Ge.box hl1) (Nat.le_refl _))) (apC (DnD.none hv) apN)) H) ?_))))))))))
 rintro _ w2 ⟨hgl1,t5_,A_t5_,c_t5_,rfl,hB2,hO1,hi1,dj1,H⟩
 have hO2:=hO1.base (InP.toGe hi1 (apC (Ge.le (Ge.box hl1) (Nat.le_refl _)) (apC Ge.none apN)) (ze gr1))
 exact WL.nil (WX.then_normal (WC.seq (WC.region (yp (h:=(yp (h:=(yp (h:=(WL.y rfl (Yld.bload za hB2 rfl rfl rfl) (WL.y rfl (Yld.b2s za hO2.rd rfl rfl rfl rfl rfl) (yp (h:=(WL.nil (WX.then_normal (WC.ret (WX.ret1 rfl rfl ⟨(gr_modL gr1 hgl1 (apC (Ge.le (Ge.box hl1) (Nat.le_refl _)) (apC Ge.none apN))),t5_,rfl,H⟩)))))))))))))))))
set_option maxHeartbeats 8000000 in
theorem W_pval_keyer_key {S:List Nat} {B:Nat} {w:World} {g_k:Nat} {k_b:List UInt8} {A_k_b:Option Addr} {c_k_b:Nat} {k_left:Int} {v_v:OV} {F_v:Nat→Prop} {v:PV} {deep:Int} {n_k_b:Nat} {K:Er→(List UInt8)→Int→Prop} (hG:GB S B w) (hB:B≤w.heap.size) (hP:AllP (fun p=>Ge p B) [(some g_k),(blk A_k_b)]) (hS3:3∈S) (hS7:7∈S) (hk_b:Own vb w 0 5 A_k_b c_k_b k_b) (hn_k_b:n_k_b=k_b.length) (hk:Bl w g_k 212 [.slice A_k_b n_k_b c_k_b,.int .i64 k_left]) (hv:RelD deV w [(v_v,F_v)] [v]) (hdj0_1:Dj (some g_k) (blk A_k_b)) (hap0:AllP (DnD deV [(v_v,F_v)] [v]) [(some g_k),(blk A_k_b)]) (H:M_pval_keyer_key k_b k_left v deep K):Fn Tryz.prog 129 ⟨[.pointer (some ⟨g_k,0,none⟩),v_v.1,.int .i64 deep]⟩ w (fun v w'=>GrL [(some g_k),(blk A_k_b)] w w'∧∃ (v_r:Value),∃ (r:Er),∃ (k_b2:List UInt8),∃ (A_k_b2:Option Addr),∃ (c_k_b2:Nat),∃ (k_left2:Int),v=v_r∧ErrR S w' v_r r∧Bl w' g_k 212 [.slice A_k_b2 k_b2.length c_k_b2,.int .i64 k_left2]∧Own vb w' 0 5 A_k_b2 c_k_b2 k_b2∧InP [(some g_k),(blk A_k_b)] w.heap.size (blk A_k_b2)∧Dj (some g_k) (blk A_k_b2)∧K r k_b2 k_left2):=by
 subst hn_k_b
 unfold M_pval_keyer_key at H
 refine Fn.enter (by kernel_rfl) Tryz.func129 rfl Tryz.ntmps129 rfl ?_
 replace H:=H (Nat.le_trans hk_b.rd.cap hk_b.rd.max)
 have hNoAt:AllP (NoAt w) [(some g_k),(blk A_k_b)]:=(apC (NoAt.bl hk rfl) (apC (NoAt.own hk_b rfl) apN))
 refine WC.seq (WC.region (yp (h:=(WL.nil (WX.then_normal (WC.seq (WC.seq (WC.region (yp (h:=(yp (h:=(yp (h:=(WL.y rfl (Yld.bload za hk rfl rfl rfl) ?_)))))))))))))))
 obtain ⟨h1,H⟩:=H
 refine WL.y rfl (Yld.sub rfl rfl h1) (yp (h:=(yp (h:=(WL.store1 one3 rfl rfl rfl hk (by simp) (fun w1 hB2 hg1=>?_))))))
 have hB1:Bl w1 g_k 212 [.slice A_k_b k_b.length c_k_b,.int .i64 (k_left - (1:Int))]:=hB2
 have gr1:GrL [(some g_k),(blk A_k_b)] w w1:=GrL.mod (GrL.refl _) hg1 (InP.mem (List.Mem.head _))
 have k1:=hk_b.go hg1 hdj0_1.symm
 refine WL.nil (WX.then_normal (WC.seq (WC.region (yp (h:=(yp (h:=(yp (h:=(WL.y rfl (Yld.bload za hB1 rfl rfl rfl) (yp (h:=(WL.nil (WX.then_normal (WC.cond rfl (fun b1=>?_) (fun b1=>?_))))))))))))))))
 ·replace H:=H.1 (of_decide_eq_true b1)
  refine WC.seq (WC.region ?_)
  obtain ⟨vE1,_,hE1⟩:=GOK.get (hG.goL gr1 hP).ok 7 1 hS7 rfl rfl
  exact WL.y rfl (Yld.cell za (ErrR.cell hE1 rfl) rfl rfl) (yp (h:=(WL.nil (WX.then_normal (WC.ret (WX.then_ret (WX.ret1 rfl rfl ⟨gr1,vE1,(Er.e 7),k_b,A_k_b,c_k_b,k_left - (1:Int),rfl,hE1,hB1,k1,(InP.mem (List.Mem.tail _ (List.Mem.head _))),hdj0_1,H⟩)))))))
 ·replace H:=H.2 (of_decide_eq_false b1)
  refine WC.skip (WX.then_normal (WC.seq ?_))
  obtain ⟨J1,H,hJ1⟩:=H
  refine WC.midF (fun L' w'=>∃ (k0:List UInt8),∃ (A_k0:Option Addr),∃ (c_k0:Nat),∃ (n_k0:Nat),L'=[(0,.pointer (some ⟨g_k,0,none⟩))]∧J1 k0∧n_k0=k0.length∧GrL [(some g_k),(blk A_k_b)] w w'∧Bl w' g_k 212 [.slice A_k0 n_k0 c_k0,.int .i64 (k_left - (1:Int))]∧Own vb w' 0 5 A_k0 c_k0 k0∧Dj (some g_k) (blk A_k0)∧InP [(some g_k),(blk A_k_b)] w.heap.size (blk A_k0)) ?_ (fun hQ=>?_)
  ·clear H
   rintro _ w2 ⟨k0,A_k0,c_k0,n_k0,rfl,H,rfl,gr2,k2,k3,dj1,hi1⟩
   replace H:=hJ1 k0 H
   refine WX.then_normal (WC.seq (WC.region (yp (h:=(yp (h:=(yp (h:=(yp (h:=(WL.y rfl (Yld.bload za k2 rfl rfl rfl) (WL.lit za rfl rfl rfl (zf rfl zm) rfl (by omega) (fun g1 w3 hB3 hg2 hl1=>?_)))))))))))))
   have hO1:Own vb w3 w.heap.size 5 (some ⟨g1,0,none⟩) 1 ([59]:List UInt8):=Own.ofBl hB3 (Nat.le_trans (GrL.sizeL gr2) hl1) (by simp [maxLen]) rfl
   have gr3:=GrL.add0 gr2 hg2
   have k4:=k2.g0 hg2
   obtain ⟨h2,H⟩:=H
   refine WL.append za rfl rfl One.b (k3.grown hg2) rfl rfl hO1.rd rfl rfl h2 (zx h2) (Nat.zero_le _) (fun A_t175 c_t175 w4 hO2 hg3 hk1=>?_)
   have gr4:GrL [(some g_k),(blk A_k_b)] w w4:=GrL.mod gr3 hg3 hi1
   refine yp (h:=(yp (h:=(WL.store1 one151 rfl rfl rfl (k4.go hg3 dj1) (by simp) (fun w5 hB5 hg4=>?_)))))
   have hB4:Bl w5 g_k 212 [.slice A_t175 ((k0++([59]:List UInt8)).length) c_t175,.int .i64 (k_left - (1:Int))]:=hB5
   have gr5:GrL [(some g_k),(blk A_k_b)] w w5:=GrL.mod gr4 hg4 (InP.mem (List.Mem.head _))
   exact WL.nil (WX.then_normal (WC.seq (WC.region (yp (h:=(WL.nil (WX.then_normal (WC.ret (WX.ret1 rfl rfl ⟨gr5,.nilIface,Er.ok,(k0++([59]:List UInt8)),A_t175,c_t175,k_left - (1:Int),rfl,(ErrR.okR (S:=S) (w:=w5)),hB4,(hO2.go hg4 (Dj.app dj1.symm k4.lt' hk1)),(InP.app hi1 hk1 (GrL.sizeL gr3)),(Dj.app dj1.symm k4.lt' hk1).symm,H⟩)))))))))
  ·clear hJ1
   refine WC.seq (WC.region (yp (h:=(WL.nil (WX.then_normal (WC.block (WC.seq (WC.region ?_))))))))
   obtain ⟨h3,H⟩:=H
   refine WL.y rfl (zw (z:=.agg ⟨[]⟩) Tryz.underlying221 rfl (fun _=>by kernel_rfl) (hv.goL gr1 hap0) rfl (tyP_none h3)) (yp (h:=(yp (h:=(WL.nil (WX.then_normal (WC.cond rfl (fun h=>by cases h) (fun _=>WC.seq (WC.region (WL.y rfl (zw (z:=.bool false) Tryz.underlying223 rfl (fun _=>by kernel_rfl) (hv.goL gr1 hap0) rfl (tyP_no rfl v)) (yp (h:=(yp (h:=(WL.nil (WX.then_normal (WC.cond rfl (fun h=>by cases h) (fun _=>WC.seq (WC.region ?_)))))))))))))))))))
   rcases PV.intCases v with ⟨z,he1⟩ | he1
   ·replace H:=H.1 z he1
    obtain ⟨a,b,hv1,hN1,one1,one2,hL1⟩:=VR.intOut (hv.goL gr1 hap0) he1
    refine WL.y rfl (qw Tryz.underlying208 rfl rfl hv1) (yp (h:=(yp (h:=(WL.nil (WX.then_normal (WC.cond rfl (fun _=>WC.seq (WC.region (WL.alloc rfl zero208 (fun g2 w6 hB6 hg5 hl2=>WL.storeW (vs:=[a,b]) za rfl rfl rfl (zf one1 (zf one2 zm)) hB6 rfl rfl (fun w7 hB7 hg6=>?_))))) (fun h=>by cases h))))))))
    have gr7:GrL [(some g_k),(blk A_k_b)] w w7:=GrL.mod (GrL.add0 gr1 hg5) hg6 (InP.ge (Ge.le (Ge.box hl2) (GrL.sizeL gr1)))
    have k12:=(hB1.g0 hg5).go hg6 (Dj.new hB1.lt' (Ge.box hl2))
    refine WL.nil (WX.then_normal (WC.seq (WC.region (yp (h:=(yp (h:=(yp (h:=(yp (h:=(WL.y rfl (Yld.bload za k12 rfl rfl rfl) (WL.lit za rfl rfl rfl (zf rfl zm) rfl (by omega) (fun g3 w8 hB8 hg7 hl3=>?_))))))))))))))
    have hO3:Own vb w8 w.heap.size 5 (some ⟨g3,0,none⟩) 1 ([73]:List UInt8):=Own.ofBl hB8 (Nat.le_trans (GrL.sizeL gr7) hl3) (by simp [maxLen]) rfl
    have gr8:=GrL.add0 gr7 hg7
    have k15:=k12.g0 hg7
    have k17:=hB7.g0 hg7
    obtain ⟨h4,H⟩:=H
    refine WL.append za rfl rfl One.b (((k1.grown hg5).go hg6 (Dj.new k1.lt' (Ge.box hl2))).grown hg7) rfl rfl hO3.rd rfl rfl h4 (zx h4) (Nat.zero_le _) (fun A_t73 c_t73 w9 hO4 hg8 hk2=>?_)
    have gr9:GrL [(some g_k),(blk A_k_b)] w w9:=GrL.mod gr8 hg8 (InP.mem (List.Mem.tail _ (List.Mem.head _)))
    refine yp (h:=(yp (h:=(WL.store1 one151 rfl rfl rfl (k15.go hg8 hdj0_1) (by simp) (fun w10 hB10 hg9=>?_)))))
    have hB9:Bl w10 g_k 212 [.slice A_t73 ((k_b++([73]:List UInt8)).length) c_t73,.int .i64 (k_left - (1:Int))]:=hB10
    have gr10:GrL [(some g_k),(blk A_k_b)] w w10:=GrL.mod gr9 hg9 (InP.mem (List.Mem.head _))
    have k22:=(k17.go hg8 ((Dj.new k1.lt' (Ge.box hl2)).symm)).go hg9 ((Dj.new hB1.lt' (Ge.box hl2)).symm)
    refine WL.nil (WX.then_normal (WC.chainF (fun k => !(Nat.beq k 7 || Nat.beq k 8 || Nat.beq k 11)) (LD [4,6] (fun w'=>Bl w' g_k 212 [.slice A_t73 ((k_b++([73]:List UInt8)).length) c_t73,.int .i64 (k_left - (1:Int))]∧Bl w' g2 208 [a,b])) mixed (by kernel_rfl) (fun k w' h _=>⟨(zU h hB9),(zU h k22)⟩) (WJ.y rfl rfl (fun w' hw'=>Yld.pure za rfl) (WJ.y rfl rfl (fun w' hw'=>Yld.pure za rfl) (WJ.y rfl rfl (fun w' hw'=>Yld.pure za rfl) (WJ.y rfl rfl (fun w' hw'=>Yld.pure za rfl) (WJ.y rfl rfl (fun w' hw'=>Yld.bload za (hw' rfl).1 rfl rfl rfl) (WJ.y rfl rfl (fun w' hw'=>Yld.fa0 (o:=0) (by kernel_rfl) rfl) (WJ.y rfl rfl (fun w' hw'=>Yld.bagg (vs:=[a,b]) za (hw' rfl).2 rfl rfl rfl rfl) (WJ.call rfl (zo) rfl rfl (W_num_Num_Text (Nm.goV (Nm.goV ((Nm.goV (hN1.grown hg5) hL1 (GrL.of1 hg6) (apC (DnD.one (hv.inp hap0 (InP.ge (Ge.le (Ge.box hl2) (GrL.sizeL gr1))))) apN)).grown hg7) hL1 (GrL.of1 hg8) (apC (DnD.one (hv.inp hap0 (InP.mem (List.Mem.tail _ (List.Mem.head _))))) apN)) hL1 (GrL.of1 hg9) (apC (DnD.one (hv.inp hap0 (InP.mem (List.Mem.head _)))) apN)) H) (fun v w' h w2 e=>DD.keep (⟨(Bl.g0 hB9 (zq h.1 e)),(Bl.g0 k22 (zq h.1 e))⟩)) ?_))))))))))
    rintro _ w11 ⟨hg10,t83,rfl,H⟩
    have gr11:=GrL.add0 gr10 hg10
    have k24:=hB9.g0 hg10
    have k25:=k22.g0 hg10
    obtain ⟨h5,H⟩:=H
    refine WJ.putw rfl (zo) rfl (Eff.appendS za rfl rfl ((hO4.go hg9 (Dj.app hdj0_1.symm k15.lt' hk2)).grown hg10) rfl rfl rfl h5 (zx h5) (Nat.zero_le _)) (fun v w' ⟨_,_,_,_,h,_⟩=>DD.keep (⟨(Bl.go k24 (zq h (Eqv.refl _)) (Dj.app hdj0_1.symm k15.lt' hk2).symm),(Bl.go k25 (zq h (Eqv.refl _)) (Dj.app (Dj.new k1.lt' (Ge.box hl2)) k17.lt' hk2).symm)⟩)) ?_
    rintro _ w12 ⟨A_t84,c_t84,rfl,hO5,hg11,hk3⟩
    have gr12:GrL [(some g_k),(blk A_k_b)] w w12:=GrL.mod gr11 hg11 (InP.app (InP.mem (List.Mem.tail _ (List.Mem.head _))) hk2 (GrL.sizeL gr8))
    refine WJ.y rfl rfl (fun w' hw'=>Yld.pure za rfl) (WJ.y rfl rfl (fun w' hw'=>Yld.pure za rfl) (WJ.eff rfl (Ef0.store1 one151 rfl rfl rfl (k24.go hg11 ((Dj.app hdj0_1.symm k15.lt' hk2).symm)) (by simp)) (fun w' h=>DD.past (by kernel_rfl)) ?_))
    rintro w13 ⟨hB12,hg12⟩
    have hB11:Bl w13 g_k 212 [.slice A_t84 (((k_b++([73]:List UInt8))++t83).length) c_t84,.int .i64 (k_left - (1:Int))]:=hB12
    have gr13:GrL [(some g_k),(blk A_k_b)] w w13:=GrL.mod gr12 hg12 (InP.mem (List.Mem.head _))
    have k29:=(k25.go hg11 ((Dj.app (Dj.new k1.lt' (Ge.box hl2)) k17.lt' hk2).symm)).go hg12 ((Dj.new hB1.lt' (Ge.box hl2)).symm)
    refine WJ.nil (WX.block_normal ?_)
    exact WX.weaken (by repeat (first | exact Sub.nil | refine Sub.cons rfl ?_)) (hQ _ _ ⟨(k_b++([73]:List UInt8))++t83,A_t84,c_t84,((k_b++([73]:List UInt8))++t83).length,rfl,H,rfl,gr13,hB11,(hO5.go hg12 (Dj.app (Dj.app hdj0_1.symm k15.lt' hk2) k24.lt' hk3)),(Dj.app (Dj.app hdj0_1.symm k15.lt' hk2) k24.lt' hk3).symm,(InP.app (InP.app (InP.mem (List.Mem.tail _ (List.Mem.head _))) hk2 (GrL.sizeL gr8)) hk3 (GrL.sizeL gr11))⟩)
   ·replace H:=H.2 he1
    refine WL.y rfl (zw (z:=.agg ⟨[.bool false,.slice none 0 0]⟩) Tryz.underlying208 rfl (fun _=>by kernel_rfl) (hv.goL gr1 hap0) rfl (tyP_int he1)) (yp (h:=(yp (h:=(WL.nil (WX.then_normal (WC.cond rfl (fun h=>by cases h) (fun _=>WC.seq (WC.region (WL.y rfl (zw (z:=vs ([]:List UInt8)) Tryz.underlying169 rfl (fun _=>by kernel_rfl) (hv.goL gr1 hap0) rfl (tyP_no rfl v)) (yp (h:=(yp (h:=(WL.nil (WX.then_normal (WC.cond rfl (fun h=>by cases h) (fun _=>WC.seq (WC.region ?_)))))))))))))))))))
    rcases PV.tupCases v with ⟨l,he2⟩ | he2
    ·replace H:=H.1 l he2
     obtain ⟨g_t,A_t,c_t,hs_t,hv2,hB13,hR1,hr1,hd1,hd2,hd3⟩:=VR.tupOut (hv.goL gr1 hap0) he2
     refine WL.y rfl (qw Tryz.underlying155 rfl rfl hv2) (yp (h:=(yp (h:=(WL.nil (WX.then_normal (WC.cond rfl (fun _=>WC.seq (WC.region (yp (h:=(WL.nil (WX.then_normal (WC.seq (WC.seq (WC.region (yp (h:=(yp (h:=(WL.nil (WX.then_normal (WC.cond rfl (fun b2=>?_) (fun b2=>?_))))))))))))))))) (fun h=>by cases h))))))))
     ·replace H:=H.1 (of_decide_eq_true b2)
      refine WC.seq (WC.region ?_)
      obtain ⟨vE2,_,hE2⟩:=GOK.get (hG.goL gr1 hP).ok 7 1 hS7 rfl rfl
      exact WL.y rfl (Yld.cell za (ErrR.cell hE2 rfl) rfl rfl) (yp (h:=(WL.nil (WX.then_normal (WC.ret (WX.then_ret (WX.block_ret (WX.then_ret (WX.ret1 rfl rfl ⟨gr1,vE2,(Er.e 7),k_b,A_k_b,c_k_b,k_left - (1:Int),rfl,hE2,hB1,k1,(InP.mem (List.Mem.tail _ (List.Mem.head _))),hdj0_1,H⟩)))))))))
     ·replace H:=H.2 (of_decide_eq_false b2)
      refine WC.skip (WX.then_normal (WC.seq (WC.region (yp (h:=(yp (h:=(yp (h:=(yp (h:=(WL.y rfl (Yld.bload za hB1 rfl rfl rfl) (WL.lit za rfl rfl rfl (zf rfl zm) rfl (by omega) (fun g4 w14 hB14 hg13 hl4=>?_))))))))))))))
      have hO6:Own vb w14 w.heap.size 5 (some ⟨g4,0,none⟩) 1 ([84]:List UInt8):=Own.ofBl hB14 (Nat.le_trans (GrL.sizeL gr1) hl4) (by simp [maxLen]) rfl
      have gr14:=GrL.add0 gr1 hg13
      have k32:=hB1.g0 hg13
      have k33:=hR1.grown hg13
      have k34:=hr1.grown hg13
      obtain ⟨h6,H⟩:=H
      refine WL.append za rfl rfl One.b (k1.grown hg13) rfl rfl hO6.rd rfl rfl h6 (zx h6) (Nat.zero_le _) (fun A_t139 c_t139 w15 hO7 hg14 hk4=>?_)
      have gr15:GrL [(some g_k),(blk A_k_b)] w w15:=GrL.mod gr14 hg14 (InP.mem (List.Mem.tail _ (List.Mem.head _)))
      refine yp (h:=(yp (h:=(WL.store1 one151 rfl rfl rfl (k32.go hg14 hdj0_1) (by simp) (fun w16 hB16 hg15=>?_)))))
      have hB15:Bl w16 g_k 212 [.slice A_t139 ((k_b++([84]:List UInt8)).length) c_t139,.int .i64 (k_left - (1:Int))]:=hB16
      have gr16:GrL [(some g_k),(blk A_k_b)] w w16:=GrL.mod gr15 hg15 (InP.mem (List.Mem.head _))
      refine WL.nil (WX.then_normal (WC.seq (WC.seq (WC.region (yp (h:=(yp (h:=(WL.y rfl (Yld.fa0 (o:=0) (by kernel_rfl) rfl) (WL.y rfl (Yld.bload za (((hB13.g0 hg13).go hg14 (hd1 _ (hv.inp hap0 (InP.mem (List.Mem.tail _ (List.Mem.head _)))))).go hg15 (hd1 _ (hv.inp hap0 (InP.mem (List.Mem.head _))))) rfl rfl rfl) (yp (h:=(yp (h:=(WL.nil (WX.then_normal (WC.block ?_)))))))))))))))))
      obtain ⟨I1,mu1,h0_1,HR1⟩:=H
      refine WC.loopF (fun n' L' w'=>∃ (t147:Int),n'=mu1 t147∧L'=[(0,.pointer (some ⟨g_k,0,none⟩)),(2,.int .i64 deep),(145,.slice A_t ((l.map PV.int).length) c_t),(146,.int .i64 ((l.map PV.int).length:Int)),(147,.int .i64 t147)]∧I1 t147∧GrL [(some g_k),(blk A_k_b)] w w'∧Bl w' g_k 212 [.slice A_t139 ((k_b++([84]:List UInt8)).length) c_t139,.int .i64 (k_left - (1:Int))]∧Rd vv w' A_t c_t hs_t∧RelD deV w' hs_t (l.map PV.int)∧Own vb w' 0 5 A_t139 c_t139 (k_b++([84]:List UInt8))∧Dj (some g_k) (blk A_t139)∧Dn hs_t (blk A_t) (some g_k)∧Dn hs_t (blk A_t) (blk A_t139)∧DnD deV hs_t (l.map PV.int) (some g_k)∧DnD deV hs_t (l.map PV.int) (blk A_t139)) _ _ ⟨(0:Int),rfl,rfl,h0_1,gr16,hB15,((k33.go hg14 (hd2 _ (hv.inp hap0 (InP.mem (List.Mem.tail _ (List.Mem.head _)))))).go hg15 (hd2 _ (hv.inp hap0 (InP.mem (List.Mem.head _))))),((k34.go hg14 (hd3 _ (hv.inp hap0 (InP.mem (List.Mem.tail _ (List.Mem.head _)))))).go hg15 (hd3 _ (hv.inp hap0 (InP.mem (List.Mem.head _))))),(hO7.go hg15 (Dj.app hdj0_1.symm k32.lt' hk4)),(Dj.app hdj0_1.symm k32.lt' hk4).symm,(hd2 _ (hv.inp hap0 (InP.mem (List.Mem.head _)))),(Dn.app (hd2 _ (hv.inp hap0 (InP.mem (List.Mem.tail _ (List.Mem.head _))))) (fun hx=>k33.lt' hx) hk4),(hd3 _ (hv.inp hap0 (InP.mem (List.Mem.head _)))),(RelD.app k34 (hd3 _ (hv.inp hap0 (InP.mem (List.Mem.tail _ (List.Mem.head _))))) hk4)⟩ (by repeat (first | exact Sub.nil | refine Sub.cons rfl ?_)) ?_
      clear h0_1
      rintro _ _ w17 ⟨t147,rfl,rfl,hI1,gr17,k44,k45,k46,k47,dj2,dj3,dj4,dj5,dj6⟩
      have H:=HR1 t147 hI1
      refine WC.seq (WC.region (yp (h:=(WL.nil (WX.then_normal (WC.seq (WC.cond rfl (fun b3=>?_) (fun b3=>?_))))))))
      ·replace H:=H.1 (of_decide_eq_true b3)
       refine WC.skip (WX.then_normal (WC.seq (WC.block (WC.seq (WC.region ?_)))))
       obtain ⟨h7,H⟩:=H
       refine WL.y rfl (Yld.iaddrW za k45 rfl rfl hr1.1.symm rfl h7.1 h7.2) ?_
       obtain ⟨⟨v_el,F_el⟩,eh1,hR2⟩:=RelD.at k46 vh0 PV.nil (j:=t147.toNat) (Nat.lt_of_lt_of_eq (iltN h7 hr1.1.symm) k46.1)
       have hv3:RelD deV w17 [(v_el,F_el)] [(l.map PV.int).getD t147.toNat PV.nil]:=RelD.cons hR2 RelD.nil
       refine WL.y rfl (Yld.to (v:=v_el.1) (Yld.iload vh0 za k45 rfl rfl (iltN h7 hr1.1.symm)) (congrArg vv eh1)) (yp (h:=(WL.nil (WX.then_normal (WC.seq (WC.region (yp (h:=(yp (h:=(yp (h:=?_))))))))))))
       obtain ⟨h8,H⟩:=H
       exact WL.y rfl (Yld.add rfl rfl h8) (False.elim H)
      ·replace H:=H.2 (of_decide_eq_false b3)
       refine WC.exit (WX.then_exit (WX.then_exit (WX.block_same (WX.then_normal (WC.region (yp (h:=(yp (h:=(yp (h:=(yp (h:=(WL.y rfl (Yld.bload za k44 rfl rfl rfl) (WL.lit za rfl rfl rfl (zf rfl zm) rfl (by omega) (fun g5 w18 hB17 hg16 hl5=>?_))))))))))))))))
       have hO8:Own vb w18 w.heap.size 5 (some ⟨g5,0,none⟩) 1 ([69]:List UInt8):=Own.ofBl hB17 (Nat.le_trans (GrL.sizeL gr17) hl5) (by simp [maxLen]) rfl
       have gr18:=GrL.add0 gr17 hg16
       have k48:=k44.g0 hg16
       obtain ⟨h9,H⟩:=H
       refine WL.append za rfl rfl One.b (k47.grown hg16) rfl rfl hO8.rd rfl rfl h9 (zx h9) (Nat.zero_le _) (fun A_t166 c_t166 w19 hO9 hg17 hk5=>?_)
       have gr19:GrL [(some g_k),(blk A_k_b)] w w19:=GrL.mod gr18 hg17 (InP.app (InP.mem (List.Mem.tail _ (List.Mem.head _))) hk4 (GrL.sizeL gr14))
       refine yp (h:=(yp (h:=(WL.store1 one151 rfl rfl rfl (k48.go hg17 dj2) (by simp) (fun w20 hB19 hg18=>?_)))))
       have hB18:Bl w20 g_k 212 [.slice A_t166 (((k_b++([84]:List UInt8))++([69]:List UInt8)).length) c_t166,.int .i64 (k_left - (1:Int))]:=hB19
       have gr20:GrL [(some g_k),(blk A_k_b)] w w20:=GrL.mod gr19 hg18 (InP.mem (List.Mem.head _))
       refine WL.nil (WX.block_normal ?_)
       exact WX.weaken (by repeat (first | exact Sub.nil | refine Sub.cons rfl ?_)) (hQ _ _ ⟨(k_b++([84]:List UInt8))++([69]:List UInt8),A_t166,c_t166,((k_b++([84]:List UInt8))++([69]:List UInt8)).length,rfl,H,rfl,gr20,hB18,(hO9.go hg18 (Dj.app dj2.symm k48.lt' hk5)),(Dj.app dj2.symm k48.lt' hk5).symm,(InP.app (InP.app (InP.mem (List.Mem.tail _ (List.Mem.head _))) hk4 (GrL.sizeL gr14)) hk5 (GrL.sizeL gr18))⟩)
    ·replace H:=H.2 he2
     refine WL.y rfl (zw (z:=.pointer none) Tryz.underlying155 rfl (fun _=>by kernel_rfl) (hv.goL gr1 hap0) rfl (tyP_tup he2)) (yp (h:=(yp (h:=(WL.nil (WX.then_normal (WC.cond rfl (fun h=>by cases h) (fun _=>WC.seq (WC.region (yp (h:=(WL.nil (WX.then_normal (WC.seq (WC.region ?_)))))))))))))))
     obtain ⟨vE3,_,hE3⟩:=GOK.get (hG.goL gr1 hP).ok 3 0 hS3 rfl rfl
     exact WL.y rfl (Yld.cell za (ErrR.cell hE3 rfl) rfl rfl) (yp (h:=(WL.nil (WX.then_normal (WC.ret (WX.block_ret (WX.then_ret (WX.ret1 rfl rfl ⟨gr1,vE3,(Er.e 3),k_b,A_k_b,c_k_b,k_left - (1:Int),rfl,hE3,hB1,k1,(InP.mem (List.Mem.tail _ (List.Mem.head _))),hdj0_1,H⟩))))))))
set_option maxHeartbeats 8000000 in
theorem W_val_Key {S:List Nat} {w:World} {v_v:OV} {F_v:Nat→Prop} {v:PV} {K:(List UInt8)→Er→Prop} (hG:GOK S w) (hS3:3∈S) (hS7:7∈S) (hv:RelD deV w [(v_v,F_v)] [v]) (H:M_val_Key v K):Fn Tryz.prog 72 ⟨[v_v.1]⟩ w (fun v w'=>w.grownBy w' none∧∃ (r0:List UInt8),∃ (v_r1:Value),∃ (r1:Er),v=.tuple #[vs r0,v_r1]∧ErrR S w' v_r1 r1∧K r0 r1):=by
 unfold M_val_Key at H
 refine Fn.enter (by kernel_rfl) Tryz.func72 rfl Tryz.ntmps72 rfl ?_
 refine WC.seq (WC.region (yp (h:=(yp (h:=(WL.nil (WX.then_normal (WC.seq (WC.region (WL.y rfl (Yld.struct (us:=[.slice none 0 0,.int .i64 (4096:Int)]) zero212 places212 rfl rfl) (WL.box (us:=[.slice none 0 0,.int .i64 (4096:Int)]) rfl rfl rfl (fun g1 w1 hB1 hg1 hl1=>?_))))))))))))
 have gr1:=hg1
 refine yp (h:=(WL.nil (WX.then_normal (WC.seq (WC.seq (WC.region (yp (h:=(yp (h:=(WL.call rfl rfl (W_pval_keyer_key (GB.grown hG gr1) (ze gr1) (apC (Ge.le (Ge.box hl1) (Nat.le_refl _)) (apC (show Ge (blk none) _ from Ge.none) apN)) hS3 hS7 ((Own.nil vb w1 w.heap.size 5).base (fun _ _=>Nat.zero_le _)) rfl hB1 (hv.grown gr1) Dj.nr (apC (hv.new (Ge.le (Ge.box hl1) (Nat.le_refl _))) (apC (DnD.none hv) apN)) H) ?_)))))))))))
 rintro v_err w2 ⟨hgl1,_,err,t7_,A_t7_,c_t7_,t7_2,rfl,herr,hB2,hO1,hi1,dj1,H⟩
 have hO2:=hO1.base (InP.toGe hi1 (apC (Ge.le (Ge.box hl1) (Nat.le_refl _)) (apC Ge.none apN)) (ze gr1))
 have gr2:=gr_modL gr1 hgl1 (apC (Ge.le (Ge.box hl1) (Nat.le_refl _)) (apC Ge.none apN))
 refine yp (h:=(WL.nil (WX.then_normal (WC.seq (WC.region (yp (h:=(WL.y rfl (Yld.errneq Tryz.underlying43 herr rfl) (WL.nil (WX.then_normal (WC.cond rfl (fun b1=>?_) (fun b1=>?_))))))))))))
 ·replace H:=H.1 (nd_true b1)
  exact WC.seq (WC.region (yp (h:=(yp (h:=(yp (h:=(WL.nil (WX.then_normal (WC.ret (WX.then_ret (WX.ret2 rfl rfl rfl ⟨gr2,([]:List UInt8),v_err,err,rfl,herr,H⟩))))))))))))
 ·replace H:=H.2 (nd_false b1)
  exact WC.skip (WX.then_normal (WC.seq (WC.region (yp (h:=(yp (h:=(yp (h:=(WL.y rfl (Yld.bload za hB2 rfl rfl rfl) (WL.y rfl (Yld.b2s za hO2.rd rfl rfl rfl rfl rfl) (yp (h:=(yp (h:=(WL.nil (WX.then_normal (WC.ret (WX.ret2 rfl rfl rfl ⟨gr2,t7_,.nilIface,Er.ok,rfl,(ErrR.okR (S:=S) (w:=w2)),H⟩)))))))))))))))))))
set_option maxHeartbeats 8000000 in
theorem W_val_weight {w:World} {v_v:OV} {F_v:Nat→Prop} {v:PV} {most:Int} {K:Int→Prop} (hv:RelD deV w [(v_v,F_v)] [v]) (H:M_val_weight v most K):Fn Tryz.prog 128 ⟨[v_v.1,.int .i64 most]⟩ w (fun v w'=>w.grownBy w' none∧∃ (r:Int),v=.int .i64 r∧K r):=by
 unfold M_val_weight at H
 refine Fn.enter (by kernel_rfl) Tryz.func128 rfl Tryz.ntmps128 rfl ?_
 refine WC.seq (WC.region (yp (h:=(WL.nil (WX.then_normal (WC.seq (WC.region (yp (h:=(WL.nil (WX.then_normal (WC.seq ?_))))))))))))
 obtain ⟨J1,H,hJ1⟩:=H
 refine WC.midF (fun L' w'=>∃ (l:List PV),∃ (A_l:Option Addr),∃ (c_l:Nat),∃ (n_l:Nat),∃ (hs_l:List VH),L'=[(1,.int .i64 most),(5,.slice A_l n_l c_l)]∧J1 l∧n_l=l.length∧w=w'∧Rd vv w' A_l c_l hs_l∧RelD deV w' hs_l l) ?_ (fun hQ=>?_)
 ·clear H
  rintro _ _ ⟨l,A_l,c_l,n_l,hs_l,rfl,H,rfl,rfl,k1,k2⟩
  replace H:=hJ1 l H
  refine WX.then_normal (WC.seq (WC.region (yp (h:=(WL.nil (WX.then_normal (WC.seq (WC.seq (WC.region (yp (h:=(yp (h:=(yp (h:=(WL.nil (WX.then_normal (WC.block ?_))))))))))))))))))
  obtain ⟨I1,mu1,h0_1,HR1⟩:=H
  refine WC.loopF (fun n' L' w'=>∃ (n:Int),∃ (t63:Int),n'=mu1 n t63∧L'=[(1,.int .i64 most),(12,.int .i64 n),(61,.slice A_l l.length c_l),(62,.int .i64 (l.length:Int)),(63,.int .i64 t63)]∧I1 n t63∧w.grownBy w' none∧Rd vv w' A_l c_l hs_l∧RelD deV w' hs_l l) _ _ ⟨(1:Int),(0:Int),rfl,rfl,h0_1,(zN _ _),k1,k2⟩ (by repeat (first | exact Sub.nil | refine Sub.cons rfl ?_)) ?_
  clear h0_1
  rintro _ _ w1 ⟨n,t63,rfl,rfl,hI1,gr1,k3,k4⟩
  have H:=HR1 n t63 hI1
  refine WC.seq (WC.region (yp (h:=(WL.nil (WX.then_normal (WC.seq (WC.cond rfl (fun b1=>?_) (fun b1=>?_))))))))
  ·replace H:=H.1 (of_decide_eq_true b1)
   refine WC.skip (WX.then_normal (WC.seq (WC.block (WC.seq (WC.region ?_)))))
   obtain ⟨h1,H⟩:=H
   refine WL.y rfl (Yld.iaddrW za k3 rfl rfl k2.1.symm rfl h1.1 h1.2) ?_
   obtain ⟨⟨v_el,F_el⟩,eh1,hR1⟩:=RelD.at k4 vh0 PV.nil (j:=t63.toNat) (Nat.lt_of_lt_of_eq (iltN h1 k2.1.symm) k4.1)
   have hv1:RelD deV w1 [(v_el,F_el)] [l.getD t63.toNat PV.nil]:=RelD.cons hR1 RelD.nil
   refine WL.y rfl (Yld.to (v:=v_el.1) (Yld.iload vh0 za k3 rfl rfl (iltN h1 k2.1.symm)) (congrArg vv eh1)) (yp (h:=(WL.nil (WX.then_normal (WC.seq (WC.seq (WC.region (yp (h:=(yp (h:=(yp (h:=(WL.nil (WX.then_normal (WC.cond rfl (fun b2=>?_) (fun b2=>?_)))))))))))))))))
   ·replace H:=H.1 (of_decide_eq_true b2)
    exact WC.seq (WC.region (yp (h:=(yp (h:=(WL.nil (WX.then_normal (WC.ret (WX.then_ret (WX.block_ret (WX.then_ret (WX.then_ret (WX.block_ret (WX.then_ret (WX.ret1 rfl rfl ⟨gr1,n,rfl,H⟩)))))))))))))))
   ·replace H:=H.2 (of_decide_eq_false b2)
    refine WC.skip (WX.then_normal (WC.region (yp (h:=(yp (h:=(yp (h:=(yp (h:=?_))))))))))
    obtain ⟨h2,H⟩:=H
    exact WL.y rfl (Yld.sub rfl rfl h2) (False.elim H)
  ·replace H:=H.2 (of_decide_eq_false b1)
   exact WC.exit (WX.then_exit (WX.then_exit (WX.block_same (WX.then_normal (WC.seq (WC.region (yp (h:=(yp (h:=(WL.nil (WX.then_normal (WC.ret (WX.ret1 rfl rfl ⟨gr1,n,rfl,H⟩))))))))))))))
 ·clear hJ1
  refine WC.seq (WC.region (yp (h:=(WL.nil (WX.then_normal (WC.block (WC.seq (WC.region ?_))))))))
  rcases PV.empCases v with he1 | he1
  ·replace H:=H.1 he1
   obtain ⟨g_l,A_l2,c_l2,hv2,hB1,hR2,hr1,hd1⟩:=VR.empOut hv he1
   refine WL.y rfl (qw Tryz.underlying61 rfl rfl hv2) (yp (h:=(yp (h:=(WL.nil (WX.then_normal (WC.cond rfl (fun _=>WC.seq (WC.region (yp (h:=(WL.nil (WX.then_normal (WC.region (yp (h:=(yp (h:=(WL.y rfl (Yld.fa0 (o:=0) (by kernel_rfl) rfl) (WL.y rfl (Yld.bload za hB1 rfl rfl rfl) (yp (h:=(WL.nil (WX.block_normal ?_))))))))))))))))) (fun h=>by cases h))))))))
   exact WX.weaken (by repeat (first | exact Sub.nil | refine Sub.cons rfl ?_)) (hQ _ _ ⟨([]:List PV),A_l2,c_l2,(([]:List PV)).length,([]:List VH),rfl,H,rfl,rfl,hR2,hr1⟩)
  ·replace H:=H.2 he1
   refine WL.y rfl (zw (z:=.pointer none) Tryz.underlying61 rfl (fun _=>by kernel_rfl) hv rfl (tyP_emp he1)) (yp (h:=(yp (h:=(WL.nil (WX.then_normal (WC.cond rfl (fun h=>by cases h) (fun _=>WC.seq (WC.region ?_)))))))))
   rcases PV.tupCases v with ⟨l2,he2⟩ | he2
   ·replace H:=H.1 l2 he2
    obtain ⟨g_t,A_t,c_t,hs_t,hv3,hB2,hR3,hr2,hd2,hd3,hd4⟩:=VR.tupOut hv he2
    refine WL.y rfl (qw Tryz.underlying155 rfl rfl hv3) (yp (h:=(yp (h:=(WL.nil (WX.then_normal (WC.cond rfl (fun _=>WC.seq (WC.region (yp (h:=(WL.nil (WX.then_normal (WC.region (yp (h:=(yp (h:=(WL.y rfl (Yld.fa0 (o:=0) (by kernel_rfl) rfl) (WL.y rfl (Yld.bload za hB2 rfl rfl rfl) (yp (h:=(WL.nil (WX.block_normal ?_))))))))))))))))) (fun h=>by cases h))))))))
    exact WX.weaken (by repeat (first | exact Sub.nil | refine Sub.cons rfl ?_)) (hQ _ _ ⟨l2.map PV.int,A_t,c_t,(l2.map PV.int).length,hs_t,rfl,H,rfl,rfl,hR3,hr2⟩)
   ·replace H:=H.2 he2
    refine WL.y rfl (zw (z:=.pointer none) Tryz.underlying155 rfl (fun _=>by kernel_rfl) hv rfl (tyP_tup he2)) (yp (h:=(yp (h:=(WL.nil (WX.then_normal (WC.cond rfl (fun h=>by cases h) (fun _=>WC.seq (WC.region (WL.y rfl (zw (z:=.pointer none) Tryz.underlying269 rfl (fun _=>by kernel_rfl) hv rfl (tyP_no rfl v)) (yp (h:=(yp (h:=(WL.nil (WX.then_normal (WC.cond rfl (fun h=>by cases h) (fun _=>WC.seq (WC.region (WL.y rfl (zw (z:=.pointer none) Tryz.underlying242 rfl (fun _=>by kernel_rfl) hv rfl (tyP_no rfl v)) (yp (h:=(yp (h:=(WL.nil (WX.then_normal (WC.cond rfl (fun h=>by cases h) (fun _=>WC.skip (WX.block_normal ?_)))))))))))))))))))))))))))))
    exact WX.weaken (by repeat (first | exact Sub.nil | refine Sub.cons rfl ?_)) (hQ _ _ ⟨[],none,0,0,[],rfl,H,rfl,rfl,(Own.nil vv w w.heap.size 32).rd,(RelD.nil (d:=deV) (w:=w))⟩)
set_option maxHeartbeats 8000000 in
theorem W_val_Light {w:World} {most:Int} {l:List PV} {A_l:Option Addr} {c_l:Nat} {hs_l:List VH} {n_l:Nat} {K:Bool→Prop} (hl:Rd vv w A_l c_l hs_l) (hn_l:n_l=l.length) (hr_l:RelD deV w hs_l l) (H:M_val_Light most l K):Fn Tryz.prog 70 ⟨[.int .i64 most,.slice A_l n_l c_l]⟩ w (fun v w'=>w.grownBy w' none∧∃ (r:Bool),v=.bool r∧K r):=by
 subst hn_l
 unfold M_val_Light at H
 refine Fn.enter (by kernel_rfl) Tryz.func70 rfl Tryz.ntmps70 rfl ?_
 replace H:=H (by rw [←hr_l.1]; exact Nat.le_trans hl.cap hl.max)
 refine WC.seq (WC.region (yp (h:=(WL.nil (WX.then_normal (WC.seq (WC.seq (WC.region (yp (h:=(yp (h:=(yp (h:=(WL.nil (WX.then_normal (WC.block ?_)))))))))))))))))
 obtain ⟨I1,mu1,h0_1,HR1⟩:=H
 refine WC.loopF (fun n' L' w'=>∃ (most2:Int),∃ (t9:Int),n'=mu1 most2 t9∧L'=[(0,.int .i64 most2),(7,.slice A_l l.length c_l),(8,.int .i64 (l.length:Int)),(9,.int .i64 t9)]∧I1 most2 t9∧w.grownBy w' none) _ _ ⟨most,(0:Int),rfl,rfl,h0_1,(zN _ _)⟩ (by repeat (first | exact Sub.nil | refine Sub.cons rfl ?_)) ?_
 clear h0_1
 rintro _ _ w1 ⟨most2,t9,rfl,rfl,hI1,gr1⟩
 have H:=HR1 most2 t9 hI1
 refine WC.seq (WC.region (yp (h:=(WL.nil (WX.then_normal (WC.seq (WC.cond rfl (fun b1=>?_) (fun b1=>?_))))))))
 ·replace H:=H.1 (of_decide_eq_true b1)
  refine WC.skip (WX.then_normal (WC.seq (WC.block (WC.seq (WC.region ?_)))))
  obtain ⟨h1,H⟩:=H
  refine WL.y rfl (Yld.iaddrW za (hl.grown gr1) rfl rfl hr_l.1.symm rfl h1.1 h1.2) ?_
  obtain ⟨⟨v_el,F_el⟩,eh1,hR1⟩:=RelD.at (hr_l.grown gr1) vh0 PV.nil (j:=t9.toNat) (Nat.lt_of_lt_of_eq (iltN h1 hr_l.1.symm) (hr_l.grown gr1).1)
  have hv1:RelD deV w1 [(v_el,F_el)] [l.getD t9.toNat PV.nil]:=RelD.cons hR1 RelD.nil
  refine WL.y rfl (Yld.to (v:=v_el.1) (Yld.iload vh0 za (hl.grown gr1) rfl rfl (iltN h1 hr_l.1.symm)) (congrArg vv eh1)) (yp (h:=(WL.nil (WX.then_normal (WC.seq (WC.region (yp (h:=(yp (h:=(yp (h:=(WL.call rfl rfl (W_val_weight hv1 H) ?_)))))))))))))
  rintro _ w2 ⟨hg1,t16,rfl,H⟩
  have gr2:=zd gr1 hg1
  obtain ⟨h2,H⟩:=H
  refine WL.y rfl (Yld.sub rfl rfl h2) (yp (h:=(WL.nil (WX.then_normal (WC.seq (WC.region (yp (h:=(yp (h:=(WL.nil (WX.then_normal (WC.cond rfl (fun b2=>?_) (fun b2=>?_))))))))))))))
  ·replace H:=H.1 (of_decide_eq_true b2)
   exact WC.seq (WC.region (yp (h:=(WL.nil (WX.then_normal (WC.ret (WX.block_ret (WX.then_ret (WX.then_ret (WX.block_ret (WX.then_ret (WX.ret1 rfl rfl ⟨gr2,false,rfl,H⟩))))))))))))
  ·replace H:=H.2 (of_decide_eq_false b2)
   refine WC.skip (WX.block_normal (WX.then_normal (WC.region ?_)))
   obtain ⟨h3,H⟩:=H
   refine WL.y rfl (Yld.add rfl rfl h3) (yp (h:=(WL.nil ?_)))
   exact WX.roundF _ ⟨most2 - t16,t9+(1:Int),rfl,rfl,H.1,gr2⟩ (by repeat (first | exact Sub.nil | refine Sub.cons rfl ?_)) H.2
 ·replace H:=H.2 (of_decide_eq_false b1)
  exact WC.exit (WX.then_exit (WX.then_exit (WX.block_same (WX.then_normal (WC.seq (WC.region (yp (h:=(WL.nil (WX.then_normal (WC.ret (WX.ret1 rfl rfl ⟨gr1,true,rfl,H⟩))))))))))))
set_option maxHeartbeats 8000000 in
theorem qF {w:World} {s:List PV} {A_s:Option Addr} {c_s:Nat} {hs_s:List VH} {n_s:Nat} {K:(List PV)→Prop} (hs:Rd vv w A_s c_s hs_s) (hn_s:n_s=s.length) (hr_s:RelD deV w hs_s s) (H:zu s K):Fn Tryz.prog 83 ⟨[.slice A_s n_s c_s]⟩ w (fun v w'=>w.grownBy w' none∧∃ (r:List PV),∃ (A_r:Option Addr),∃ (c_r:Nat),∃ (hs_r:List VH),v=.slice A_r r.length c_r∧Own vv w' w.heap.size 32 A_r c_r hs_r∧RelD deV w' hs_r r∧(∀ p:Option Nat,Lt p w.heap.size→DnD deV hs_s s p→DnD deV hs_r r p)∧DnD deV hs_r r (blk A_r)∧K r):=by
 subst hn_s
 unfold zu at H
 refine Fn.enter (by kernel_rfl) Tryz.func83 rfl Tryz.ntmps83 rfl ?_
 replace H:=H (by rw [←hr_s.1]; exact Nat.le_trans hs.cap hs.max)
 refine WC.seq (WC.region (yp (h:=(WL.nil (WX.then_normal (WC.seq (WC.seq (WC.region (yp (h:=(WL.y rfl (Yld.sleqnil Tryz.underlying27 rfl) (WL.nil (WX.then_normal (WC.cond rfl (fun b1=>?_) (fun b1=>?_)))))))))))))))
 ·replace H:=H.1 (RelD.nilx hr_s (hs.nil_of b1))
  exact WC.seq (WC.region (yp (h:=(WL.nil (WX.then_normal (WC.ret (WX.then_ret (WX.ret1 rfl rfl ⟨(zN _ _),[],none,0,[],rfl,(Own.nil vv w w.heap.size 32),(RelD.nil (d:=deV) (w:=w)),(fun p_ hp_ v0_=>have q_:=v0_; (DnD.nil (d:=deV))),DnD.nil,H⟩))))))))
 ·replace H:=H.2
  refine WC.skip (WX.then_normal (WC.seq (WC.region (WL.lit (us:=[]) za rfl rfl rfl zm rfl (by omega) (fun g2 w2 hB2 hg2 hl2=>?_)))))
  have hO2:Own vv w2 w.heap.size 32 (some ⟨g2,0,none⟩) 0 ([]:List VH):=Own.ofBl hB2 (Nat.le_trans (Nat.le_refl _) hl2) (by simp [maxLen]) rfl
  have gr1:=hg2
  have hr1:RelD deV w2 ([]:List VH) ([]:List PV):=RelD.nil
  have nd1:OrD (fun p=>DnD deV hs_s s p) deV ([]:List VH) ([]:List PV) w.heap.size:=(fun _ _ _=>DnD.nil)
  have dj1:DnD deV ([]:List VH) ([]:List PV) (blk (some ⟨g2,0,none⟩)):=DnD.nil
  refine yp (h:=?_)
  obtain ⟨h1,H⟩:=H
  have h2:((([]:List VH):List VH).length+hs_s.length)*16≤140737488355328:=by rw [hr1.1,(hr_s.grown gr1).1]; exact h1
  refine WL.append za rfl rfl One.vv hO2 rfl rfl (hs.grown gr1) rfl hr_s.1.symm h2 (zx h2) (ze gr1) (fun A_t2 c_t2 w3 hO3 hg3 hk1=>?_)
  have el1:(([]:List VH)++hs_s).length=(([]:List PV)++s).length:=by rw [List.length_append,List.length_append,hr1.1,(hr_s.grown gr1).1]
  rw [el1]
  have gr2:=zk gr1 hg3 hO2.ge'
  have hr2:RelD deV w3 (([]:List VH)++hs_s) (([]:List PV)++s):=RelD.append (hr1.go hg3 dj1) (hr_s.grown gr2)
  have nd2:OrD (fun p=>DnD deV hs_s s p) deV (([]:List VH)++hs_s) (([]:List PV)++s) w.heap.size:=OrD.append hr1.1 nd1 (fun p_ hp_ q_=>q_)
  have dj2:DnD deV (([]:List VH)++hs_s) (([]:List PV)++s) (blk A_t2):=(DnD.append hr1.1 (RelD.app hr1 dj1 hk1) (RelD.app (hr_s.grown gr1) (hr_s.new hO2.ge') hk1))
  exact yp (h:=(WL.nil (WX.then_normal (WC.ret (WX.ret1 rfl rfl ⟨gr2,(([]:List PV)++s),A_t2,c_t2,(([]:List VH)++hs_s),(by rw [el1.symm]),hO3,hr2,(fun p_ hp_ v0_=>nd2 p_ hp_ v0_),dj2,H⟩)))))
set_option maxHeartbeats 8000000 in
theorem qE {w:World} {s:List PS} {A_s:Option Addr} {c_s:Nat} {hs_s:List VH} {n_s:Nat} {K:(List PS)→Prop} (hs:Rd vv w A_s c_s hs_s) (hn_s:n_s=s.length) (hr_s:RelD deS w hs_s s) (H:zn s K):Fn Tryz.prog 71 ⟨[.slice A_s n_s c_s]⟩ w (fun v w'=>w.grownBy w' none∧∃ (r:List PS),∃ (A_r:Option Addr),∃ (c_r:Nat),∃ (hs_r:List VH),v=.slice A_r r.length c_r∧Own vv w' w.heap.size 41 A_r c_r hs_r∧RelD deS w' hs_r r∧(∀ p:Option Nat,Lt p w.heap.size→DnD deS hs_s s p→DnD deS hs_r r p)∧DnD deS hs_r r (blk A_r)∧K r):=by
 subst hn_s
 unfold zn at H
 refine Fn.enter (by kernel_rfl) Tryz.func71 rfl Tryz.ntmps71 rfl ?_
 replace H:=H (by rw [←hr_s.1]; exact Nat.le_trans hs.cap hs.max)
 refine WC.seq (WC.region (yp (h:=(WL.nil (WX.then_normal (WC.seq (WC.seq (WC.region (yp (h:=(WL.y rfl (Yld.sleqnil Tryz.underlying25 rfl) (WL.nil (WX.then_normal (WC.cond rfl (fun b1=>?_) (fun b1=>?_)))))))))))))))
 ·replace H:=H.1 (RelD.nilx hr_s (hs.nil_of b1))
  exact WC.seq (WC.region (yp (h:=(WL.nil (WX.then_normal (WC.ret (WX.then_ret (WX.ret1 rfl rfl ⟨(zN _ _),[],none,0,[],rfl,(Own.nil vv w w.heap.size 41),(RelD.nil (d:=deS) (w:=w)),(fun p_ hp_ v0_=>have q_:=v0_; (DnD.nil (d:=deS))),DnD.nil,H⟩))))))))
 ·replace H:=H.2
  refine WC.skip (WX.then_normal (WC.seq (WC.region (WL.lit (us:=[]) za rfl rfl rfl zm rfl (by omega) (fun g2 w2 hB2 hg2 hl2=>?_)))))
  have hO2:Own vv w2 w.heap.size 41 (some ⟨g2,0,none⟩) 0 ([]:List VH):=Own.ofBl hB2 (Nat.le_trans (Nat.le_refl _) hl2) (by simp [maxLen]) rfl
  have gr1:=hg2
  have hr1:RelD deS w2 ([]:List VH) ([]:List PS):=RelD.nil
  have nd1:OrD (fun p=>DnD deS hs_s s p) deS ([]:List VH) ([]:List PS) w.heap.size:=(fun _ _ _=>DnD.nil)
  have dj1:DnD deS ([]:List VH) ([]:List PS) (blk (some ⟨g2,0,none⟩)):=DnD.nil
  refine yp (h:=?_)
  obtain ⟨h1,H⟩:=H
  have h2:((([]:List VH):List VH).length+hs_s.length)*8≤140737488355328:=by rw [hr1.1,(hr_s.grown gr1).1]; exact h1
  refine WL.append za rfl rfl One.vv hO2 rfl rfl (hs.grown gr1) rfl hr_s.1.symm h2 (zx h2) (ze gr1) (fun A_t2 c_t2 w3 hO3 hg3 hk1=>?_)
  have el1:(([]:List VH)++hs_s).length=(([]:List PS)++s).length:=by rw [List.length_append,List.length_append,hr1.1,(hr_s.grown gr1).1]
  rw [el1]
  have gr2:=zk gr1 hg3 hO2.ge'
  have hr2:RelD deS w3 (([]:List VH)++hs_s) (([]:List PS)++s):=RelD.append (hr1.go hg3 dj1) (hr_s.grown gr2)
  have nd2:OrD (fun p=>DnD deS hs_s s p) deS (([]:List VH)++hs_s) (([]:List PS)++s) w.heap.size:=OrD.append hr1.1 nd1 (fun p_ hp_ q_=>q_)
  have dj2:DnD deS (([]:List VH)++hs_s) (([]:List PS)++s) (blk A_t2):=(DnD.append hr1.1 (RelD.app hr1 dj1 hk1) (RelD.app (hr_s.grown gr1) (hr_s.new hO2.ge') hk1))
  exact yp (h:=(WL.nil (WX.then_normal (WC.ret (WX.ret1 rfl rfl ⟨gr2,(([]:List PS)++s),A_t2,c_t2,(([]:List VH)++hs_s),(by rw [el1.symm]),hO3,hr2,(fun p_ hp_ v0_=>nd2 p_ hp_ v0_),dj2,H⟩)))))
end Go.Proofs.YtjjcdkfhaceicaaGreatDoor
 
namespace Go.Proofs.YtjjcdkfhaceicaaGreatDoor
open Go Go.RowKit
def vp (g:Nat):Value:=.pointer (some ⟨g,0,none⟩)
def LiveB (w:World) (g:Nat):Prop:=∃ c e,w.heap[g]?=some (.cells c e (0,0))
theorem Bl.live {w:World} {g:Nat} {e:TypeId} {us:List Value} (h:Bl w g e us):LiveB w g:=⟨_,_,h⟩
section
variable {P:Program} {k e:TypeId} {j:TypeInfo} {w:World}
theorem run_eqP (hk:P.underlying k=some (.pointer e)) (hj:P.info? e=some j) (h0:j.size≠0) {a b:Nat} (ha:LiveB w a) (hb:LiveB w b):(Op.equal k (vp a) (vp b)).run P w=.ok (decide (a=b)) w:=by
 refine zF fun d=>?_
 by_cases h:a=b
 ·subst h
  simp [vp,Op.equalIn,run_underlying hk,sizeOf,typeInfo,hj,h0,run_sameAddr_same]
 ·obtain ⟨ca,ta,ha⟩:=ha
  obtain ⟨cb,tb,hb⟩:=hb
  have:=run_sameAddr_other (P:=P) w (a:=⟨a,0,none⟩) (b:=⟨b,0,none⟩) (by intro e; injection e with e; exact h e) ha hb
  simp [vp,Op.equalIn,run_underlying hk,sizeOf,typeInfo,hj,h0,this,h]
theorem findP (hk:P.underlying k=some (.pointer e)) (hj:P.info? e=some j) (h0:j.size≠0) {q:Nat} (hq:LiveB w q):∀ (es:List MapEntry) (i:Nat),(∀ x∈es,∃ y,LiveB w y∧x.key=vp y) →
  ((Instr.findAsking k (vp q) es i).run P w=.ok none w∧∀ x∈es,x.key≠vp q)∨∃ n x,(Instr.findAsking k (vp q) es i).run P w=.ok (some (i+n,x.val)) w∧es[n]?=some x∧x.key=vp q
 | [],i,_=>.inl ⟨by simp [Instr.findAsking],fun x hx=>by simp at hx⟩
 | x :: es,i,h=>by
  obtain ⟨y,hy,ey⟩:=h x (by simp)
  have h1:=run_eqP hk hj h0 hq hy
  by_cases hqy:q=y
  ·subst hqy
   refine .inr ⟨0,x,?_,rfl,ey⟩
   simp [Instr.findAsking,ey,h1]
  ·rcases findP hk hj h0 hq es (i+1) (fun x hx=>h x (by simp [hx])) with ⟨h2,h3⟩ | ⟨n,x',h2,h3,h4⟩
   ·refine .inl ⟨by simp [Instr.findAsking,ey,h1,hqy,h2],fun x' hx'=>?_⟩
    rcases List.mem_cons.1 hx' with rfl | hx'
    ·rw [ey]; intro e; exact hqy (by injection e with e; injection e with e; injection e with e; exact e.symm)
    ·exact h3 x' hx'
   ·refine .inr ⟨n+1,x',?_,by simpa using h3,h4⟩
    simp [Instr.findAsking,ey,h1,hqy,h2]
    omega
theorem keyW_p {ok:Nat→Prop} (hk:P.underlying k=some (.pointer e)) (hj:P.info? e=some j) (h0:j.size≠0) (hl:∀ g,ok g→LiveB w g):KeyW P k vp ok w where
 check em x hx:=by
  have h:∀ n,(Instr.checkKey em (n+1) k (vp x)).run P w=.ok () w:=fun n=>by
   unfold Instr.checkKey
   simp only [Sem.run_bind,run_underlying hk,Result.andThen_ok,vp]
   rfl
  exact h 9999
 find q hq es hes:=by
  cases es with
  | nil=>exact .inl ⟨by simp [Instr.findKey,Instr.findNow,run_underlying hk],fun x hx=>by simp at hx⟩
  | cons x es =>
   have hf:=findP hk hj h0 (hl q hq) (x :: es) 0 (fun y hy=>by obtain ⟨z,hz,e⟩:=hes y hy; exact ⟨z,hl z hz,e⟩)
   have e1:(Instr.findKey k (vp q) (x :: es)).run P w=(Instr.findAsking k (vp q) (x :: es) 0).run P w:=by
    simp only [Instr.findKey,Sem.run_bind,run_underlying hk,Result.andThen_ok]
    simp [Instr.findNow,Instr.sameNow]
   rw [e1]
   rcases hf with h | ⟨n,y,h1,h2⟩
   ·exact .inl h
   ·exact .inr ⟨n,y,by simpa using h1,h2⟩
 stays x hx:=by
  have h:∀ n,Instr.sameBits n (vp x) (vp x)=true:=fun n=>by cases n <;> simp [Instr.sameBits,vp]
  unfold Instr.keyThatStays
  rw [if_pos (h _)]
  rfl
 inj x y _ _ h:=by injection h with h; injection h with h; injection h
end
section
variable {κ ν:Type} [DecidableEq κ] {P:Program} {k e t:TypeId} {fk:κ→Value} {ok:κ→Prop} {fv:ν→Value} {w w':World} {b:Nat} {m:List (κ × ν)}
variable {N:Nat} {L:zh} {ty:TypeId} {pos:String} {af:Array Edge} {dd:Option Tmp} {x y u:Operand}
theorem Yld.lookW (hK:∀ w1,Eqv w w1→KeyW P k fk ok w1) (ht:P.underlying t=some (.map k e)) {z:ν} (hz:∀ w,(zeroValue e).run P w=.ok (fv z) w) (hm:MapB fk ok fv w b m) (hx:opv L x=some (.map (some b))) {q:κ} (hy:opv L y=some (fk q)) (hq:ok q) :
  Yld P N w ⟨dd,.lookup t x y false,ty,pos,af,none⟩ L (fv ((mget m q).getD z)):=fun a w1 hw ha=>by
 unfold execOp
 simp [ha.ev hx,ha.ev hy,(MapB.eqv hw hm).run_look (hK w1 hw) ht (hz w1) hq false]
theorem Ef0.putW (hK:∀ w1,Eqv w w1→KeyW P k fk ok w1) (ht:P.underlying t=some (.map k e)) (hm:MapB fk ok fv w b m) (hn:m.length<maxLen) (hx:opv L x=some (.map (some b))) {q:κ} (hy:opv L y=some (fk q)) (hq:ok q) {v:ν} (hu:opv L u=some (fv v)) :
  Ef0 P N w ⟨none,.mapUpdate t x y u,ty,pos,af,none⟩ L fun w'=>MapB fk ok fv w' b (mput m q v)∧w.grownBy w' (some b):=fun a w1 hw ha=>by
 obtain ⟨w',h1,h2,h3⟩:=(MapB.eqv hw hm).run_put (hK w1 hw) ht hn hq v
 refine ⟨w',?_,h2,eqv_gr hw h3⟩
 unfold execOp
 simp [ha.ev hx,ha.ev hy,ha.ev hu,h1]
theorem Ef0.insW (hK:∀ w1,Eqv w w1→KeyW P k fk ok w1) (ht:P.underlying t=some (.map k e)) (hm:MapB fk ok fv w b m) (hn:m.length<maxLen) (hx:opv L x=some (.map (some b))) {q:κ} (hy:opv L y=some (fk q)) (hq:ok q) {v:ν} (hu:opv L u=some (fv v)) :
  Ef0 P N w ⟨none,.insert t x y u,ty,pos,af,none⟩ L fun w'=>MapB fk ok fv w' b (mput m q v)∧w.grownBy w' (some b):=fun a w1 hw ha=>by
 obtain ⟨w',h1,h2,h3⟩:=(MapB.eqv hw hm).run_put (hK w1 hw) ht hn hq v
 refine ⟨w',?_,h2,eqv_gr hw h3⟩
 unfold execOp
 simp [ha.ev hx,ha.ev hy,ha.ev hu,h1]
end
attribute [local irreducible] WL WC WX WQ WK WJ Yld Eff Ef0 Fn
def okR (s:PS) (g:Nat):Prop:=∃ y,zV s y∧y≠.nil∧y.id=g
def hdS (F:Nat→Prop) (x:PS):VH:=(ovP x.id,F)
section
variable {w w2:World} {v:OV} {F:Nat→Prop} {s x:PS}
theorem relS (h:RelD deS w [(v,F)] [s]) (hx:zV s x) (hn:x≠.nil):RelD deS w [hdS F x] [x]:=by
 obtain ⟨⟨n,h⟩,hF⟩:=h.one
 obtain ⟨m,u,k⟩:=h.reach hx hn
 have e:=k.ptr
 refine RelD.cons ⟨⟨m,?_⟩,hF⟩ RelD.nil
 cases x with
 | nil=>exact absurd rfl hn
 | mk=>rw [e] at k; exact k
theorem liveS (h:RelD deS w [(v,F)] [s]) {g:Nat} (hg:okR s g):LiveB w g:=by
 obtain ⟨y,h1,h2,rfl⟩:=hg
 obtain ⟨_,_,_,_,_,_,_,_,_,hB,_⟩:=SR.out (relS h h1 h2) h2
 exact hB.live
def szNZ (P:Program) (e:TypeId):Bool:=match P.info? e with
 | some i => !Nat.beq i.size 0
 | none=>false
theorem szNZ_ok {P:Program} {e:TypeId} (h:szNZ P e=true):∃ j,P.info? e=some j∧j.size≠0:=by
 unfold szNZ at h
 split at h
 ·rename_i i hi
  exact ⟨i,hi,Nat.ne_of_beq_eq_false (by simpa using h)⟩
 ·cases h
theorem keyS {k e:TypeId} {P:Program} (hk:P.underlying k=some (.pointer e)) (hc:szNZ P e=true) (h:RelD deS w [(v,F)] [s]):∀ w1,Eqv w w1→KeyW P k vp (okR s) w1:=fun w1 hw =>
 (szNZ_ok hc).elim fun _ hj=>keyW_p hk hj.1 hj.2 fun g hg=>by
  obtain ⟨c,e,hc⟩:=liveS h hg
  exact ⟨c,e,by rw [hw.heap]; exact hc⟩
theorem mget_ids (l:List PS) (q:Nat):(mget (l.map fun x=>(x.id,true)) q).getD false=decide (q∈l.map PS.id):=by
 induction l with
 | nil=>simp [mget]
 | cons x l ih =>
  simp only [List.map_cons,mget]
  split
  ·rename_i h; simp [h]
  ·rename_i h
   rw [ih]
   congr 1
   simp [Ne.symm h]
theorem Some'.push {l:List PS} {f:PS} (h:Some' s l) (hf:zV s f) (hn:f.id∉l.map PS.id):Some' s (l++[f]) :=
 ⟨by
  rw [List.map_append,List.nodup_append]
  refine ⟨h.nd,by simp,fun a ha b hb e=>?_⟩
  simp only [List.map_cons,List.map_nil,List.mem_cons,List.not_mem_nil,or_false] at hb
  subst e; subst hb
  exact hn ha,fun x hx=>by
  rcases List.mem_append.1 hx with hx | hx
  ·exact h.re x hx
  ·simp only [List.mem_cons,List.not_mem_nil,or_false] at hx
   subst hx; exact hf⟩
end
structure SI (w:World) (F:Nat→Prop) (s:PS) (gm:Nat) (w2:World) (l:List PS) (A:Option Addr) (c:Nat):Prop where
 so:Some' s l
 nn:∀ x∈l,x≠.nil
 top:s∈l
 gr:w.grownBy w2 none
 own:Own vv w2 w.heap.size 41 A c (l.map (hdS F))
 mp:MapB vp (okR s) vB w2 gm (l.map fun x=>(x.id,true))
 dj:Dj (some gm) (blk A)
 ge:w.heap.size≤gm
set_option maxHeartbeats 4000000 in
theorem W_pdeps_Set_sets {w:World} {v_s:OV} {F_s:Nat→Prop} {s:PS} {K:List PS→Prop} (hs:RelD deS w [(v_s,F_s)] [s]) (H:M_pdeps_Set_sets s K):Fn Tryz.prog 73 ⟨[v_s.1]⟩ w
  (fun v w'=>w.grownBy w' none∧∃ (r:List PS),∃ (A_r:Option Addr),∃ (c_r:Nat),∃ (hs_r:List VH),v=.slice A_r r.length c_r∧Own vv w' w.heap.size 41 A_r c_r hs_r∧RelD deS w' hs_r r∧(∀ p:Option Nat,Lt p w.heap.size→DnD deS [(v_s,F_s)] [s] p→DnD deS hs_r r p)∧DnD deS hs_r r (blk A_r)∧K r):=by
 obtain ⟨hne,hB1,hK⟩:=H
 have hv:v_s.1=.pointer (some ⟨s.id,0,none⟩):=by
  obtain ⟨⟨n,h⟩,_⟩:=hs.one
  rw [h.ptr]
  cases s with
  | nil=>exact absurd rfl hne
  | mk=>rfl
 have hF:=hs.one.2
 rw [hv]
 refine Fn.enter (by kernel_rfl) Tryz.func73 rfl Tryz.ntmps73 rfl ?_
 repeat (first | refine WC.seq ?_ | refine WC.block ?_ | refine WC.region ?_ | refine WL.nil ?_ | refine WX.then_normal ?_ | refine WC.skip ?_ | refine WC.exit ?_ | refine WC.ret ?_ | refine WX.then_exit ?_ | refine WX.then_ret ?_ | refine WX.block_normal ?_ | refine WX.block_ret ?_ | refine WX.block_same ?_ | refine WX.block_other rfl ?_ | refine WC.label ?_ | refine WC.scope ?_ | refine WX.scope_normal ?_ | refine WX.scope_ret ?_ | refine WX.scope_exit ?_ | refine WL.y rfl (Yld.add rfl rfl (by simp only [In]; omega)) ?_ | refine WL.y rfl (Yld.sub rfl rfl (by simp only [In]; omega)) ?_ | refine WL.y rfl (Yld.mul rfl rfl (by simp only [In]; omega)) ?_ | refine WL.y rfl (Yld.convB za rfl rfl rfl rfl) ?_ | refine WL.y rfl (Yld.conv za rfl rfl rfl (by simp only [In]; omega)) ?_ | refine WL.y rfl (Yld.quo rfl rfl (by omega) (by omega) (by simp only [In]; omega)) ?_ | refine WL.y rfl (Yld.rem rfl rfl (by omega) (by omega)) ?_ | refine WL.y rfl (Yld.shl rfl rfl (by omega)) ?_ | refine WL.y rfl (Yld.shr rfl rfl (by omega)) ?_ | refine WL.y rfl (Yld.pure za rfl) ?_ | refine WL.y rfl (Yld.fld zb rfl rfl rfl) ?_ | refine WL.y rfl (Yld.max2 rfl rfl) ?_ | refine WL.y rfl (Yld.min2 rfl rfl) ?_ | refine WL.y rfl (Yld.pickV rfl rfl rfl) ?_ | refine WL.gno rfl rfl rfl rfl ?_ | refine WL.gyes rfl rfl rfl rfl (Yld.add rfl rfl (by simp only [In]; omega)) ?_ | refine WL.gyes rfl rfl rfl rfl (Yld.sub rfl rfl (by simp only [In]; omega)) ?_ | refine WL.gyes rfl rfl rfl rfl (Yld.mul rfl rfl (by simp only [In]; omega)) ?_ | refine WL.gyes rfl rfl rfl rfl (Yld.convB za rfl rfl rfl rfl) ?_ | refine WL.gyes rfl rfl rfl rfl (Yld.conv za rfl rfl rfl (by simp only [In]; omega)) ?_ | refine WL.gyes rfl rfl rfl rfl (Yld.quo rfl rfl (by omega) (by omega) (by simp only [In]; omega)) ?_ | refine WL.gyes rfl rfl rfl rfl (Yld.rem rfl rfl (by omega) (by omega)) ?_ | refine WL.gyes rfl rfl rfl rfl (Yld.shl rfl rfl (by omega)) ?_ | refine WL.gyes rfl rfl rfl rfl (Yld.shr rfl rfl (by omega)) ?_ | refine WL.gyes rfl rfl rfl rfl (Yld.pure za rfl) ?_ | refine WL.gyes rfl rfl rfl rfl (Yld.fld zb rfl rfl rfl) ?_ | refine WL.gyes rfl rfl rfl rfl (Yld.max2 rfl rfl) ?_ | refine WL.gyes rfl rfl rfl rfl (Yld.min2 rfl rfl) ?_ | refine WL.gyes rfl rfl rfl rfl (Yld.pickV rfl rfl rfl) ?_)
 refine WL.putw zo rfl (Eff.makeMap vp (okR s) vB) ?_
 rintro _ w1 ⟨rfl,hM1,hg1⟩
 have hs1:=hs.grown hg1
 repeat (first | refine WC.seq ?_ | refine WC.block ?_ | refine WC.region ?_ | refine WL.nil ?_ | refine WX.then_normal ?_ | refine WC.skip ?_ | refine WC.exit ?_ | refine WC.ret ?_ | refine WX.then_exit ?_ | refine WX.then_ret ?_ | refine WX.block_normal ?_ | refine WX.block_ret ?_ | refine WX.block_same ?_ | refine WX.block_other rfl ?_ | refine WC.label ?_ | refine WC.scope ?_ | refine WX.scope_normal ?_ | refine WX.scope_ret ?_ | refine WX.scope_exit ?_ | refine WL.y rfl (Yld.add rfl rfl (by simp only [In]; omega)) ?_ | refine WL.y rfl (Yld.sub rfl rfl (by simp only [In]; omega)) ?_ | refine WL.y rfl (Yld.mul rfl rfl (by simp only [In]; omega)) ?_ | refine WL.y rfl (Yld.convB za rfl rfl rfl rfl) ?_ | refine WL.y rfl (Yld.conv za rfl rfl rfl (by simp only [In]; omega)) ?_ | refine WL.y rfl (Yld.quo rfl rfl (by omega) (by omega) (by simp only [In]; omega)) ?_ | refine WL.y rfl (Yld.rem rfl rfl (by omega) (by omega)) ?_ | refine WL.y rfl (Yld.shl rfl rfl (by omega)) ?_ | refine WL.y rfl (Yld.shr rfl rfl (by omega)) ?_ | refine WL.y rfl (Yld.pure za rfl) ?_ | refine WL.y rfl (Yld.fld zb rfl rfl rfl) ?_ | refine WL.y rfl (Yld.max2 rfl rfl) ?_ | refine WL.y rfl (Yld.min2 rfl rfl) ?_ | refine WL.y rfl (Yld.pickV rfl rfl rfl) ?_ | refine WL.gno rfl rfl rfl rfl ?_ | refine WL.gyes rfl rfl rfl rfl (Yld.add rfl rfl (by simp only [In]; omega)) ?_ | refine WL.gyes rfl rfl rfl rfl (Yld.sub rfl rfl (by simp only [In]; omega)) ?_ | refine WL.gyes rfl rfl rfl rfl (Yld.mul rfl rfl (by simp only [In]; omega)) ?_ | refine WL.gyes rfl rfl rfl rfl (Yld.convB za rfl rfl rfl rfl) ?_ | refine WL.gyes rfl rfl rfl rfl (Yld.conv za rfl rfl rfl (by simp only [In]; omega)) ?_ | refine WL.gyes rfl rfl rfl rfl (Yld.quo rfl rfl (by omega) (by omega) (by simp only [In]; omega)) ?_ | refine WL.gyes rfl rfl rfl rfl (Yld.rem rfl rfl (by omega) (by omega)) ?_ | refine WL.gyes rfl rfl rfl rfl (Yld.shl rfl rfl (by omega)) ?_ | refine WL.gyes rfl rfl rfl rfl (Yld.shr rfl rfl (by omega)) ?_ | refine WL.gyes rfl rfl rfl rfl (Yld.pure za rfl) ?_ | refine WL.gyes rfl rfl rfl rfl (Yld.fld zb rfl rfl rfl) ?_ | refine WL.gyes rfl rfl rfl rfl (Yld.max2 rfl rfl) ?_ | refine WL.gyes rfl rfl rfl rfl (Yld.min2 rfl rfl) ?_ | refine WL.gyes rfl rfl rfl rfl (Yld.pickV rfl rfl rfl) ?_)
 refine WL.ef0 (Ef0.insW (v:=true) (q:=s.id) (keyS Tryz.underlying41 (by kernel_rfl) hs1) Tryz.underlying145 hM1 (by simp [maxLen]) rfl rfl ⟨s,.refl,hne,rfl⟩ rfl) ?_
 rintro w2 ⟨hM2,hg2⟩
 have gr2:w.grownBy w2 none:=zk hg1 hg2 (Ge.box (Nat.le_refl _))
 repeat (first | refine WC.seq ?_ | refine WC.block ?_ | refine WC.region ?_ | refine WL.nil ?_ | refine WX.then_normal ?_ | refine WC.skip ?_ | refine WC.exit ?_ | refine WC.ret ?_ | refine WX.then_exit ?_ | refine WX.then_ret ?_ | refine WX.block_normal ?_ | refine WX.block_ret ?_ | refine WX.block_same ?_ | refine WX.block_other rfl ?_ | refine WC.label ?_ | refine WC.scope ?_ | refine WX.scope_normal ?_ | refine WX.scope_ret ?_ | refine WX.scope_exit ?_ | refine WL.y rfl (Yld.add rfl rfl (by simp only [In]; omega)) ?_ | refine WL.y rfl (Yld.sub rfl rfl (by simp only [In]; omega)) ?_ | refine WL.y rfl (Yld.mul rfl rfl (by simp only [In]; omega)) ?_ | refine WL.y rfl (Yld.convB za rfl rfl rfl rfl) ?_ | refine WL.y rfl (Yld.conv za rfl rfl rfl (by simp only [In]; omega)) ?_ | refine WL.y rfl (Yld.quo rfl rfl (by omega) (by omega) (by simp only [In]; omega)) ?_ | refine WL.y rfl (Yld.rem rfl rfl (by omega) (by omega)) ?_ | refine WL.y rfl (Yld.shl rfl rfl (by omega)) ?_ | refine WL.y rfl (Yld.shr rfl rfl (by omega)) ?_ | refine WL.y rfl (Yld.pure za rfl) ?_ | refine WL.y rfl (Yld.fld zb rfl rfl rfl) ?_ | refine WL.y rfl (Yld.max2 rfl rfl) ?_ | refine WL.y rfl (Yld.min2 rfl rfl) ?_ | refine WL.y rfl (Yld.pickV rfl rfl rfl) ?_ | refine WL.gno rfl rfl rfl rfl ?_ | refine WL.gyes rfl rfl rfl rfl (Yld.add rfl rfl (by simp only [In]; omega)) ?_ | refine WL.gyes rfl rfl rfl rfl (Yld.sub rfl rfl (by simp only [In]; omega)) ?_ | refine WL.gyes rfl rfl rfl rfl (Yld.mul rfl rfl (by simp only [In]; omega)) ?_ | refine WL.gyes rfl rfl rfl rfl (Yld.convB za rfl rfl rfl rfl) ?_ | refine WL.gyes rfl rfl rfl rfl (Yld.conv za rfl rfl rfl (by simp only [In]; omega)) ?_ | refine WL.gyes rfl rfl rfl rfl (Yld.quo rfl rfl (by omega) (by omega) (by simp only [In]; omega)) ?_ | refine WL.gyes rfl rfl rfl rfl (Yld.rem rfl rfl (by omega) (by omega)) ?_ | refine WL.gyes rfl rfl rfl rfl (Yld.shl rfl rfl (by omega)) ?_ | refine WL.gyes rfl rfl rfl rfl (Yld.shr rfl rfl (by omega)) ?_ | refine WL.gyes rfl rfl rfl rfl (Yld.pure za rfl) ?_ | refine WL.gyes rfl rfl rfl rfl (Yld.fld zb rfl rfl rfl) ?_ | refine WL.gyes rfl rfl rfl rfl (Yld.max2 rfl rfl) ?_ | refine WL.gyes rfl rfl rfl rfl (Yld.min2 rfl rfl) ?_ | refine WL.gyes rfl rfl rfl rfl (Yld.pickV rfl rfl rfl) ?_)
 refine WL.lit (us:=[vp s.id]) za rfl rfl rfl (zf rfl zm) rfl (by omega) (fun g w3 hB hg3 hl=>?_)
 have hO3:Own vv w3 w.heap.size 41 (some ⟨g,0,none⟩) 1 ([s].map (hdS F_s)):=Own.ofBl hB (Nat.le_trans gr2.size hl) (by simp [maxLen]) rfl
 have gr3:=zd gr2 hg3
 have hM3:MapB vp (okR s) vB w3 w.heap.size ([s].map fun x=>(x.id,true)):=hM2.g0 hg3
 have i0:SI w F_s s w.heap.size w3 [s] (some ⟨g,0,none⟩) 1:=⟨⟨by simp,fun x hx=>by simp at hx; subst hx; exact .refl⟩,fun x hx=>by simp at hx; subst hx; exact hne,by simp,gr3,hO3,hM3,fun a e e2=>by
  cases e; simp only [blk,Option.map_some,Option.some.injEq] at e2
  have:=hM2.lt
  omega,Nat.le_refl _⟩
 generalize hgm:w.heap.size=gm at i0
 clear hM1 hM2 hM3 hO3 hB
 repeat (first | refine WC.seq ?_ | refine WC.block ?_ | refine WC.region ?_ | refine WL.nil ?_ | refine WX.then_normal ?_ | refine WC.skip ?_ | refine WC.exit ?_ | refine WC.ret ?_ | refine WX.then_exit ?_ | refine WX.then_ret ?_ | refine WX.block_normal ?_ | refine WX.block_ret ?_ | refine WX.block_same ?_ | refine WX.block_other rfl ?_ | refine WC.label ?_ | refine WC.scope ?_ | refine WX.scope_normal ?_ | refine WX.scope_ret ?_ | refine WX.scope_exit ?_ | refine WL.y rfl (Yld.add rfl rfl (by simp only [In]; omega)) ?_ | refine WL.y rfl (Yld.sub rfl rfl (by simp only [In]; omega)) ?_ | refine WL.y rfl (Yld.mul rfl rfl (by simp only [In]; omega)) ?_ | refine WL.y rfl (Yld.convB za rfl rfl rfl rfl) ?_ | refine WL.y rfl (Yld.conv za rfl rfl rfl (by simp only [In]; omega)) ?_ | refine WL.y rfl (Yld.quo rfl rfl (by omega) (by omega) (by simp only [In]; omega)) ?_ | refine WL.y rfl (Yld.rem rfl rfl (by omega) (by omega)) ?_ | refine WL.y rfl (Yld.shl rfl rfl (by omega)) ?_ | refine WL.y rfl (Yld.shr rfl rfl (by omega)) ?_ | refine WL.y rfl (Yld.pure za rfl) ?_ | refine WL.y rfl (Yld.fld zb rfl rfl rfl) ?_ | refine WL.y rfl (Yld.max2 rfl rfl) ?_ | refine WL.y rfl (Yld.min2 rfl rfl) ?_ | refine WL.y rfl (Yld.pickV rfl rfl rfl) ?_ | refine WL.gno rfl rfl rfl rfl ?_ | refine WL.gyes rfl rfl rfl rfl (Yld.add rfl rfl (by simp only [In]; omega)) ?_ | refine WL.gyes rfl rfl rfl rfl (Yld.sub rfl rfl (by simp only [In]; omega)) ?_ | refine WL.gyes rfl rfl rfl rfl (Yld.mul rfl rfl (by simp only [In]; omega)) ?_ | refine WL.gyes rfl rfl rfl rfl (Yld.convB za rfl rfl rfl rfl) ?_ | refine WL.gyes rfl rfl rfl rfl (Yld.conv za rfl rfl rfl (by simp only [In]; omega)) ?_ | refine WL.gyes rfl rfl rfl rfl (Yld.quo rfl rfl (by omega) (by omega) (by simp only [In]; omega)) ?_ | refine WL.gyes rfl rfl rfl rfl (Yld.rem rfl rfl (by omega) (by omega)) ?_ | refine WL.gyes rfl rfl rfl rfl (Yld.shl rfl rfl (by omega)) ?_ | refine WL.gyes rfl rfl rfl rfl (Yld.shr rfl rfl (by omega)) ?_ | refine WL.gyes rfl rfl rfl rfl (Yld.pure za rfl) ?_ | refine WL.gyes rfl rfl rfl rfl (Yld.fld zb rfl rfl rfl) ?_ | refine WL.gyes rfl rfl rfl rfl (Yld.max2 rfl rfl) ?_ | refine WL.gyes rfl rfl rfl rfl (Yld.min2 rfl rfl) ?_ | refine WL.gyes rfl rfl rfl rfl (Yld.pickV rfl rfl rfl) ?_)
 refine WC.loopF (fun n' L' w'=>∃ (i:Nat) (l:List PS) (A:Option Addr) (c:Nat),n'=100001 - i∧L'=[(3,.map (some gm)),(4,.slice A l.length c),(5,.int .i64 (i:Int))]∧SI w F_s s gm w' l A c∧i≤l.length∧∀ x∈l.take i,∀ f∈x.fr,∃ y∈l,y.id=f.id) _ _ ⟨0,[s],some ⟨g,0,none⟩,1,rfl,rfl,i0,by simp,by simp⟩ (by repeat (first | exact Sub.nil | refine Sub.cons rfl ?_)) ?_
 rintro _ _ w4 ⟨i,l,A,c,rfl,rfl,I,hi,hcl⟩
 repeat (first | refine WC.seq ?_ | refine WC.block ?_ | refine WC.region ?_ | refine WL.nil ?_ | refine WX.then_normal ?_ | refine WC.skip ?_ | refine WC.exit ?_ | refine WC.ret ?_ | refine WX.then_exit ?_ | refine WX.then_ret ?_ | refine WX.block_normal ?_ | refine WX.block_ret ?_ | refine WX.block_same ?_ | refine WX.block_other rfl ?_ | refine WC.label ?_ | refine WC.scope ?_ | refine WX.scope_normal ?_ | refine WX.scope_ret ?_ | refine WX.scope_exit ?_ | refine WL.y rfl (Yld.add rfl rfl (by simp only [In]; omega)) ?_ | refine WL.y rfl (Yld.sub rfl rfl (by simp only [In]; omega)) ?_ | refine WL.y rfl (Yld.mul rfl rfl (by simp only [In]; omega)) ?_ | refine WL.y rfl (Yld.convB za rfl rfl rfl rfl) ?_ | refine WL.y rfl (Yld.conv za rfl rfl rfl (by simp only [In]; omega)) ?_ | refine WL.y rfl (Yld.quo rfl rfl (by omega) (by omega) (by simp only [In]; omega)) ?_ | refine WL.y rfl (Yld.rem rfl rfl (by omega) (by omega)) ?_ | refine WL.y rfl (Yld.shl rfl rfl (by omega)) ?_ | refine WL.y rfl (Yld.shr rfl rfl (by omega)) ?_ | refine WL.y rfl (Yld.pure za rfl) ?_ | refine WL.y rfl (Yld.fld zb rfl rfl rfl) ?_ | refine WL.y rfl (Yld.max2 rfl rfl) ?_ | refine WL.y rfl (Yld.min2 rfl rfl) ?_ | refine WL.y rfl (Yld.pickV rfl rfl rfl) ?_ | refine WL.gno rfl rfl rfl rfl ?_ | refine WL.gyes rfl rfl rfl rfl (Yld.add rfl rfl (by simp only [In]; omega)) ?_ | refine WL.gyes rfl rfl rfl rfl (Yld.sub rfl rfl (by simp only [In]; omega)) ?_ | refine WL.gyes rfl rfl rfl rfl (Yld.mul rfl rfl (by simp only [In]; omega)) ?_ | refine WL.gyes rfl rfl rfl rfl (Yld.convB za rfl rfl rfl rfl) ?_ | refine WL.gyes rfl rfl rfl rfl (Yld.conv za rfl rfl rfl (by simp only [In]; omega)) ?_ | refine WL.gyes rfl rfl rfl rfl (Yld.quo rfl rfl (by omega) (by omega) (by simp only [In]; omega)) ?_ | refine WL.gyes rfl rfl rfl rfl (Yld.rem rfl rfl (by omega) (by omega)) ?_ | refine WL.gyes rfl rfl rfl rfl (Yld.shl rfl rfl (by omega)) ?_ | refine WL.gyes rfl rfl rfl rfl (Yld.shr rfl rfl (by omega)) ?_ | refine WL.gyes rfl rfl rfl rfl (Yld.pure za rfl) ?_ | refine WL.gyes rfl rfl rfl rfl (Yld.fld zb rfl rfl rfl) ?_ | refine WL.gyes rfl rfl rfl rfl (Yld.max2 rfl rfl) ?_ | refine WL.gyes rfl rfl rfl rfl (Yld.min2 rfl rfl) ?_ | refine WL.gyes rfl rfl rfl rfl (Yld.pickV rfl rfl rfl) ?_)
 refine WC.cond rfl (fun b1=>?_) (fun b1=>?_)
 ·have b1:=of_decide_eq_true b1
  have hil:i<l.length:=by omega
  have hil':i<(l.map (hdS F_s)).length:=by simpa using hil
  have hx:∃ x,l[i]?=some x:=⟨_,List.getElem?_eq_getElem hil⟩
  obtain ⟨x,hx⟩:=hx
  have hxm:x∈l:=List.mem_of_getElem? hx
  have hxr:=I.so.re x hxm
  have hxn:=I.nn x hxm
  have e1:vv ((l.map (hdS F_s)).getD i vh0)=.pointer (some ⟨x.id,0,none⟩):=by simp [List.getD,hx,hdS,vv]
  obtain ⟨Ao,co,Ak,ck,Af,cf,ho,hf,_,hBx,_,_,_,hRf,hrf,_⟩:=SR.out (relS hs hxr hxn) hxn
  have hgr4:=I.gr
  have hi5:(i:Int)<100000:=by have:=hB1 _ I.so; omega
  have hfl:(x.fr.length:Int)≤9223372036854775807:=by
   have h1:=hRf.cap
   have h2:=hRf.max
   rw [hrf.1] at h1
   simp only [maxLen] at h2
   omega
  repeat (first | refine WL.y rfl (Yld.iaddrNW za I.own.rd rfl rfl (by simp) rfl (by omega)) ?_ | refine WL.y rfl (Yld.iaddrW za I.own.rd rfl rfl (by simp) rfl (by omega) (by omega)) ?_ | refine WC.seq ?_ | refine WC.block ?_ | refine WC.region ?_ | refine WL.nil ?_ | refine WX.then_normal ?_ | refine WC.skip ?_ | refine WC.exit ?_ | refine WC.ret ?_ | refine WX.then_exit ?_ | refine WX.then_ret ?_ | refine WX.block_normal ?_ | refine WX.block_ret ?_ | refine WX.block_same ?_ | refine WX.block_other rfl ?_ | refine WC.label ?_ | refine WC.scope ?_ | refine WX.scope_normal ?_ | refine WX.scope_ret ?_ | refine WX.scope_exit ?_ | refine WL.y rfl (Yld.add rfl rfl (by simp only [In]; omega)) ?_ | refine WL.y rfl (Yld.sub rfl rfl (by simp only [In]; omega)) ?_ | refine WL.y rfl (Yld.mul rfl rfl (by simp only [In]; omega)) ?_ | refine WL.y rfl (Yld.convB za rfl rfl rfl rfl) ?_ | refine WL.y rfl (Yld.conv za rfl rfl rfl (by simp only [In]; omega)) ?_ | refine WL.y rfl (Yld.quo rfl rfl (by omega) (by omega) (by simp only [In]; omega)) ?_ | refine WL.y rfl (Yld.rem rfl rfl (by omega) (by omega)) ?_ | refine WL.y rfl (Yld.shl rfl rfl (by omega)) ?_ | refine WL.y rfl (Yld.shr rfl rfl (by omega)) ?_ | refine WL.y rfl (Yld.pure za rfl) ?_ | refine WL.y rfl (Yld.fld zb rfl rfl rfl) ?_ | refine WL.y rfl (Yld.max2 rfl rfl) ?_ | refine WL.y rfl (Yld.min2 rfl rfl) ?_ | refine WL.y rfl (Yld.pickV rfl rfl rfl) ?_ | refine WL.gno rfl rfl rfl rfl ?_ | refine WL.gyes rfl rfl rfl rfl (Yld.add rfl rfl (by simp only [In]; omega)) ?_ | refine WL.gyes rfl rfl rfl rfl (Yld.sub rfl rfl (by simp only [In]; omega)) ?_ | refine WL.gyes rfl rfl rfl rfl (Yld.mul rfl rfl (by simp only [In]; omega)) ?_ | refine WL.gyes rfl rfl rfl rfl (Yld.convB za rfl rfl rfl rfl) ?_ | refine WL.gyes rfl rfl rfl rfl (Yld.conv za rfl rfl rfl (by simp only [In]; omega)) ?_ | refine WL.gyes rfl rfl rfl rfl (Yld.quo rfl rfl (by omega) (by omega) (by simp only [In]; omega)) ?_ | refine WL.gyes rfl rfl rfl rfl (Yld.rem rfl rfl (by omega) (by omega)) ?_ | refine WL.gyes rfl rfl rfl rfl (Yld.shl rfl rfl (by omega)) ?_ | refine WL.gyes rfl rfl rfl rfl (Yld.shr rfl rfl (by omega)) ?_ | refine WL.gyes rfl rfl rfl rfl (Yld.pure za rfl) ?_ | refine WL.gyes rfl rfl rfl rfl (Yld.fld zb rfl rfl rfl) ?_ | refine WL.gyes rfl rfl rfl rfl (Yld.max2 rfl rfl) ?_ | refine WL.gyes rfl rfl rfl rfl (Yld.min2 rfl rfl) ?_ | refine WL.gyes rfl rfl rfl rfl (Yld.pickV rfl rfl rfl) ?_)
  refine WL.y rfl (Yld.to (v:=.pointer (some ⟨x.id,0,none⟩)) (Yld.iload vh0 za I.own.rd rfl rfl hil') e1) ?_
  refine WL.y rfl (Yld.pure za rfl) ?_
  refine WL.y rfl (Yld.fa0 (o:=3) (by kernel_rfl) rfl) ?_
  refine WL.y rfl (Yld.bload za (hBx.g0 hgr4) rfl rfl rfl) ?_
  repeat (first | refine WC.seq ?_ | refine WC.block ?_ | refine WC.region ?_ | refine WL.nil ?_ | refine WX.then_normal ?_ | refine WC.skip ?_ | refine WC.exit ?_ | refine WC.ret ?_ | refine WX.then_exit ?_ | refine WX.then_ret ?_ | refine WX.block_normal ?_ | refine WX.block_ret ?_ | refine WX.block_same ?_ | refine WX.block_other rfl ?_ | refine WC.label ?_ | refine WC.scope ?_ | refine WX.scope_normal ?_ | refine WX.scope_ret ?_ | refine WX.scope_exit ?_ | refine WL.y rfl (Yld.add rfl rfl (by simp only [In]; omega)) ?_ | refine WL.y rfl (Yld.sub rfl rfl (by simp only [In]; omega)) ?_ | refine WL.y rfl (Yld.mul rfl rfl (by simp only [In]; omega)) ?_ | refine WL.y rfl (Yld.convB za rfl rfl rfl rfl) ?_ | refine WL.y rfl (Yld.conv za rfl rfl rfl (by simp only [In]; omega)) ?_ | refine WL.y rfl (Yld.quo rfl rfl (by omega) (by omega) (by simp only [In]; omega)) ?_ | refine WL.y rfl (Yld.rem rfl rfl (by omega) (by omega)) ?_ | refine WL.y rfl (Yld.shl rfl rfl (by omega)) ?_ | refine WL.y rfl (Yld.shr rfl rfl (by omega)) ?_ | refine WL.y rfl (Yld.pure za rfl) ?_ | refine WL.y rfl (Yld.fld zb rfl rfl rfl) ?_ | refine WL.y rfl (Yld.max2 rfl rfl) ?_ | refine WL.y rfl (Yld.min2 rfl rfl) ?_ | refine WL.y rfl (Yld.pickV rfl rfl rfl) ?_ | refine WL.gno rfl rfl rfl rfl ?_ | refine WL.gyes rfl rfl rfl rfl (Yld.add rfl rfl (by simp only [In]; omega)) ?_ | refine WL.gyes rfl rfl rfl rfl (Yld.sub rfl rfl (by simp only [In]; omega)) ?_ | refine WL.gyes rfl rfl rfl rfl (Yld.mul rfl rfl (by simp only [In]; omega)) ?_ | refine WL.gyes rfl rfl rfl rfl (Yld.convB za rfl rfl rfl rfl) ?_ | refine WL.gyes rfl rfl rfl rfl (Yld.conv za rfl rfl rfl (by simp only [In]; omega)) ?_ | refine WL.gyes rfl rfl rfl rfl (Yld.quo rfl rfl (by omega) (by omega) (by simp only [In]; omega)) ?_ | refine WL.gyes rfl rfl rfl rfl (Yld.rem rfl rfl (by omega) (by omega)) ?_ | refine WL.gyes rfl rfl rfl rfl (Yld.shl rfl rfl (by omega)) ?_ | refine WL.gyes rfl rfl rfl rfl (Yld.shr rfl rfl (by omega)) ?_ | refine WL.gyes rfl rfl rfl rfl (Yld.pure za rfl) ?_ | refine WL.gyes rfl rfl rfl rfl (Yld.fld zb rfl rfl rfl) ?_ | refine WL.gyes rfl rfl rfl rfl (Yld.max2 rfl rfl) ?_ | refine WL.gyes rfl rfl rfl rfl (Yld.min2 rfl rfl) ?_ | refine WL.gyes rfl rfl rfl rfl (Yld.pickV rfl rfl rfl) ?_)
  refine WC.loopF (fun n' L' w'=>∃ (j:Nat) (l':List PS) (A':Option Addr) (c':Nat),n'=x.fr.length - j∧L'=[(3,.map (some gm)),(4,.slice A' l'.length c'),(5,.int .i64 (i:Int)),(25,.slice Af x.fr.length cf),(26,.int .i64 (x.fr.length:Int)),(27,.int .i64 (j:Int))]∧SI w F_s s gm w' l' A' c'∧j≤x.fr.length∧(∃ t,l'=l++t)∧∀ f∈x.fr.take j,∃ y∈l',y.id=f.id) _ _ ⟨0,l,A,c,rfl,rfl,I,by simp,⟨[],by simp⟩,by simp⟩ (by repeat (first | exact Sub.nil | refine Sub.cons rfl ?_)) ?_
  rintro _ _ w5 ⟨j,l',A',c',rfl,rfl,I',hj,⟨t,ht⟩,hcl'⟩
  repeat (first | refine WC.seq ?_ | refine WC.block ?_ | refine WC.region ?_ | refine WL.nil ?_ | refine WX.then_normal ?_ | refine WC.skip ?_ | refine WC.exit ?_ | refine WC.ret ?_ | refine WX.then_exit ?_ | refine WX.then_ret ?_ | refine WX.block_normal ?_ | refine WX.block_ret ?_ | refine WX.block_same ?_ | refine WX.block_other rfl ?_ | refine WC.label ?_ | refine WC.scope ?_ | refine WX.scope_normal ?_ | refine WX.scope_ret ?_ | refine WX.scope_exit ?_ | refine WL.y rfl (Yld.add rfl rfl (by simp only [In]; omega)) ?_ | refine WL.y rfl (Yld.sub rfl rfl (by simp only [In]; omega)) ?_ | refine WL.y rfl (Yld.mul rfl rfl (by simp only [In]; omega)) ?_ | refine WL.y rfl (Yld.convB za rfl rfl rfl rfl) ?_ | refine WL.y rfl (Yld.conv za rfl rfl rfl (by simp only [In]; omega)) ?_ | refine WL.y rfl (Yld.quo rfl rfl (by omega) (by omega) (by simp only [In]; omega)) ?_ | refine WL.y rfl (Yld.rem rfl rfl (by omega) (by omega)) ?_ | refine WL.y rfl (Yld.shl rfl rfl (by omega)) ?_ | refine WL.y rfl (Yld.shr rfl rfl (by omega)) ?_ | refine WL.y rfl (Yld.pure za rfl) ?_ | refine WL.y rfl (Yld.fld zb rfl rfl rfl) ?_ | refine WL.y rfl (Yld.max2 rfl rfl) ?_ | refine WL.y rfl (Yld.min2 rfl rfl) ?_ | refine WL.y rfl (Yld.pickV rfl rfl rfl) ?_ | refine WL.gno rfl rfl rfl rfl ?_ | refine WL.gyes rfl rfl rfl rfl (Yld.add rfl rfl (by simp only [In]; omega)) ?_ | refine WL.gyes rfl rfl rfl rfl (Yld.sub rfl rfl (by simp only [In]; omega)) ?_ | refine WL.gyes rfl rfl rfl rfl (Yld.mul rfl rfl (by simp only [In]; omega)) ?_ | refine WL.gyes rfl rfl rfl rfl (Yld.convB za rfl rfl rfl rfl) ?_ | refine WL.gyes rfl rfl rfl rfl (Yld.conv za rfl rfl rfl (by simp only [In]; omega)) ?_ | refine WL.gyes rfl rfl rfl rfl (Yld.quo rfl rfl (by omega) (by omega) (by simp only [In]; omega)) ?_ | refine WL.gyes rfl rfl rfl rfl (Yld.rem rfl rfl (by omega) (by omega)) ?_ | refine WL.gyes rfl rfl rfl rfl (Yld.shl rfl rfl (by omega)) ?_ | refine WL.gyes rfl rfl rfl rfl (Yld.shr rfl rfl (by omega)) ?_ | refine WL.gyes rfl rfl rfl rfl (Yld.pure za rfl) ?_ | refine WL.gyes rfl rfl rfl rfl (Yld.fld zb rfl rfl rfl) ?_ | refine WL.gyes rfl rfl rfl rfl (Yld.max2 rfl rfl) ?_ | refine WL.gyes rfl rfl rfl rfl (Yld.min2 rfl rfl) ?_ | refine WL.gyes rfl rfl rfl rfl (Yld.pickV rfl rfl rfl) ?_)
  refine WC.cond rfl (fun b2=>?_) (fun b2=>?_)
  ·have b2:=of_decide_eq_true b2
   have hjl:j<x.fr.length:=by omega
   have hjh:j<hf.length:=by rw [hrf.1]; exact hjl
   obtain ⟨f,hfj⟩:∃ f,x.fr[j]?=some f:=⟨_,List.getElem?_eq_getElem hjl⟩
   have hfm:f∈x.fr:=List.mem_of_getElem? hfj
   have hfr:zV s f:=.step hxr hfm
   have hfn:f≠.nil:=by
    cases x with
    | nil=>exact absurd rfl hxn
    | mk =>
     obtain ⟨⟨n,k⟩,_⟩:=(relS hs hxr hxn).one
     cases n with
     | zero=>exact k.elim
     | succ n =>
      obtain ⟨_,_,_,_,_,_,_,_,_,hq,_,_,_,_,_,_,_,_,q2,_,q4⟩:=k
      exact (q4 j _ f (List.getElem?_eq_getElem (by rw [q2]; exact hjl)) hfj).1
   have e2:vv (hf.getD j vh0)=.pointer (some ⟨f.id,0,none⟩):=by
    obtain ⟨⟨n,k⟩,_⟩:=hrf.2 j _ f (List.getElem?_eq_getElem hjh) hfj
    have:=k.ptr
    cases f with
    | nil=>exact absurd rfl hfn
    | mk=>simp [List.getD,hjh,vv]; exact this
   have hgr5:=I'.gr
   repeat (first | refine WL.y rfl (Yld.iaddrNW za (hRf.grown hgr5) rfl rfl hrf.1.symm rfl (by omega)) ?_ | refine WL.y rfl (Yld.iaddrW za (hRf.grown hgr5) rfl rfl hrf.1.symm rfl (by omega) (by omega)) ?_ | refine WC.seq ?_ | refine WC.block ?_ | refine WC.region ?_ | refine WL.nil ?_ | refine WX.then_normal ?_ | refine WC.skip ?_ | refine WC.exit ?_ | refine WC.ret ?_ | refine WX.then_exit ?_ | refine WX.then_ret ?_ | refine WX.block_normal ?_ | refine WX.block_ret ?_ | refine WX.block_same ?_ | refine WX.block_other rfl ?_ | refine WC.label ?_ | refine WC.scope ?_ | refine WX.scope_normal ?_ | refine WX.scope_ret ?_ | refine WX.scope_exit ?_ | refine WL.y rfl (Yld.add rfl rfl (by simp only [In]; omega)) ?_ | refine WL.y rfl (Yld.sub rfl rfl (by simp only [In]; omega)) ?_ | refine WL.y rfl (Yld.mul rfl rfl (by simp only [In]; omega)) ?_ | refine WL.y rfl (Yld.convB za rfl rfl rfl rfl) ?_ | refine WL.y rfl (Yld.conv za rfl rfl rfl (by simp only [In]; omega)) ?_ | refine WL.y rfl (Yld.quo rfl rfl (by omega) (by omega) (by simp only [In]; omega)) ?_ | refine WL.y rfl (Yld.rem rfl rfl (by omega) (by omega)) ?_ | refine WL.y rfl (Yld.shl rfl rfl (by omega)) ?_ | refine WL.y rfl (Yld.shr rfl rfl (by omega)) ?_ | refine WL.y rfl (Yld.pure za rfl) ?_ | refine WL.y rfl (Yld.fld zb rfl rfl rfl) ?_ | refine WL.y rfl (Yld.max2 rfl rfl) ?_ | refine WL.y rfl (Yld.min2 rfl rfl) ?_ | refine WL.y rfl (Yld.pickV rfl rfl rfl) ?_ | refine WL.gno rfl rfl rfl rfl ?_ | refine WL.gyes rfl rfl rfl rfl (Yld.add rfl rfl (by simp only [In]; omega)) ?_ | refine WL.gyes rfl rfl rfl rfl (Yld.sub rfl rfl (by simp only [In]; omega)) ?_ | refine WL.gyes rfl rfl rfl rfl (Yld.mul rfl rfl (by simp only [In]; omega)) ?_ | refine WL.gyes rfl rfl rfl rfl (Yld.convB za rfl rfl rfl rfl) ?_ | refine WL.gyes rfl rfl rfl rfl (Yld.conv za rfl rfl rfl (by simp only [In]; omega)) ?_ | refine WL.gyes rfl rfl rfl rfl (Yld.quo rfl rfl (by omega) (by omega) (by simp only [In]; omega)) ?_ | refine WL.gyes rfl rfl rfl rfl (Yld.rem rfl rfl (by omega) (by omega)) ?_ | refine WL.gyes rfl rfl rfl rfl (Yld.shl rfl rfl (by omega)) ?_ | refine WL.gyes rfl rfl rfl rfl (Yld.shr rfl rfl (by omega)) ?_ | refine WL.gyes rfl rfl rfl rfl (Yld.pure za rfl) ?_ | refine WL.gyes rfl rfl rfl rfl (Yld.fld zb rfl rfl rfl) ?_ | refine WL.gyes rfl rfl rfl rfl (Yld.max2 rfl rfl) ?_ | refine WL.gyes rfl rfl rfl rfl (Yld.min2 rfl rfl) ?_ | refine WL.gyes rfl rfl rfl rfl (Yld.pickV rfl rfl rfl) ?_)
   refine WL.y rfl (Yld.to (v:=.pointer (some ⟨f.id,0,none⟩)) (Yld.iload vh0 za (hRf.grown hgr5) rfl rfl hjh) e2) ?_
   have hs5:=hs.grown hgr5
   have hok:okR s f.id:=⟨f,hfr,hfn,rfl⟩
   repeat (first | refine WC.seq ?_ | refine WC.block ?_ | refine WC.region ?_ | refine WL.nil ?_ | refine WX.then_normal ?_ | refine WC.skip ?_ | refine WC.exit ?_ | refine WC.ret ?_ | refine WX.then_exit ?_ | refine WX.then_ret ?_ | refine WX.block_normal ?_ | refine WX.block_ret ?_ | refine WX.block_same ?_ | refine WX.block_other rfl ?_ | refine WC.label ?_ | refine WC.scope ?_ | refine WX.scope_normal ?_ | refine WX.scope_ret ?_ | refine WX.scope_exit ?_ | refine WL.y rfl (Yld.add rfl rfl (by simp only [In]; omega)) ?_ | refine WL.y rfl (Yld.sub rfl rfl (by simp only [In]; omega)) ?_ | refine WL.y rfl (Yld.mul rfl rfl (by simp only [In]; omega)) ?_ | refine WL.y rfl (Yld.convB za rfl rfl rfl rfl) ?_ | refine WL.y rfl (Yld.conv za rfl rfl rfl (by simp only [In]; omega)) ?_ | refine WL.y rfl (Yld.quo rfl rfl (by omega) (by omega) (by simp only [In]; omega)) ?_ | refine WL.y rfl (Yld.rem rfl rfl (by omega) (by omega)) ?_ | refine WL.y rfl (Yld.shl rfl rfl (by omega)) ?_ | refine WL.y rfl (Yld.shr rfl rfl (by omega)) ?_ | refine WL.y rfl (Yld.pure za rfl) ?_ | refine WL.y rfl (Yld.fld zb rfl rfl rfl) ?_ | refine WL.y rfl (Yld.max2 rfl rfl) ?_ | refine WL.y rfl (Yld.min2 rfl rfl) ?_ | refine WL.y rfl (Yld.pickV rfl rfl rfl) ?_ | refine WL.gno rfl rfl rfl rfl ?_ | refine WL.gyes rfl rfl rfl rfl (Yld.add rfl rfl (by simp only [In]; omega)) ?_ | refine WL.gyes rfl rfl rfl rfl (Yld.sub rfl rfl (by simp only [In]; omega)) ?_ | refine WL.gyes rfl rfl rfl rfl (Yld.mul rfl rfl (by simp only [In]; omega)) ?_ | refine WL.gyes rfl rfl rfl rfl (Yld.convB za rfl rfl rfl rfl) ?_ | refine WL.gyes rfl rfl rfl rfl (Yld.conv za rfl rfl rfl (by simp only [In]; omega)) ?_ | refine WL.gyes rfl rfl rfl rfl (Yld.quo rfl rfl (by omega) (by omega) (by simp only [In]; omega)) ?_ | refine WL.gyes rfl rfl rfl rfl (Yld.rem rfl rfl (by omega) (by omega)) ?_ | refine WL.gyes rfl rfl rfl rfl (Yld.shl rfl rfl (by omega)) ?_ | refine WL.gyes rfl rfl rfl rfl (Yld.shr rfl rfl (by omega)) ?_ | refine WL.gyes rfl rfl rfl rfl (Yld.pure za rfl) ?_ | refine WL.gyes rfl rfl rfl rfl (Yld.fld zb rfl rfl rfl) ?_ | refine WL.gyes rfl rfl rfl rfl (Yld.max2 rfl rfl) ?_ | refine WL.gyes rfl rfl rfl rfl (Yld.min2 rfl rfl) ?_ | refine WL.gyes rfl rfl rfl rfl (Yld.pickV rfl rfl rfl) ?_)
   refine WL.y rfl (Yld.lookW (z:=false) (q:=f.id) (keyS Tryz.underlying41 (by kernel_rfl) hs5) Tryz.underlying145 (fun _=>by kernel_rfl) I'.mp rfl rfl hok) ?_
   rw [mget_ids]
   repeat (first | refine WC.seq ?_ | refine WC.block ?_ | refine WC.region ?_ | refine WL.nil ?_ | refine WX.then_normal ?_ | refine WC.skip ?_ | refine WC.exit ?_ | refine WC.ret ?_ | refine WX.then_exit ?_ | refine WX.then_ret ?_ | refine WX.block_normal ?_ | refine WX.block_ret ?_ | refine WX.block_same ?_ | refine WX.block_other rfl ?_ | refine WC.label ?_ | refine WC.scope ?_ | refine WX.scope_normal ?_ | refine WX.scope_ret ?_ | refine WX.scope_exit ?_ | refine WL.y rfl (Yld.add rfl rfl (by simp only [In]; omega)) ?_ | refine WL.y rfl (Yld.sub rfl rfl (by simp only [In]; omega)) ?_ | refine WL.y rfl (Yld.mul rfl rfl (by simp only [In]; omega)) ?_ | refine WL.y rfl (Yld.convB za rfl rfl rfl rfl) ?_ | refine WL.y rfl (Yld.conv za rfl rfl rfl (by simp only [In]; omega)) ?_ | refine WL.y rfl (Yld.quo rfl rfl (by omega) (by omega) (by simp only [In]; omega)) ?_ | refine WL.y rfl (Yld.rem rfl rfl (by omega) (by omega)) ?_ | refine WL.y rfl (Yld.shl rfl rfl (by omega)) ?_ | refine WL.y rfl (Yld.shr rfl rfl (by omega)) ?_ | refine WL.y rfl (Yld.pure za rfl) ?_ | refine WL.y rfl (Yld.fld zb rfl rfl rfl) ?_ | refine WL.y rfl (Yld.max2 rfl rfl) ?_ | refine WL.y rfl (Yld.min2 rfl rfl) ?_ | refine WL.y rfl (Yld.pickV rfl rfl rfl) ?_ | refine WL.gno rfl rfl rfl rfl ?_ | refine WL.gyes rfl rfl rfl rfl (Yld.add rfl rfl (by simp only [In]; omega)) ?_ | refine WL.gyes rfl rfl rfl rfl (Yld.sub rfl rfl (by simp only [In]; omega)) ?_ | refine WL.gyes rfl rfl rfl rfl (Yld.mul rfl rfl (by simp only [In]; omega)) ?_ | refine WL.gyes rfl rfl rfl rfl (Yld.convB za rfl rfl rfl rfl) ?_ | refine WL.gyes rfl rfl rfl rfl (Yld.conv za rfl rfl rfl (by simp only [In]; omega)) ?_ | refine WL.gyes rfl rfl rfl rfl (Yld.quo rfl rfl (by omega) (by omega) (by simp only [In]; omega)) ?_ | refine WL.gyes rfl rfl rfl rfl (Yld.rem rfl rfl (by omega) (by omega)) ?_ | refine WL.gyes rfl rfl rfl rfl (Yld.shl rfl rfl (by omega)) ?_ | refine WL.gyes rfl rfl rfl rfl (Yld.shr rfl rfl (by omega)) ?_ | refine WL.gyes rfl rfl rfl rfl (Yld.pure za rfl) ?_ | refine WL.gyes rfl rfl rfl rfl (Yld.fld zb rfl rfl rfl) ?_ | refine WL.gyes rfl rfl rfl rfl (Yld.max2 rfl rfl) ?_ | refine WL.gyes rfl rfl rfl rfl (Yld.min2 rfl rfl) ?_ | refine WL.gyes rfl rfl rfl rfl (Yld.pickV rfl rfl rfl) ?_)
   refine WC.cond rfl (fun b3=>?_) (fun b3=>?_)
   ·have hnot:f.id∉l'.map PS.id:=by simpa using b3
    have hso:=I'.so.push hfr hnot
    have hlen:=hB1 _ hso
    simp only [List.length_append,List.length_cons,List.length_nil] at hlen
    repeat (first | refine WC.seq ?_ | refine WC.block ?_ | refine WC.region ?_ | refine WL.nil ?_ | refine WX.then_normal ?_ | refine WC.skip ?_ | refine WC.exit ?_ | refine WC.ret ?_ | refine WX.then_exit ?_ | refine WX.then_ret ?_ | refine WX.block_normal ?_ | refine WX.block_ret ?_ | refine WX.block_same ?_ | refine WX.block_other rfl ?_ | refine WC.label ?_ | refine WC.scope ?_ | refine WX.scope_normal ?_ | refine WX.scope_ret ?_ | refine WX.scope_exit ?_ | refine WL.y rfl (Yld.add rfl rfl (by simp only [In]; omega)) ?_ | refine WL.y rfl (Yld.sub rfl rfl (by simp only [In]; omega)) ?_ | refine WL.y rfl (Yld.mul rfl rfl (by simp only [In]; omega)) ?_ | refine WL.y rfl (Yld.convB za rfl rfl rfl rfl) ?_ | refine WL.y rfl (Yld.conv za rfl rfl rfl (by simp only [In]; omega)) ?_ | refine WL.y rfl (Yld.quo rfl rfl (by omega) (by omega) (by simp only [In]; omega)) ?_ | refine WL.y rfl (Yld.rem rfl rfl (by omega) (by omega)) ?_ | refine WL.y rfl (Yld.shl rfl rfl (by omega)) ?_ | refine WL.y rfl (Yld.shr rfl rfl (by omega)) ?_ | refine WL.y rfl (Yld.pure za rfl) ?_ | refine WL.y rfl (Yld.fld zb rfl rfl rfl) ?_ | refine WL.y rfl (Yld.max2 rfl rfl) ?_ | refine WL.y rfl (Yld.min2 rfl rfl) ?_ | refine WL.y rfl (Yld.pickV rfl rfl rfl) ?_ | refine WL.gno rfl rfl rfl rfl ?_ | refine WL.gyes rfl rfl rfl rfl (Yld.add rfl rfl (by simp only [In]; omega)) ?_ | refine WL.gyes rfl rfl rfl rfl (Yld.sub rfl rfl (by simp only [In]; omega)) ?_ | refine WL.gyes rfl rfl rfl rfl (Yld.mul rfl rfl (by simp only [In]; omega)) ?_ | refine WL.gyes rfl rfl rfl rfl (Yld.convB za rfl rfl rfl rfl) ?_ | refine WL.gyes rfl rfl rfl rfl (Yld.conv za rfl rfl rfl (by simp only [In]; omega)) ?_ | refine WL.gyes rfl rfl rfl rfl (Yld.quo rfl rfl (by omega) (by omega) (by simp only [In]; omega)) ?_ | refine WL.gyes rfl rfl rfl rfl (Yld.rem rfl rfl (by omega) (by omega)) ?_ | refine WL.gyes rfl rfl rfl rfl (Yld.shl rfl rfl (by omega)) ?_ | refine WL.gyes rfl rfl rfl rfl (Yld.shr rfl rfl (by omega)) ?_ | refine WL.gyes rfl rfl rfl rfl (Yld.pure za rfl) ?_ | refine WL.gyes rfl rfl rfl rfl (Yld.fld zb rfl rfl rfl) ?_ | refine WL.gyes rfl rfl rfl rfl (Yld.max2 rfl rfl) ?_ | refine WL.gyes rfl rfl rfl rfl (Yld.min2 rfl rfl) ?_ | refine WL.gyes rfl rfl rfl rfl (Yld.pickV rfl rfl rfl) ?_)
    refine WL.ef0 (Ef0.putW (v:=true) (q:=f.id) (keyS Tryz.underlying41 (by kernel_rfl) hs5) Tryz.underlying145 I'.mp (by simp [maxLen]; omega) rfl rfl hok rfl) ?_
    rintro w6 ⟨hM6,hg6⟩
    have gr6:w.grownBy w6 none:=zk hgr5 hg6 (Ge.box I'.ge)
    have hO6:=I'.own.go hg6 I'.dj.symm
    repeat (first | refine WC.seq ?_ | refine WC.block ?_ | refine WC.region ?_ | refine WL.nil ?_ | refine WX.then_normal ?_ | refine WC.skip ?_ | refine WC.exit ?_ | refine WC.ret ?_ | refine WX.then_exit ?_ | refine WX.then_ret ?_ | refine WX.block_normal ?_ | refine WX.block_ret ?_ | refine WX.block_same ?_ | refine WX.block_other rfl ?_ | refine WC.label ?_ | refine WC.scope ?_ | refine WX.scope_normal ?_ | refine WX.scope_ret ?_ | refine WX.scope_exit ?_ | refine WL.y rfl (Yld.add rfl rfl (by simp only [In]; omega)) ?_ | refine WL.y rfl (Yld.sub rfl rfl (by simp only [In]; omega)) ?_ | refine WL.y rfl (Yld.mul rfl rfl (by simp only [In]; omega)) ?_ | refine WL.y rfl (Yld.convB za rfl rfl rfl rfl) ?_ | refine WL.y rfl (Yld.conv za rfl rfl rfl (by simp only [In]; omega)) ?_ | refine WL.y rfl (Yld.quo rfl rfl (by omega) (by omega) (by simp only [In]; omega)) ?_ | refine WL.y rfl (Yld.rem rfl rfl (by omega) (by omega)) ?_ | refine WL.y rfl (Yld.shl rfl rfl (by omega)) ?_ | refine WL.y rfl (Yld.shr rfl rfl (by omega)) ?_ | refine WL.y rfl (Yld.pure za rfl) ?_ | refine WL.y rfl (Yld.fld zb rfl rfl rfl) ?_ | refine WL.y rfl (Yld.max2 rfl rfl) ?_ | refine WL.y rfl (Yld.min2 rfl rfl) ?_ | refine WL.y rfl (Yld.pickV rfl rfl rfl) ?_ | refine WL.gno rfl rfl rfl rfl ?_ | refine WL.gyes rfl rfl rfl rfl (Yld.add rfl rfl (by simp only [In]; omega)) ?_ | refine WL.gyes rfl rfl rfl rfl (Yld.sub rfl rfl (by simp only [In]; omega)) ?_ | refine WL.gyes rfl rfl rfl rfl (Yld.mul rfl rfl (by simp only [In]; omega)) ?_ | refine WL.gyes rfl rfl rfl rfl (Yld.convB za rfl rfl rfl rfl) ?_ | refine WL.gyes rfl rfl rfl rfl (Yld.conv za rfl rfl rfl (by simp only [In]; omega)) ?_ | refine WL.gyes rfl rfl rfl rfl (Yld.quo rfl rfl (by omega) (by omega) (by simp only [In]; omega)) ?_ | refine WL.gyes rfl rfl rfl rfl (Yld.rem rfl rfl (by omega) (by omega)) ?_ | refine WL.gyes rfl rfl rfl rfl (Yld.shl rfl rfl (by omega)) ?_ | refine WL.gyes rfl rfl rfl rfl (Yld.shr rfl rfl (by omega)) ?_ | refine WL.gyes rfl rfl rfl rfl (Yld.pure za rfl) ?_ | refine WL.gyes rfl rfl rfl rfl (Yld.fld zb rfl rfl rfl) ?_ | refine WL.gyes rfl rfl rfl rfl (Yld.max2 rfl rfl) ?_ | refine WL.gyes rfl rfl rfl rfl (Yld.min2 rfl rfl) ?_ | refine WL.gyes rfl rfl rfl rfl (Yld.pickV rfl rfl rfl) ?_)
    refine WL.lit (us:=[vp f.id]) za rfl rfl rfl (zf rfl zm) rfl (by omega) (fun g7 w7 hB7 hg7 hl7=>?_)
    have hO7:Own vv w7 w.heap.size 41 (some ⟨g7,0,none⟩) 1 ([f].map (hdS F_s)):=Own.ofBl hB7 (Nat.le_trans gr6.size hl7) (by simp [maxLen]) rfl
    have gr7:=zd gr6 hg7
    have hO7':=hO6.grown hg7
    have hM7:=hM6.g0 hg7
    refine WL.append za rfl rfl One.vv hO7' rfl (by simp) hO7.rd rfl (by simp) (by simp only [List.length_map,List.length_cons,List.length_nil]; omega) (by simp only [maxLen,List.length_map,List.length_cons,List.length_nil]; omega) gr7.size (fun A8 c8 w8 hO8 hg8 hk8=>?_)
    have el:((l'.map (hdS F_s))++[f].map (hdS F_s)).length=(l'++[f]).length:=by simp
    rw [el]
    have em:l'.map (hdS F_s)++[f].map (hdS F_s)=(l'++[f]).map (hdS F_s):=by simp
    rw [em] at hO8
    have gr8:w.grownBy w8 none:=zk gr7 hg8 hO7'.ge'
    have hd7:Dj (some gm) (blk A'):=I'.dj
    have hM8:MapB vp (okR s) vB w8 gm ((l'++[f]).map fun x=>(x.id,true)):=by
     have h1:=hM7.go hg8 hd7
     have h2:mput (l'.map fun x=>(x.id,true)) f.id true=(l'++[f]).map fun x=>(x.id,true):=by
      rw [mput_new,List.map_append]
      ·rfl
      ·rw [mget_none]
       intro p hp e
       obtain ⟨y,hy,rfl⟩:=List.mem_map.1 hp
       exact hnot (List.mem_map.2 ⟨y,hy,e⟩)
     rw [h2] at h1
     exact h1
    have hdj8:Dj (some gm) (blk A8):=(Dj.app hd7.symm hM7.lt' hk8).symm
    repeat (first | refine WC.seq ?_ | refine WC.block ?_ | refine WC.region ?_ | refine WL.nil ?_ | refine WX.then_normal ?_ | refine WC.skip ?_ | refine WC.exit ?_ | refine WC.ret ?_ | refine WX.then_exit ?_ | refine WX.then_ret ?_ | refine WX.block_normal ?_ | refine WX.block_ret ?_ | refine WX.block_same ?_ | refine WX.block_other rfl ?_ | refine WC.label ?_ | refine WC.scope ?_ | refine WX.scope_normal ?_ | refine WX.scope_ret ?_ | refine WX.scope_exit ?_ | refine WL.y rfl (Yld.add rfl rfl (by simp only [In]; omega)) ?_ | refine WL.y rfl (Yld.sub rfl rfl (by simp only [In]; omega)) ?_ | refine WL.y rfl (Yld.mul rfl rfl (by simp only [In]; omega)) ?_ | refine WL.y rfl (Yld.convB za rfl rfl rfl rfl) ?_ | refine WL.y rfl (Yld.conv za rfl rfl rfl (by simp only [In]; omega)) ?_ | refine WL.y rfl (Yld.quo rfl rfl (by omega) (by omega) (by simp only [In]; omega)) ?_ | refine WL.y rfl (Yld.rem rfl rfl (by omega) (by omega)) ?_ | refine WL.y rfl (Yld.shl rfl rfl (by omega)) ?_ | refine WL.y rfl (Yld.shr rfl rfl (by omega)) ?_ | refine WL.y rfl (Yld.pure za rfl) ?_ | refine WL.y rfl (Yld.fld zb rfl rfl rfl) ?_ | refine WL.y rfl (Yld.max2 rfl rfl) ?_ | refine WL.y rfl (Yld.min2 rfl rfl) ?_ | refine WL.y rfl (Yld.pickV rfl rfl rfl) ?_ | refine WL.gno rfl rfl rfl rfl ?_ | refine WL.gyes rfl rfl rfl rfl (Yld.add rfl rfl (by simp only [In]; omega)) ?_ | refine WL.gyes rfl rfl rfl rfl (Yld.sub rfl rfl (by simp only [In]; omega)) ?_ | refine WL.gyes rfl rfl rfl rfl (Yld.mul rfl rfl (by simp only [In]; omega)) ?_ | refine WL.gyes rfl rfl rfl rfl (Yld.convB za rfl rfl rfl rfl) ?_ | refine WL.gyes rfl rfl rfl rfl (Yld.conv za rfl rfl rfl (by simp only [In]; omega)) ?_ | refine WL.gyes rfl rfl rfl rfl (Yld.quo rfl rfl (by omega) (by omega) (by simp only [In]; omega)) ?_ | refine WL.gyes rfl rfl rfl rfl (Yld.rem rfl rfl (by omega) (by omega)) ?_ | refine WL.gyes rfl rfl rfl rfl (Yld.shl rfl rfl (by omega)) ?_ | refine WL.gyes rfl rfl rfl rfl (Yld.shr rfl rfl (by omega)) ?_ | refine WL.gyes rfl rfl rfl rfl (Yld.pure za rfl) ?_ | refine WL.gyes rfl rfl rfl rfl (Yld.fld zb rfl rfl rfl) ?_ | refine WL.gyes rfl rfl rfl rfl (Yld.max2 rfl rfl) ?_ | refine WL.gyes rfl rfl rfl rfl (Yld.min2 rfl rfl) ?_ | refine WL.gyes rfl rfl rfl rfl (Yld.pickV rfl rfl rfl) ?_)
    refine WX.roundF _ ⟨j+1,l'++[f],A8,c8,rfl,rfl,⟨hso,fun y hy=>?_,List.mem_append_left _ I'.top,gr8,hO8,hM8,hdj8,I'.ge⟩,by omega,⟨t++[f],by rw [ht,List.append_assoc]⟩,fun y hy=>?_⟩ (by repeat (first | exact Sub.nil | refine Sub.cons rfl ?_)) (by omega)
    ·rcases List.mem_append.1 hy with hy | hy
     ·exact I'.nn y hy
     ·simp at hy; subst hy; exact hfn
    ·rw [List.take_add_one,hfj] at hy
     rcases List.mem_append.1 hy with hy | hy
     ·obtain ⟨z,hz,e⟩:=hcl' y hy
      exact ⟨z,List.mem_append_left _ hz,e⟩
     ·simp at hy; subst hy; exact ⟨y,by simp,rfl⟩
   ·have hin:f.id∈l'.map PS.id:=by simpa using b3
    repeat (first | refine WC.seq ?_ | refine WC.block ?_ | refine WC.region ?_ | refine WL.nil ?_ | refine WX.then_normal ?_ | refine WC.skip ?_ | refine WC.exit ?_ | refine WC.ret ?_ | refine WX.then_exit ?_ | refine WX.then_ret ?_ | refine WX.block_normal ?_ | refine WX.block_ret ?_ | refine WX.block_same ?_ | refine WX.block_other rfl ?_ | refine WC.label ?_ | refine WC.scope ?_ | refine WX.scope_normal ?_ | refine WX.scope_ret ?_ | refine WX.scope_exit ?_ | refine WL.y rfl (Yld.add rfl rfl (by simp only [In]; omega)) ?_ | refine WL.y rfl (Yld.sub rfl rfl (by simp only [In]; omega)) ?_ | refine WL.y rfl (Yld.mul rfl rfl (by simp only [In]; omega)) ?_ | refine WL.y rfl (Yld.convB za rfl rfl rfl rfl) ?_ | refine WL.y rfl (Yld.conv za rfl rfl rfl (by simp only [In]; omega)) ?_ | refine WL.y rfl (Yld.quo rfl rfl (by omega) (by omega) (by simp only [In]; omega)) ?_ | refine WL.y rfl (Yld.rem rfl rfl (by omega) (by omega)) ?_ | refine WL.y rfl (Yld.shl rfl rfl (by omega)) ?_ | refine WL.y rfl (Yld.shr rfl rfl (by omega)) ?_ | refine WL.y rfl (Yld.pure za rfl) ?_ | refine WL.y rfl (Yld.fld zb rfl rfl rfl) ?_ | refine WL.y rfl (Yld.max2 rfl rfl) ?_ | refine WL.y rfl (Yld.min2 rfl rfl) ?_ | refine WL.y rfl (Yld.pickV rfl rfl rfl) ?_ | refine WL.gno rfl rfl rfl rfl ?_ | refine WL.gyes rfl rfl rfl rfl (Yld.add rfl rfl (by simp only [In]; omega)) ?_ | refine WL.gyes rfl rfl rfl rfl (Yld.sub rfl rfl (by simp only [In]; omega)) ?_ | refine WL.gyes rfl rfl rfl rfl (Yld.mul rfl rfl (by simp only [In]; omega)) ?_ | refine WL.gyes rfl rfl rfl rfl (Yld.convB za rfl rfl rfl rfl) ?_ | refine WL.gyes rfl rfl rfl rfl (Yld.conv za rfl rfl rfl (by simp only [In]; omega)) ?_ | refine WL.gyes rfl rfl rfl rfl (Yld.quo rfl rfl (by omega) (by omega) (by simp only [In]; omega)) ?_ | refine WL.gyes rfl rfl rfl rfl (Yld.rem rfl rfl (by omega) (by omega)) ?_ | refine WL.gyes rfl rfl rfl rfl (Yld.shl rfl rfl (by omega)) ?_ | refine WL.gyes rfl rfl rfl rfl (Yld.shr rfl rfl (by omega)) ?_ | refine WL.gyes rfl rfl rfl rfl (Yld.pure za rfl) ?_ | refine WL.gyes rfl rfl rfl rfl (Yld.fld zb rfl rfl rfl) ?_ | refine WL.gyes rfl rfl rfl rfl (Yld.max2 rfl rfl) ?_ | refine WL.gyes rfl rfl rfl rfl (Yld.min2 rfl rfl) ?_ | refine WL.gyes rfl rfl rfl rfl (Yld.pickV rfl rfl rfl) ?_)
    refine WX.roundF _ ⟨j+1,l',A',c',rfl,rfl,I',by omega,⟨t,ht⟩,fun y hy=>?_⟩ (by repeat (first | exact Sub.nil | refine Sub.cons rfl ?_)) (by omega)
    rw [List.take_add_one,hfj] at hy
    rcases List.mem_append.1 hy with hy | hy
    ·exact hcl' y hy
    ·simp at hy; subst hy
     obtain ⟨z,hz,e⟩:=List.mem_map.1 hin
     exact ⟨z,hz,e⟩
  ·have b2:=of_decide_eq_false b2
   obtain rfl:j=x.fr.length:=by omega
   rw [List.take_length] at hcl'
   have hlb:=hB1 _ I'.so
   have hsub:∀ y∈l,y∈l':=fun y hy=>by rw [ht]; exact List.mem_append_left _ hy
   repeat (first | refine WC.seq ?_ | refine WC.block ?_ | refine WC.region ?_ | refine WL.nil ?_ | refine WX.then_normal ?_ | refine WC.skip ?_ | refine WC.exit ?_ | refine WC.ret ?_ | refine WX.then_exit ?_ | refine WX.then_ret ?_ | refine WX.block_normal ?_ | refine WX.block_ret ?_ | refine WX.block_same ?_ | refine WX.block_other rfl ?_ | refine WC.label ?_ | refine WC.scope ?_ | refine WX.scope_normal ?_ | refine WX.scope_ret ?_ | refine WX.scope_exit ?_ | refine WL.y rfl (Yld.add rfl rfl (by simp only [In]; omega)) ?_ | refine WL.y rfl (Yld.sub rfl rfl (by simp only [In]; omega)) ?_ | refine WL.y rfl (Yld.mul rfl rfl (by simp only [In]; omega)) ?_ | refine WL.y rfl (Yld.convB za rfl rfl rfl rfl) ?_ | refine WL.y rfl (Yld.conv za rfl rfl rfl (by simp only [In]; omega)) ?_ | refine WL.y rfl (Yld.quo rfl rfl (by omega) (by omega) (by simp only [In]; omega)) ?_ | refine WL.y rfl (Yld.rem rfl rfl (by omega) (by omega)) ?_ | refine WL.y rfl (Yld.shl rfl rfl (by omega)) ?_ | refine WL.y rfl (Yld.shr rfl rfl (by omega)) ?_ | refine WL.y rfl (Yld.pure za rfl) ?_ | refine WL.y rfl (Yld.fld zb rfl rfl rfl) ?_ | refine WL.y rfl (Yld.max2 rfl rfl) ?_ | refine WL.y rfl (Yld.min2 rfl rfl) ?_ | refine WL.y rfl (Yld.pickV rfl rfl rfl) ?_ | refine WL.gno rfl rfl rfl rfl ?_ | refine WL.gyes rfl rfl rfl rfl (Yld.add rfl rfl (by simp only [In]; omega)) ?_ | refine WL.gyes rfl rfl rfl rfl (Yld.sub rfl rfl (by simp only [In]; omega)) ?_ | refine WL.gyes rfl rfl rfl rfl (Yld.mul rfl rfl (by simp only [In]; omega)) ?_ | refine WL.gyes rfl rfl rfl rfl (Yld.convB za rfl rfl rfl rfl) ?_ | refine WL.gyes rfl rfl rfl rfl (Yld.conv za rfl rfl rfl (by simp only [In]; omega)) ?_ | refine WL.gyes rfl rfl rfl rfl (Yld.quo rfl rfl (by omega) (by omega) (by simp only [In]; omega)) ?_ | refine WL.gyes rfl rfl rfl rfl (Yld.rem rfl rfl (by omega) (by omega)) ?_ | refine WL.gyes rfl rfl rfl rfl (Yld.shl rfl rfl (by omega)) ?_ | refine WL.gyes rfl rfl rfl rfl (Yld.shr rfl rfl (by omega)) ?_ | refine WL.gyes rfl rfl rfl rfl (Yld.pure za rfl) ?_ | refine WL.gyes rfl rfl rfl rfl (Yld.fld zb rfl rfl rfl) ?_ | refine WL.gyes rfl rfl rfl rfl (Yld.max2 rfl rfl) ?_ | refine WL.gyes rfl rfl rfl rfl (Yld.min2 rfl rfl) ?_ | refine WL.gyes rfl rfl rfl rfl (Yld.pickV rfl rfl rfl) ?_)
   refine WX.roundF _ ⟨i+1,l',A',c',rfl,rfl,I',by have:=congrArg List.length ht; rw [List.length_append] at this; omega,fun y hy f hf=>?_⟩ (by repeat (first | exact Sub.nil | refine Sub.cons rfl ?_)) (by have:=hB1 _ I.so; omega)
   rw [ht,List.take_append_of_le_length (by omega),List.take_add_one,hx] at hy
   rcases List.mem_append.1 hy with hy | hy
   ·obtain ⟨z,hz,e⟩:=hcl y hy f hf
    exact ⟨z,hsub z hz,e⟩
   ·simp at hy; subst hy
    exact hcl' f hf
 ·have b1:=of_decide_eq_false b1
  obtain rfl:i=l.length:=by omega
  rw [List.take_length] at hcl
  have hsets:SetsOf s l:=⟨I.so,I.top,hcl⟩
  subst hgm
  repeat (first | refine WC.seq ?_ | refine WC.block ?_ | refine WC.region ?_ | refine WL.nil ?_ | refine WX.then_normal ?_ | refine WC.skip ?_ | refine WC.exit ?_ | refine WC.ret ?_ | refine WX.then_exit ?_ | refine WX.then_ret ?_ | refine WX.block_normal ?_ | refine WX.block_ret ?_ | refine WX.block_same ?_ | refine WX.block_other rfl ?_ | refine WC.label ?_ | refine WC.scope ?_ | refine WX.scope_normal ?_ | refine WX.scope_ret ?_ | refine WX.scope_exit ?_ | refine WL.y rfl (Yld.add rfl rfl (by simp only [In]; omega)) ?_ | refine WL.y rfl (Yld.sub rfl rfl (by simp only [In]; omega)) ?_ | refine WL.y rfl (Yld.mul rfl rfl (by simp only [In]; omega)) ?_ | refine WL.y rfl (Yld.convB za rfl rfl rfl rfl) ?_ | refine WL.y rfl (Yld.conv za rfl rfl rfl (by simp only [In]; omega)) ?_ | refine WL.y rfl (Yld.quo rfl rfl (by omega) (by omega) (by simp only [In]; omega)) ?_ | refine WL.y rfl (Yld.rem rfl rfl (by omega) (by omega)) ?_ | refine WL.y rfl (Yld.shl rfl rfl (by omega)) ?_ | refine WL.y rfl (Yld.shr rfl rfl (by omega)) ?_ | refine WL.y rfl (Yld.pure za rfl) ?_ | refine WL.y rfl (Yld.fld zb rfl rfl rfl) ?_ | refine WL.y rfl (Yld.max2 rfl rfl) ?_ | refine WL.y rfl (Yld.min2 rfl rfl) ?_ | refine WL.y rfl (Yld.pickV rfl rfl rfl) ?_ | refine WL.gno rfl rfl rfl rfl ?_ | refine WL.gyes rfl rfl rfl rfl (Yld.add rfl rfl (by simp only [In]; omega)) ?_ | refine WL.gyes rfl rfl rfl rfl (Yld.sub rfl rfl (by simp only [In]; omega)) ?_ | refine WL.gyes rfl rfl rfl rfl (Yld.mul rfl rfl (by simp only [In]; omega)) ?_ | refine WL.gyes rfl rfl rfl rfl (Yld.convB za rfl rfl rfl rfl) ?_ | refine WL.gyes rfl rfl rfl rfl (Yld.conv za rfl rfl rfl (by simp only [In]; omega)) ?_ | refine WL.gyes rfl rfl rfl rfl (Yld.quo rfl rfl (by omega) (by omega) (by simp only [In]; omega)) ?_ | refine WL.gyes rfl rfl rfl rfl (Yld.rem rfl rfl (by omega) (by omega)) ?_ | refine WL.gyes rfl rfl rfl rfl (Yld.shl rfl rfl (by omega)) ?_ | refine WL.gyes rfl rfl rfl rfl (Yld.shr rfl rfl (by omega)) ?_ | refine WL.gyes rfl rfl rfl rfl (Yld.pure za rfl) ?_ | refine WL.gyes rfl rfl rfl rfl (Yld.fld zb rfl rfl rfl) ?_ | refine WL.gyes rfl rfl rfl rfl (Yld.max2 rfl rfl) ?_ | refine WL.gyes rfl rfl rfl rfl (Yld.min2 rfl rfl) ?_ | refine WL.gyes rfl rfl rfl rfl (Yld.pickV rfl rfl rfl) ?_)
  refine WX.ret1 rfl rfl ⟨I.gr,l,A,c,l.map (hdS F_s),rfl,I.own,⟨by simp,fun i h x hh hx=>?_⟩,fun p hp hd i h x hh hx=>?_,fun i h x hh hx=>?_,hK l hsets⟩
  ·rw [List.getElem?_map,hx] at hh
   simp only [Option.map_some,Option.some.injEq] at hh
   subst hh
   have hm:=List.mem_of_getElem? hx
   exact ((relS hs (I.so.re x hm) (I.nn x hm)).grown I.gr).one
  ·rw [List.getElem?_map,hx] at hh
   simp only [Option.map_some,Option.some.injEq] at hh
   subst hh
   exact hd.one
  ·rw [List.getElem?_map,hx] at hh
   simp only [Option.map_some,Option.some.injEq] at hh
   subst hh
   intro q hq hFq
   have:=hF q hFq
   have:=I.own.ge' q hq
   omega
end Go.Proofs.YtjjcdkfhaceicaaGreatDoor
 
namespace Go.Proofs.YtjjcdkfhaceicaaGreatDoor
open Go Go.RowKit
theorem Yld.peq2 {P:Program} {N:Nat} {L:zh} {w:World} {ty:TypeId} {pos:String} {af:Array Edge} {dd:Option Tmp} {t t' e:TypeId} {x y:Operand} {a b:Nat} (hk:P.underlying t=some (.pointer e)) (hc:szNZ P e=true)
  (hx:opv L x=some (.pointer (some ⟨a,0,none⟩))) (hy:opv L y=some (.pointer (some ⟨b,0,none⟩))) (ha:LiveB w a) (hb:LiveB w b):Yld P N w ⟨dd,.binOp .eql t x y t',ty,pos,af,none⟩ L (.bool (decide (a=b))):=fun a' w1 hw ha'=>by
 have la:LiveB w1 a:=by obtain ⟨c,f,h⟩:=ha; exact ⟨c,f,by rw [hw.heap]; exact h⟩
 have lb:LiveB w1 b:=by obtain ⟨c,f,h⟩:=hb; exact ⟨c,f,by rw [hw.heap]; exact h⟩
 refine zY (ha'.ev hx) (ha'.ev hy) (by unfold eqGuard; rfl) ?_
 obtain ⟨j,hj,h0⟩:=szNZ_ok hc
 have h:=run_eqP (w:=w1) hk hj h0 la lb
 unfold vp at h
 simp [binOp,h]
attribute [local irreducible] WL WC WX WQ WK WJ Yld Eff Ef0 Fn
theorem amongR_M {l:List (List UInt8)} {s:List UInt8} {K:Int→Prop} (hl:l.length≤1000000) (h0:s∉l→K (-1)) (h1:∀ i:Int,0≤i→s∈l→K i):zS l s K:=by
 intro _
 refine ⟨fun i=>0≤i∧i≤l.length∧∀ j,j<i.toNat→l.getD j []≠s,fun i=>l.length - i.toNat,⟨by omega,by omega,by intro j hj; simp at hj⟩,fun i ⟨a0,a1,a2⟩=>⟨fun hlt=>⟨by omega,fun he=>?_,fun hne=>⟨by simp only [In]; omega,⟨by omega,by omega,fun j hj=>?_⟩,by (try dsimp only); omega⟩⟩,fun hge=>?_⟩⟩
 ·refine h1 i a0 ?_
  rw [←he]
  have:l.getD i.toNat []=l[i.toNat]'(by omega):=by simp [List.getD,show i.toNat<l.length by omega]
  rw [this]; exact List.getElem_mem _
 ·by_cases e:j=i.toNat
  ·rw [e]; exact hne
  ·exact a2 j (by omega)
 ·refine h0 fun hm=>?_
  obtain ⟨j,hj,he⟩:=List.getElem_of_mem hm
  refine a2 j (by omega) ?_
  simp [List.getD,hj,he]
def itemK (k:List UInt8) (t:TQ) (v:RV):TQ:=if k∈t.keys then t else { t with keys:=t.keys++[k],out:=t.out++[v] }
structure QI (w:World) (F:Nat→Prop) (gt:Nat) (o:Int) (w2:World) (t:TQ) (As:Option Addr) (cs:Nat) (Ak:Option Addr) (ck:Nat) (Ao:Option Addr) (co:Nat) (ho:List RH):Prop where
 gr:w.grownBy w2 none
 box:Bl w2 gt 138 [.int .i64 o,.slice As t.seen.length cs,.slice Ak t.keys.length ck,.slice Ao t.out.length co]
 os:Own vp w2 w.heap.size 36 As cs (t.seen.map RO.id)
 ok:Own vs w2 w.heap.size 9 Ak ck t.keys
 oo:OwnK 6 vr w2 w.heap.size 38 Ao co ho
 rl:RelD deR w ho t.out
 sl:∀ x∈t.seen,LiveB w x.id
 g1:w.heap.size≤gt
 d1:blk As≠some gt
 d2:blk Ak≠some gt
 d3:blk Ao≠some gt
 d4:Dj (blk As) (blk Ak)
 d5:Dj (blk As) (blk Ao)
 d6:Dj (blk Ak) (blk Ao)
 fo:∀ h∈ho,∀ q,h.2 q→F q
theorem djl {A:Option Addr} {b:Nat} (h:blk A≠some b):Dj (blk A) (some b):=fun g e e2=>h (by rw [e,e2])
set_option maxHeartbeats 4000000 in
theorem item_fn {w w2:World} {v:RC} {F F0:Nat→Prop} {x:RV} {kx:List UInt8} {gt:Nat} {o:Int} {t:TQ} {As Ak Ao:Option Addr} {cs ck co:Nat} {ho:List RH} (hv:RelD deR w [(v,F0)] [x]) (hF:∀ q,F0 q→F q) (hk:KeyIs x kx) (I:QI w F gt o w2 t As cs Ak ck Ao co ho) (hb:t.keys.length≤100000∧t.out.length≤100000) :
  Fn Tryz.prog 132 ⟨[.pointer (some ⟨gt,0,none⟩),(.agg ⟨v.1⟩)]⟩ w2 (fun r w3=>r=.tuple #[]∧∃ Ak' ck' Ao' co' ho',QI w F gt o w3 (itemK kx t x) As cs Ak' ck' Ao' co' ho'):=by
 refine Fn.enter (by kernel_rfl) Tryz.func132 rfl Tryz.ntmps132 rfl ?_
 refine WC.seq ?_
 refine WC.region ?_
 have hv2:=hv.grown I.gr
 obtain ⟨A,c,vo,hc,hR,hO,_,_⟩:=qe hv2
 rw [hc]
 refine WL.box (us:=[.int .i64 x.1,.bool false,.bool x.2.1.1,.slice A x.2.1.2.length c,vs [],vo.1]) rfl rfl rfl (fun g1 w3 hB3 hg3 hl3=>?_)
 have gr3:=zd I.gr hg3
 refine WL.nil (WX.then_normal ?_)
 refine WC.seq ?_
 refine WC.region ?_
 refine WL.y rfl (Yld.to (v:=(.agg ⟨v.1⟩)) (Yld.bagg (vs:=[.int .i64 x.1,.bool false,.bool x.2.1.1,.slice A x.2.1.2.length c,vs [],vo.1]) za hB3 rfl rfl rfl rfl) (congrArg (fun l=>Value.agg ⟨l⟩) hc.symm)) ?_
 refine WL.call rfl rfl (W_smithyref14_Key (K:=fun a b=>a=kx∧b=0) (hv.grown gr3) (hk.2 _ ⟨rfl,rfl⟩)) ?_
 rintro _ w4 ⟨hg4,k0,e0,rfl,hk0,rfl⟩
 obtain rfl:=hk0.symm
 have gr4:=zd gr3 hg4
 have hg24:=zd hg3 hg4
 have hB4:=hB3.g0 hg4
 have hX4:=I.box.g0 hg24
 have hK4:=I.ok.grown hg24
 refine WL.y rfl (Yld.pure za rfl) ?_
 refine WL.y rfl (Yld.pure za rfl) ?_
 refine WL.y rfl (Yld.pure za rfl) ?_
 refine WL.y rfl (Yld.pure za rfl) ?_
 refine WL.y rfl (Yld.pure za rfl) ?_
 refine WL.nil (WX.then_normal ?_)
 refine WC.seq ?_
 refine WC.region ?_
 refine WL.y rfl (Yld.pure za rfl) ?_
 refine WL.y rfl (Yld.pure za rfl) ?_
 refine WL.y rfl (Yld.pure za rfl) ?_
 refine WL.y rfl (Yld.bload za hX4 rfl rfl rfl) ?_
 refine WL.y rfl (Yld.pure za rfl) ?_
 refine WL.call rfl rfl (W_smithyref_AmongTexts (K:=fun i=>(i<0∧kx∉t.keys)∨(0≤i∧kx∈t.keys)) hK4.rd rfl (amongR_M (by omega) (fun h=>.inl ⟨by omega,h⟩) (fun i hi h=>.inr ⟨hi,h⟩))) ?_
 rintro _ _ ⟨rfl,i,rfl,hi⟩
 refine WL.y rfl (Yld.pure za rfl) ?_
 refine WL.nil (WX.then_normal ?_)
 refine WC.cond rfl (fun b1=>?_) (fun b1=>?_)
 ·have hnot:kx∉t.keys:=by
   rcases hi with ⟨_,h⟩ | ⟨h,_⟩
   ·exact h
   ·have:=of_decide_eq_true b1; omega
  have hitem:itemK kx t x={ t with keys:=t.keys++[kx],out:=t.out++[x] }:=by unfold itemK; rw [if_neg hnot]
  refine WC.seq ?_
  refine WC.region ?_
  refine WL.y rfl (Yld.pure za rfl) ?_
  refine WL.y rfl (Yld.pure za rfl) ?_
  refine WL.y rfl (Yld.pure za rfl) ?_
  refine WL.y rfl (Yld.pure za rfl) ?_
  refine WL.y rfl (Yld.bload za hX4 rfl rfl rfl) ?_
  refine WL.y rfl (Yld.pure za rfl) ?_
  refine WL.lit (us:=[vs kx]) za rfl rfl rfl (zf rfl zm) rfl (by omega) (fun g5 w5 hB5 hg5 hl5=>?_)
  have gr5:=zd gr4 hg5
  have hL5:Own vs w5 w.heap.size 9 (some ⟨g5,0,none⟩) 1 [kx]:=Own.ofBl hB5 (Nat.le_trans (ze gr4) hl5) (by simp [maxLen]) rfl
  have h5:(t.keys.length+([kx]:List (List UInt8)).length)*16≤140737488355328:=by simp only [List.length_cons,List.length_nil]; omega
  refine WL.append za rfl rfl One.s (hK4.grown hg5) rfl rfl hL5.rd rfl rfl h5 (zx h5) (ze gr5) (fun Ak' ck' w6 hO6 hg6 hk6=>?_)
  have gr6:=zk gr5 hg6 hK4.ge'
  have hX6:=(hX4.g0 hg5).go hg6 (djl I.d2).symm
  refine WL.y rfl (Yld.pure za rfl) ?_
  refine WL.y rfl (Yld.pure za rfl) ?_
  refine WL.store1 one108 rfl rfl rfl hX6 (by simp) (fun w7 hX7 hg7=>?_)
  have gr7:=zk gr6 hg7 (Ge.box I.g1)
  have hg47:∀ p:Option Nat,Dj p (blk Ak)→Dj p (some gt)→True:=fun _ _ _=>trivial
  have b6:∀ p:Option Nat,Lt p w5.heap.size→Dj p (blk Ak)→Dj p (blk Ak'):=fun p hp hd=>(Dj.app hd.symm hp hk6).symm
  have lS:Lt (blk As) w5.heap.size:=((I.os.grown hg24).grown hg5).lt'
  have lO:Lt (blk Ao) w5.heap.size:=((I.oo.grown hg24).grown hg5).lt'
  have lG:Lt (some gt) w5.heap.size:=(hX4.g0 hg5).lt'
  have lB:Lt (some g1) w5.heap.size:=(hB4.g0 hg5).lt'
  have nS:Dj (blk As) (some g1):=(Dj.new I.os.lt' (Ge.box hl3))
  have nK:Dj (blk Ak) (some g1):=(Dj.new I.ok.lt' (Ge.box hl3))
  have nO:Dj (blk Ao) (some g1):=(Dj.new I.oo.lt' (Ge.box hl3))
  have nG:Dj (some gt) (some g1):=(Dj.new I.box.lt' (Ge.box hl3))
  have hS6:=((I.os.grown hg24).grown hg5).go hg6 I.d4
  have hO6':=((I.oo.grown hg24).grown hg5).go hg6 I.d6.symm
  have hB6:=(hB4.g0 hg5).go hg6 nK.symm
  have hS7:=hS6.go hg7 (djl I.d1)
  have hO7:=hO6'.go hg7 (djl I.d3)
  have dK7:Dj (blk Ak') (some gt):=(b6 _ lG (djl I.d2).symm).symm
  have hK7:=hO6.go hg7 dK7
  have hB7:=hB6.go hg7 nG.symm
  refine WL.nil (WX.then_normal ?_)
  have hX7':Bl w7 gt 138 [.int .i64 o,.slice As t.seen.length cs,.slice Ak' (t.keys++[kx]).length ck',.slice Ao t.out.length co]:=hX7
  refine WC.chainF (fun k => !(Nat.beq k 6 || Nat.beq k 7 || Nat.beq k 10)) (LD [4,5] (fun w'=>Bl w' gt 138 [.int .i64 o,.slice As t.seen.length cs,.slice Ak' (t.keys++[kx]).length ck',.slice Ao t.out.length co]∧Bl w' g1 38 [.int .i64 x.1,.bool false,.bool x.2.1.1,.slice A x.2.1.2.length c,vs [],vo.1])) mixed (by kernel_rfl) (fun k w' h _=>⟨zU h hX7',zU h hB7⟩) ?_
  refine WJ.y rfl rfl (fun w' hw'=>Yld.pure za rfl) ?_
  refine WJ.y rfl rfl (fun w' hw'=>Yld.pure za rfl) ?_
  refine WJ.y rfl rfl (fun w' hw'=>Yld.pure za rfl) ?_
  refine WJ.y rfl rfl (fun w' hw'=>Yld.pure za rfl) ?_
  refine WJ.y rfl rfl (fun w' hw'=>Yld.bload za (hw' rfl).1 rfl rfl rfl) ?_
  refine WJ.y rfl rfl (fun w' hw'=>Yld.to (v:=(.agg ⟨v.1⟩)) (Yld.bagg (vs:=[.int .i64 x.1,.bool false,.bool x.2.1.1,.slice A x.2.1.2.length c,vs [],vo.1]) za (hw' rfl).2 rfl rfl rfl rfl) (congrArg (fun l=>Value.agg ⟨l⟩) hc.symm)) ?_
  refine WJ.putw rfl zo rfl (Eff.litK (f:=vr) (xs:=[((v,F0):RH)]) vr_ok ow26 rfl rfl rfl) (fun v' w' ⟨_,_,h⟩=>DD.keep ⟨hX7'.g0 h,hB7.g0 h⟩) ?_
  rintro _ w8 ⟨rfl,hB8,hg8⟩
  have gr8:=zd gr7 hg8
  have hL8:OwnK 6 vr w8 w.heap.size 38 (some ⟨w7.heap.size,0,none⟩) 1 [((v,F0):RH)]:=OwnK.ofBl vr_ok hB8 (ze gr7) (by simp [maxLen]) rfl
  have hO8:=hO7.grown hg8
  have hrl:=I.rl.1
  have h8:(ho.length+([((v,F0):RH)]:List RH).length)*72≤140737488355328:=by simp only [List.length_cons,List.length_nil]; omega
  refine WJ.putw rfl zo rfl (Eff.appendK ow26 hO8 rfl hrl.symm hL8.rd rfl rfl h8 (zx h8) (ze gr8)) (fun v' w' h=>DD.past (by kernel_rfl)) ?_
  rintro _ w9 ⟨Ao',co',rfl,hO9,hg9,hk9⟩
  have gr9:=zk gr8 hg9 hO8.ge'
  have el:(ho++[((v,F0):RH)]).length=(t.out++[x]).length:=by simp [hrl]
  rw [el]
  have b9:∀ p:Option Nat,Lt p w8.heap.size→Dj p (blk Ao)→Dj p (blk Ao'):=fun p hp hd=>(Dj.app hd.symm hp hk9).symm
  have hX9:=(hX7'.g0 hg8).go hg9 (djl I.d3).symm
  have dSK:Dj (blk As) (blk Ak'):=b6 _ lS I.d4
  have dOK:Dj (blk Ao) (blk Ak'):=b6 _ lO I.d6.symm
  have hS9:=(hS7.grown hg8).go hg9 I.d5
  have hK9:=(hK7.grown hg8).go hg9 dOK.symm
  have dG9:=b9 _ (hX7'.g0 hg8).lt' (djl I.d3).symm
  refine WJ.y rfl rfl (fun w' hw'=>Yld.pure za rfl) ?_
  refine WJ.y rfl rfl (fun w' hw'=>Yld.pure za rfl) ?_
  refine WJ.eff rfl (Ef0.store1 one26 rfl rfl rfl hX9 (by simp)) (fun w' h=>DD.past (by kernel_rfl)) ?_
  rintro w10 ⟨hX10,hg10⟩
  have gr10:=zk gr9 hg10 (Ge.box I.g1)
  refine WJ.nil ?_
  rw [hitem]
  have nd:∀ {p:Option Nat},Dj p (some gt)→p≠some gt:=fun h e=>h gt e rfl
  exact WX.end0 rfl ⟨rfl,Ak',ck',Ao',co',ho++[((v,F0):RH)],gr10,hX10,hS9.go hg10 (djl I.d1),hK9.go hg10 dK7,hO9.go hg10 dG9.symm,RelD.append I.rl hv,I.sl,I.g1,I.d1,nd dK7,nd dG9.symm,dSK,b9 _ (hS7.grown hg8).lt' I.d5,b9 _ (hK7.grown hg8).lt' dOK.symm,fun h hh q hq=>by
   rcases List.mem_append.1 hh with hh | hh
   ·exact I.fo h hh q hq
   ·rw [List.mem_singleton.1 hh] at hq; exact hF q hq⟩
 ·have hin:kx∈t.keys:=by
   rcases hi with ⟨h,_⟩ | ⟨_,h⟩
   ·have:=of_decide_eq_false b1; omega
   ·exact h
  have hitem:itemK kx t x=t:=by unfold itemK; rw [if_pos hin]
  refine WC.skip ?_
  rw [hitem]
  exact WX.end0 rfl ⟨rfl,Ak,ck,Ao,co,ho,gr4,hX4,I.os.grown hg24,hK4,I.oo.grown hg24,I.rl,I.sl,I.g1,I.d1,I.d2,I.d3,I.d4,I.d5,I.d6,I.fo⟩
end Go.Proofs.YtjjcdkfhaceicaaGreatDoor
 