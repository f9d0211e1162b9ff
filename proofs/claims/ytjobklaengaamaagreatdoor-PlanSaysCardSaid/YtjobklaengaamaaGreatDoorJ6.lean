/- Texts of this claim, joined by a program: GTr, KeyB, KeyH, KeyE, ToolF, ToolS, ToolT, ToolU, Prt, GPz. -/
import Derived.Test.YtjobklaengaamaaGreatDoorJ5
namespace Go.Proofs.YtjobklaengaamaaGreatDoor

section
open Go Go.RowKit
attribute [local irreducible] WL WC WX WQ WK WJ Yld Eff Ef0 Fn
def kI (K:(List Int)->Prop):Prop :=
 K ([(1116352408:Int),(1899447441:Int),(3049323471:Int),(3921009573:Int),(961987163:Int),(1508970993:Int),(2453635748:Int),(2870763221:Int),(3624381080:Int),(310598401:Int),(607225278:Int),(1426881987:Int),(1925078388:Int),(2162078206:Int),(2614888103:Int),(3248222580:Int),(3835390401:Int),(4022224774:Int),(264347078:Int),(604807628:Int),(770255983:Int),(1249150122:Int),(1555081692:Int),(1996064986:Int),(2554220882:Int),(2821834349:Int),(2952996808:Int),(3210313671:Int),(3336571891:Int),(3584528711:Int),(113926993:Int),(338241895:Int),(666307205:Int),(773529912:Int),(1294757372:Int),(1396182291:Int),(1695183700:Int),(1986661051:Int),(2177026350:Int),(2456956037:Int),(2730485921:Int),(2820302411:Int),(3259730800:Int),(3345764771:Int),(3516065817:Int),(3600352804:Int),(4094571909:Int),(275423344:Int),(430227734:Int),(506948616:Int),(659060556:Int),(883997877:Int),(958139571:Int),(1322822218:Int),(1537002063:Int),(1747873779:Int),(1955562222:Int),(2024104815:Int),(2227730452:Int),(2361852424:Int),(2428436474:Int),(2756734187:Int),(3204031479:Int),(3329325298:Int)]:List Int)
def qS (x:Int) (n:Int) (K:Int->Prop):Prop :=
 (0<=n) /\
 (0<=IntKind.wrap .u64 ((32:Int) - n)) /\
 K (bits .or .u32 (shrV .u32 x n.toNat) (shlV .u32 x (IntKind.wrap .u64 ((32:Int) - n)).toNat))
def jV (s:List UInt8) (K:(List UInt8)->Prop):Prop :=
 kI (fun (k:List Int) =>
 (In .i64 ((s.length:Int)+(72:Int))) /\
 (0<=(s.length:Int)+(72:Int)/\((s.length:Int)+(72:Int))*1<=140737488355328/\(s.length:Int)+(72:Int)<=140737488355328) /\
 (((([]:List UInt8)).length+s.length)*1<=140737488355328) /\
 (((([]:List UInt8)++s).length+(([128]:List UInt8)).length)*1<=140737488355328) /\
 Lp1 (fun (m:List UInt8) kont1=>(0<=(m.length:Int)/\0<(64:Int)) /\
 ((¬ (((m.length:Int) % (64:Int))=(56:Int))->((m.length+(([0]:List UInt8)).length)*1<=140737488355328) /\
 kont1 (m++([0]:List UInt8))) /\
 (((m.length:Int) % (64:Int))=(56:Int)->Lp2 (fun (m2:List UInt8) (i:Int) kont2=>(((0:Int)<=i->(In .i64 ((8:Int)*i)) /\
 (0<=IntKind.wrap .u64 ((8:Int)*i)) /\
 (0<=IntKind.wrap .u8 (shrV .u64 (IntKind.wrap .u64 ((IntKind.wrap .u64 (s.length:Int))*(8:Int))) (IntKind.wrap .u64 ((8:Int)*i)).toNat)/\IntKind.wrap .u8 (shrV .u64 (IntKind.wrap .u64 ((IntKind.wrap .u64 (s.length:Int))*(8:Int))) (IntKind.wrap .u64 ((8:Int)*i)).toNat)<=255) /\
 ((m2.length+(([UInt8.ofNat (IntKind.wrap .u8 (shrV .u64 (IntKind.wrap .u64 ((IntKind.wrap .u64 (s.length:Int))*(8:Int))) (IntKind.wrap .u64 ((8:Int)*i)).toNat)).toNat]:List UInt8)).length)*1<=140737488355328) /\
 (In .i64 (i - (1:Int))) /\
 kont2 (m2++([UInt8.ofNat (IntKind.wrap .u8 (shrV .u64 (IntKind.wrap .u64 ((IntKind.wrap .u64 (s.length:Int))*(8:Int))) (IntKind.wrap .u64 ((8:Int)*i)).toNat)).toNat]:List UInt8)) (i - (1:Int))) /\
 (¬ ((0:Int)<=i)->Lp2 (fun (at_:Int) (h:List Int) kont3=>8=h.length->((at_<(m2.length:Int)->(0<=(64:Int)/\(64:Int)*4<=140737488355328/\(64:Int)<=140737488355328) /\
 Lp2 (fun (i2:Int) (w_:List Int) kont4=>64=w_.length->((i2<(16:Int)->(In .i64 ((4:Int)*i2)) /\
 (In .i64 (at_+((4:Int)*i2))) /\
 (0<=at_+((4:Int)*i2)/\at_+((4:Int)*i2)<(m2.length:Nat)) /\
 (In .i64 ((4:Int)*i2)) /\
 (In .i64 (at_+((4:Int)*i2))) /\
 (In .i64 ((at_+((4:Int)*i2))+(1:Int))) /\
 (0<=(at_+((4:Int)*i2))+(1:Int)/\(at_+((4:Int)*i2))+(1:Int)<(m2.length:Nat)) /\
 (In .i64 ((4:Int)*i2)) /\
 (In .i64 (at_+((4:Int)*i2))) /\
 (In .i64 ((at_+((4:Int)*i2))+(2:Int))) /\
 (0<=(at_+((4:Int)*i2))+(2:Int)/\(at_+((4:Int)*i2))+(2:Int)<(m2.length:Nat)) /\
 (In .i64 ((4:Int)*i2)) /\
 (In .i64 (at_+((4:Int)*i2))) /\
 (In .i64 ((at_+((4:Int)*i2))+(3:Int))) /\
 (0<=(at_+((4:Int)*i2))+(3:Int)/\(at_+((4:Int)*i2))+(3:Int)<(m2.length:Nat)) /\
 (0<=i2/\i2<(64:Nat)) /\
 (In .i64 (i2+(1:Int))) /\
 kont4 (i2+(1:Int)) (w_.set i2.toNat (bits .or .u32 (bits .or .u32 (bits .or .u32 (shlV .u32 ((m2.getD ((at_+((4:Int)*i2)).toNat) 0).toNat:Int) 24) (shlV .u32 ((m2.getD (((at_+((4:Int)*i2))+(1:Int)).toNat) 0).toNat:Int) 16)) (shlV .u32 ((m2.getD (((at_+((4:Int)*i2))+(2:Int)).toNat) 0).toNat:Int) 8)) ((m2.getD (((at_+((4:Int)*i2))+(3:Int)).toNat) 0).toNat:Int)))) /\
 (¬ (i2<(16:Int))->Lp2 (fun (i3:Int) (w_2:List Int) kont5=>64=w_2.length->((i3<(64:Int)->(In .i64 (i3 - (15:Int))) /\
 (0<=i3 - (15:Int)/\i3 - (15:Int)<(64:Nat)) /\
 qS (w_2.getD ((i3 - (15:Int)).toNat) 0) (7:Int) (fun (t124:Int) =>
 (In .i64 (i3 - (15:Int))) /\
 (0<=i3 - (15:Int)/\i3 - (15:Int)<(64:Nat)) /\
 qS (w_2.getD ((i3 - (15:Int)).toNat) 0) (18:Int) (fun (t130:Int) =>
 (In .i64 (i3 - (15:Int))) /\
 (0<=i3 - (15:Int)/\i3 - (15:Int)<(64:Nat)) /\
 (In .i64 (i3 - (2:Int))) /\
 (0<=i3 - (2:Int)/\i3 - (2:Int)<(64:Nat)) /\
 qS (w_2.getD ((i3 - (2:Int)).toNat) 0) (17:Int) (fun (t144:Int) =>
 (In .i64 (i3 - (2:Int))) /\
 (0<=i3 - (2:Int)/\i3 - (2:Int)<(64:Nat)) /\
 qS (w_2.getD ((i3 - (2:Int)).toNat) 0) (19:Int) (fun (t150:Int) =>
 (In .i64 (i3 - (2:Int))) /\
 (0<=i3 - (2:Int)/\i3 - (2:Int)<(64:Nat)) /\
 (In .i64 (i3 - (16:Int))) /\
 (0<=i3 - (16:Int)/\i3 - (16:Int)<(64:Nat)) /\
 (In .i64 (i3 - (7:Int))) /\
 (0<=i3 - (7:Int)/\i3 - (7:Int)<(64:Nat)) /\
 (0<=i3/\i3<(64:Nat)) /\
 (In .i64 (i3+(1:Int))) /\
 kont5 (i3+(1:Int)) (w_2.set i3.toNat (IntKind.wrap .u32 ((IntKind.wrap .u32 ((IntKind.wrap .u32 ((w_2.getD ((i3 - (16:Int)).toNat) 0)+(bits .xor .u32 (bits .xor .u32 t124 t130) (shrV .u32 (w_2.getD ((i3 - (15:Int)).toNat) 0) 3))))+(w_2.getD ((i3 - (7:Int)).toNat) 0)))+(bits .xor .u32 (bits .xor .u32 t144 t150) (shrV .u32 (w_2.getD ((i3 - (2:Int)).toNat) 0) 10)))))))))) /\
 (¬ (i3<(64:Int))->(0<=(8:Int)/\(8:Int)*4<=140737488355328/\(8:Int)<=140737488355328) /\
 (((([]:List Int)).length+h.length)*4<=140737488355328) /\
 Lp2 (fun (v:List Int) (i4:Int) kont6=>((i4<(64:Int)->(0<=(4:Int)/\(4:Int)<(v.length:Nat)) /\
 qS (v.getD 4 0) (6:Int) (fun (t187:Int) =>
 (0<=(4:Int)/\(4:Int)<(v.length:Nat)) /\
 qS (v.getD 4 0) (11:Int) (fun (t191:Int) =>
 (0<=(4:Int)/\(4:Int)<(v.length:Nat)) /\
 qS (v.getD 4 0) (25:Int) (fun (t196:Int) =>
 (0<=(4:Int)/\(4:Int)<(v.length:Nat)) /\
 (0<=(5:Int)/\(5:Int)<(v.length:Nat)) /\
 (0<=(4:Int)/\(4:Int)<(v.length:Nat)) /\
 (0<=(6:Int)/\(6:Int)<(v.length:Nat)) /\
 (0<=(7:Int)/\(7:Int)<(v.length:Nat)) /\
 (0<=i4/\i4<(k.length:Nat)) /\
 (0<=i4/\i4<(64:Nat)) /\
 (0<=(0:Int)/\(0:Int)<(v.length:Nat)) /\
 qS (v.getD 0 0) (2:Int) (fun (t234:Int) =>
 (0<=(0:Int)/\(0:Int)<(v.length:Nat)) /\
 qS (v.getD 0 0) (13:Int) (fun (t238:Int) =>
 (0<=(0:Int)/\(0:Int)<(v.length:Nat)) /\
 qS (v.getD 0 0) (22:Int) (fun (t243:Int) =>
 (0<=(0:Int)/\(0:Int)<(v.length:Nat)) /\
 (0<=(1:Int)/\(1:Int)<(v.length:Nat)) /\
 (0<=(0:Int)/\(0:Int)<(v.length:Nat)) /\
 (0<=(2:Int)/\(2:Int)<(v.length:Nat)) /\
 (0<=(1:Int)/\(1:Int)<(v.length:Nat)) /\
 (0<=(2:Int)/\(2:Int)<(v.length:Nat)) /\
 (0<=(0:Int)/\(0:Int)<(v.length:Nat)) /\
 (0<=(1:Int)/\(1:Int)<(v.length:Nat)) /\
 (0<=(2:Int)/\(2:Int)<(v.length:Nat)) /\
 (0<=(3:Int)/\(3:Int)<(v.length:Nat)) /\
 (0<=(4:Int)/\(4:Int)<(v.length:Nat)) /\
 (0<=(5:Int)/\(5:Int)<(v.length:Nat)) /\
 (0<=(6:Int)/\(6:Int)<(v.length:Nat)) /\
 (In .i64 (i4+(1:Int))) /\
 kont6 ([IntKind.wrap .u32 ((IntKind.wrap .u32 ((IntKind.wrap .u32 ((IntKind.wrap .u32 ((IntKind.wrap .u32 ((IntKind.wrap .u32 ((v.getD 7 0)+(bits .xor .u32 (bits .xor .u32 t187 t191) t196)))+(bits .xor .u32 (bits .and .u32 (v.getD 4 0) (v.getD 5 0)) (bits .and .u32 (bits .xor .u32 (if IntKind.signed .u32 then -1 else IntKind.max .u32) (v.getD 4 0)) (v.getD 6 0)))))+(k.getD i4.toNat 0)))+(w_2.getD i4.toNat 0)))+(bits .xor .u32 (bits .xor .u32 t234 t238) t243)))+(bits .xor .u32 (bits .xor .u32 (bits .and .u32 (v.getD 0 0) (v.getD 1 0)) (bits .and .u32 (v.getD 0 0) (v.getD 2 0))) (bits .and .u32 (v.getD 1 0) (v.getD 2 0)))),v.getD 0 0,v.getD 1 0,v.getD 2 0,IntKind.wrap .u32 ((v.getD 3 0)+(IntKind.wrap .u32 ((IntKind.wrap .u32 ((IntKind.wrap .u32 ((IntKind.wrap .u32 ((v.getD 7 0)+(bits .xor .u32 (bits .xor .u32 t187 t191) t196)))+(bits .xor .u32 (bits .and .u32 (v.getD 4 0) (v.getD 5 0)) (bits .and .u32 (bits .xor .u32 (if IntKind.signed .u32 then -1 else IntKind.max .u32) (v.getD 4 0)) (v.getD 6 0)))))+(k.getD i4.toNat 0)))+(w_2.getD i4.toNat 0)))),v.getD 4 0,v.getD 5 0,v.getD 6 0]:List Int) (i4+(1:Int))))))))) /\
 (¬ (i4<(64:Int))->Lp2 (fun (i5:Int) (h_2:List Int) kont7=>8=h_2.length->((i5<(8:Int)->(0<=i5/\i5<(8:Nat)) /\
 (0<=i5/\i5<(v.length:Nat)) /\
 (0<=i5/\i5<(8:Nat)) /\
 (In .i64 (i5+(1:Int))) /\
 kont7 (i5+(1:Int)) (h_2.set i5.toNat (IntKind.wrap .u32 ((h_2.getD i5.toNat 0)+(v.getD i5.toNat 0))))) /\
 (¬ (i5<(8:Int))->(In .i64 (at_+(64:Int))) /\
 kont3 (at_+(64:Int)) h_2))) (0:Int) h))) (([]:List Int)++h) (0:Int)))) (16:Int) w_))) (0:Int) (List.replicate 64 0)) /\
 (¬ (at_<(m2.length:Int))->Lp2 (fun (i6:Int) (out0:List UInt8) kont8=>((i6<(8:Int)->Lp2 (fun (j:Int) (out02:List UInt8) kont9=>((j<(4:Int)->(In .i64 ((4:Int)*i6)) /\
 (In .i64 (((4:Int)*i6)+j)) /\
 (0<=i6/\i6<(8:Nat)) /\
 (In .i64 ((8:Int)*j)) /\
 (In .i64 ((24:Int) - ((8:Int)*j))) /\
 (0<=IntKind.wrap .u64 ((24:Int) - ((8:Int)*j))) /\
 (0<=((4:Int)*i6)+j/\((4:Int)*i6)+j<32) /\
 (0<=IntKind.wrap .u8 (shrV .u32 (h.getD i6.toNat 0) (IntKind.wrap .u64 ((24:Int) - ((8:Int)*j))).toNat)/\IntKind.wrap .u8 (shrV .u32 (h.getD i6.toNat 0) (IntKind.wrap .u64 ((24:Int) - ((8:Int)*j))).toNat)<=255) /\
 (out02.length=32) /\
 (In .i64 (j+(1:Int))) /\
 kont9 (j+(1:Int)) (out02.set ((((4:Int)*i6)+j).toNat) (UInt8.ofNat (IntKind.wrap .u8 (shrV .u32 (h.getD i6.toNat 0) (IntKind.wrap .u64 ((24:Int) - ((8:Int)*j))).toNat)).toNat))) /\
 (¬ (j<(4:Int))->(In .i64 (i6+(1:Int))) /\
 kont8 (i6+(1:Int)) out02))) (0:Int) out0) /\
 (¬ (i6<(8:Int))->K out0))) (0:Int) (List.replicate 32 0:List UInt8)))) (0:Int) ([(1779033703:Int),(3144134277:Int),(1013904242:Int),(2773480762:Int),(1359893119:Int),(2600822924:Int),(528734635:Int),(1541459225:Int)]:List Int)))) m (7:Int)))) ((([]:List UInt8)++s)++([128]:List UInt8)))
def kV (l:List (List UInt8)) (K:(List UInt8)->Prop):Prop :=
 (l.length<=maxLen ->
 Lp2 (fun (m:List UInt8) (i:Int) kont1=>((i<(l.length:Int)->(0<=i/\i<(l.length:Nat)) /\
 (0<=IntKind.wrap .u8 (shrV .i64 ((l.getD i.toNat []).length:Int) 24)/\IntKind.wrap .u8 (shrV .i64 ((l.getD i.toNat []).length:Int) 24)<=255) /\
 (0<=IntKind.wrap .u8 (shrV .i64 ((l.getD i.toNat []).length:Int) 16)/\IntKind.wrap .u8 (shrV .i64 ((l.getD i.toNat []).length:Int) 16)<=255) /\
 (0<=IntKind.wrap .u8 (shrV .i64 ((l.getD i.toNat []).length:Int) 8)/\IntKind.wrap .u8 (shrV .i64 ((l.getD i.toNat []).length:Int) 8)<=255) /\
 (0<=IntKind.wrap .u8 ((l.getD i.toNat []).length:Int)/\IntKind.wrap .u8 ((l.getD i.toNat []).length:Int)<=255) /\
 ((m.length+(([UInt8.ofNat (IntKind.wrap .u8 (shrV .i64 ((l.getD i.toNat []).length:Int) 24)).toNat,UInt8.ofNat (IntKind.wrap .u8 (shrV .i64 ((l.getD i.toNat []).length:Int) 16)).toNat,UInt8.ofNat (IntKind.wrap .u8 (shrV .i64 ((l.getD i.toNat []).length:Int) 8)).toNat,UInt8.ofNat (IntKind.wrap .u8 ((l.getD i.toNat []).length:Int)).toNat]:List UInt8)).length)*1<=140737488355328) /\
 (0<=i/\i<(l.length:Nat)) /\
 (((m++([UInt8.ofNat (IntKind.wrap .u8 (shrV .i64 ((l.getD i.toNat []).length:Int) 24)).toNat,UInt8.ofNat (IntKind.wrap .u8 (shrV .i64 ((l.getD i.toNat []).length:Int) 16)).toNat,UInt8.ofNat (IntKind.wrap .u8 (shrV .i64 ((l.getD i.toNat []).length:Int) 8)).toNat,UInt8.ofNat (IntKind.wrap .u8 ((l.getD i.toNat []).length:Int)).toNat]:List UInt8)).length+(l.getD i.toNat []).length)*1<=140737488355328) /\
 (In .i64 (i+(1:Int))) /\
 kont1 ((m++([UInt8.ofNat (IntKind.wrap .u8 (shrV .i64 ((l.getD i.toNat []).length:Int) 24)).toNat,UInt8.ofNat (IntKind.wrap .u8 (shrV .i64 ((l.getD i.toNat []).length:Int) 16)).toNat,UInt8.ofNat (IntKind.wrap .u8 (shrV .i64 ((l.getD i.toNat []).length:Int) 8)).toNat,UInt8.ofNat (IntKind.wrap .u8 ((l.getD i.toNat []).length:Int)).toNat]:List UInt8))++(l.getD i.toNat [])) (i+(1:Int))) /\
 (¬ (i<(l.length:Int))->jV m (fun (t39:List UInt8) =>
 K t39)))) [] (0:Int))
def jj (s:List UInt8) (K:(List UInt8)->Prop):Prop :=
 (0<=(64:Int)/\(64:Int)*1<=140737488355328/\(64:Int)<=140737488355328) /\
 Lp2 (fun (out:List UInt8) (i:Int) kont1=>((i<(32:Int)->(0<=i/\i<32) /\
 (0<=shrV .u8 ((s.getD i.toNat 0).toNat:Int) 4/\shrV .u8 ((s.getD i.toNat 0).toNat:Int) 4<([48,49,50,51,52,53,54,55,56,57,97,98,99,100,101,102]:List UInt8).length) /\
 (0<=i/\i<32) /\
 (0<=bits .and .u8 ((s.getD i.toNat 0).toNat:Int) (15:Int)/\bits .and .u8 ((s.getD i.toNat 0).toNat:Int) (15:Int)<([48,49,50,51,52,53,54,55,56,57,97,98,99,100,101,102]:List UInt8).length) /\
 ((out.length+(([([48,49,50,51,52,53,54,55,56,57,97,98,99,100,101,102]:List UInt8).getD (shrV .u8 ((s.getD i.toNat 0).toNat:Int) 4).toNat 0,([48,49,50,51,52,53,54,55,56,57,97,98,99,100,101,102]:List UInt8).getD (bits .and .u8 ((s.getD i.toNat 0).toNat:Int) (15:Int)).toNat 0]:List UInt8)).length)*1<=140737488355328) /\
 (In .i64 (i+(1:Int))) /\
 kont1 (out++([([48,49,50,51,52,53,54,55,56,57,97,98,99,100,101,102]:List UInt8).getD (shrV .u8 ((s.getD i.toNat 0).toNat:Int) 4).toNat 0,([48,49,50,51,52,53,54,55,56,57,97,98,99,100,101,102]:List UInt8).getD (bits .and .u8 ((s.getD i.toNat 0).toNat:Int) (15:Int)).toNat 0]:List UInt8)) (i+(1:Int))) /\
 (¬ (i<(32:Int))->K out))) ([]:List UInt8) (0:Int)
def jK (n:Int) (i:Int) (K:Int->Prop):Prop :=
 ((i<(0:Int)->(In .i64 (0 - n)) /\
 ((i<(0 - n)->K (0:Int)) /\
 (¬ (i<(0 - n))->(In .i64 (n+i)) /\
 K (n+i)))) /\
 (¬ (i<(0:Int))->K (if n<i then n else i)))
def M_smithyref11_at (s:List UInt8) (what:List UInt8) (i:Int) (K:Bool->Prop):Prop :=
 (In .i64 ((s.length:Int) - i)) /\
 ((decide ((what.length:Int)<=((s.length:Int) - i)))=true->(In .i64 (i+(what.length:Int)))) /\
 ((decide ((what.length:Int)<=((s.length:Int) - i)))=true->(0<=i/\i<=i+(what.length:Int)/\i+(what.length:Int)<=s.length)) /\
 K ((decide ((what.length:Int)<=((s.length:Int) - i))) && (decide (((s.drop i.toNat).take ((i+(what.length:Int)).toNat - i.toNat))=what)))
def km (n:Int) (from_:Int) (to_:Int) (has:Bool) (until_:Bool) (K:Int->Int->Prop):Prop :=
 jK n from_ (fun (a:Int) =>
 jK n to_ (fun (b:Int) =>
 ∃ J1:Int->Prop,((((!has)=true->J1 (0:Int)) /\
 ((!has)=false->J1 a))) /\
 (∀ a2:Int,J1 a2->∃ J2:Int->Prop,((((!until_)=true->J2 n) /\
 ((!until_)=false->J2 b))) /\
 (∀ b_2:Int,J2 b_2->K a2 (if a2<b_2 then b_2 else a2)))))
def jY (s:List UInt8) (what:List UInt8) (from_:Int) (to_:Int) (K:Int->Prop):Prop :=
 km (s.length:Int) from_ to_ true true (fun (t170:Int) (t171:Int) =>
 Lp1 (fun (i:Int) kont1=>(In .i64 (t171 - (what.length:Int))) /\
 ((i<=(t171 - (what.length:Int))->M_smithyref11_at s what i (fun (t32:Bool) =>
 ((t32=true->K i) /\
 (t32=false->(In .i64 (i+(1:Int))) /\
 kont1 (i+(1:Int)))))) /\
 (¬ (i<=(t171 - (what.length:Int)))->K (-1:Int)))) t170)
def ky (s:List UInt8) (K:(List (List UInt8))->Prop):Prop :=
 Lp3 (fun (l:List (List UInt8)) (from_:Int) (i:Int) kont1=>((i<(s.length:Int)->∃ J1:(List (List UInt8))->Int->Prop,((0<=i/\i<s.length) /\
 ((((s.getD i.toNat 0).toNat:Int)=(10:Int)->(0<=from_/\from_<=i/\i<=s.length) /\
 ((l.length+(([(s.drop from_.toNat).take (i.toNat - from_.toNat)]:List (List UInt8))).length)*16<=140737488355328) /\
 (In .i64 (i+(1:Int))) /\
 J1 (l++([(s.drop from_.toNat).take (i.toNat - from_.toNat)]:List (List UInt8))) (i+(1:Int))) /\
 (¬ (((s.getD i.toNat 0).toNat:Int)=(10:Int))->J1 l from_))) /\
 (∀ l2:List (List UInt8),∀ from_2:Int,J1 l2 from_2->(In .i64 (i+(1:Int))) /\
 kont1 l2 from_2 (i+(1:Int)))) /\
 (¬ (i<(s.length:Int))->∃ J2:(List (List UInt8))->Prop,(((from_<(s.length:Int)->(0<=from_/\from_<=s.length) /\
 ((l.length+(([s.drop from_.toNat]:List (List UInt8))).length)*16<=140737488355328) /\
 J2 (l++([s.drop from_.toNat]:List (List UInt8)))) /\
 (¬ (from_<(s.length:Int))->J2 l))) /\
 (∀ l3:List (List UInt8),J2 l3->K l3)))) [] (0:Int) (0:Int)
def jM (inputs:List (List UInt8)) (K:(List (List UInt8))->Prop):Prop :=
 (inputs.length<=maxLen ->
 Lp2 (fun (out:List (List UInt8)) (i:Int) kont1=>((i<(inputs.length:Int)->(0<=i/\i<(inputs.length:Nat)) /\
 ky (inputs.getD i.toNat []) (fun (t16:List (List UInt8)) =>
 ((out.length+t16.length)*16<=140737488355328) /\
 (In .i64 (i+(1:Int))) /\
 kont1 (out++t16) (i+(1:Int)))) /\
 (¬ (i<(inputs.length:Int))->K out))) [] (0:Int))
def jn (l:List (List UInt8)) (K:(List UInt8)->Prop):Prop :=
 (l.length<=maxLen ->
 Lp2 (fun (b:List UInt8) (i:Int) kont1=>((i<(l.length:Int)->(0<=i/\i<(l.length:Nat)) /\
 ((b.length+(l.getD i.toNat []).length)*1<=140737488355328) /\
 (((b++(l.getD i.toNat [])).length+(([10]:List UInt8)).length)*1<=140737488355328) /\
 (In .i64 (i+(1:Int))) /\
 kont1 ((b++(l.getD i.toNat []))++([10]:List UInt8)) (i+(1:Int))) /\
 (¬ (i<(l.length:Int))->K b))) [] (0:Int))
def jD (by_:List UInt8) (l:List (List UInt8)) (K:(List UInt8)->Prop):Prop :=
 (l.length<=maxLen ->
 Lp2 (fun (b:List UInt8) (i:Int) kont1=>((i<(l.length:Int)->∃ J1:(List UInt8)->Prop,((((0:Int)<i->((b.length+by_.length)*1<=140737488355328) /\
 J1 (b++by_)) /\
 (¬ ((0:Int)<i)->J1 b))) /\
 (∀ b_2:List UInt8,J1 b_2->(0<=i/\i<(l.length:Nat)) /\
 ((b_2.length+(l.getD i.toNat []).length)*1<=140737488355328) /\
 (In .i64 (i+(1:Int))) /\
 kont1 (b_2++(l.getD i.toNat [])) (i+(1:Int)))) /\
 (¬ (i<(l.length:Int))->K b))) [] (0:Int))
def jB (args:List (List UInt8)) (inputs:List (List UInt8)) (K:(List UInt8)->Bool->Prop):Prop :=
 (args.length<=maxLen ->
 (inputs.length<=maxLen ->
 (0<=(args.length:Int)/\0<(2:Int)) /\
 ((¬ (((args.length:Int) % (2:Int))=(0:Int))->K ([]:List UInt8) false) /\
 (((args.length:Int) % (2:Int))=(0:Int)->jD ([]:List UInt8) inputs (fun (s:List UInt8) =>
 Lp2 (fun (s2:List UInt8) (i:Int) kont1=>(In .i64 (i+(1:Int))) /\
 (((i+(1:Int))<(args.length:Int)->(0<=i/\i<(args.length:Nat)) /\
 ((((decide ((args.getD i.toNat [])=([]:List UInt8))) || (decide ((65536:Int)<(s2.length:Int))))=true->K ([]:List UInt8) false) /\
 (((decide ((args.getD i.toNat [])=([]:List UInt8))) || (decide ((65536:Int)<(s2.length:Int))))=false->Lp2 (fun (b:List UInt8) (k:Int) kont2=>((k<(s2.length:Int)->(In .i64 ((s2.length:Int) - k)) /\
 (0<=i/\i<(args.length:Nat)) /\
 ((decide (((args.getD i.toNat []).length:Int)<=((s2.length:Int) - k)))=true->(0<=i/\i<(args.length:Nat))) /\
 ((decide (((args.getD i.toNat []).length:Int)<=((s2.length:Int) - k)))=true->(In .i64 (k+((args.getD i.toNat []).length:Int)))) /\
 ((decide (((args.getD i.toNat []).length:Int)<=((s2.length:Int) - k)))=true->(0<=k/\k<=k+((args.getD i.toNat []).length:Int)/\k+((args.getD i.toNat []).length:Int)<=s2.length)) /\
 ((decide (((args.getD i.toNat []).length:Int)<=((s2.length:Int) - k)))=true->(0<=i/\i<(args.length:Nat))) /\
 ((((decide (((args.getD i.toNat []).length:Int)<=((s2.length:Int) - k))) && (decide (((s2.drop k.toNat).take ((k+((args.getD i.toNat []).length:Int)).toNat - k.toNat))=(args.getD i.toNat []))))=true->(In .i64 (i+(1:Int))) /\
 (0<=i+(1:Int)/\i+(1:Int)<(args.length:Nat)) /\
 ((b.length+(args.getD ((i+(1:Int)).toNat) []).length)*1<=140737488355328) /\
 (0<=i/\i<(args.length:Nat)) /\
 (In .i64 (k+((args.getD i.toNat []).length:Int))) /\
 kont2 (b++(args.getD ((i+(1:Int)).toNat) [])) (k+((args.getD i.toNat []).length:Int))) /\
 (((decide (((args.getD i.toNat []).length:Int)<=((s2.length:Int) - k))) && (decide (((s2.drop k.toNat).take ((k+((args.getD i.toNat []).length:Int)).toNat - k.toNat))=(args.getD i.toNat []))))=false->(0<=k/\k<s2.length) /\
 ((b.length+(([s2.getD k.toNat 0]:List UInt8)).length)*1<=140737488355328) /\
 (In .i64 (k+(1:Int))) /\
 kont2 (b++([s2.getD k.toNat 0]:List UInt8)) (k+(1:Int))))) /\
 (¬ (k<(s2.length:Int))->(In .i64 (i+(2:Int))) /\
 kont1 b (i+(2:Int))))) [] (0:Int)))) /\
 (¬ ((i+(1:Int))<(args.length:Int))->K s2 true))) s (0:Int))))))
def kn (args:List (List UInt8)) (inputs:List (List UInt8)) (K:(List UInt8)->Bool->Prop):Prop :=
 (args.length<=maxLen ->
 (inputs.length<=maxLen ->
 Lp3 (fun (back:Bool) (unique:Bool) (i:Int) kont1=>((i<(args.length:Int)->∃ J1:Bool->Bool->Prop,((0<=i/\i<(args.length:Nat)) /\
 ((((decide ((args.getD i.toNat [])=([114,101,118,101,114,115,101]:List UInt8))) && (!back))=true->J1 true unique) /\
 (((decide ((args.getD i.toNat [])=([114,101,118,101,114,115,101]:List UInt8))) && (!back))=false->(0<=i/\i<(args.length:Nat)) /\
 ((((decide ((args.getD i.toNat [])=([117,110,105,113,117,101]:List UInt8))) && (!unique))=true->J1 back true) /\
 (((decide ((args.getD i.toNat [])=([117,110,105,113,117,101]:List UInt8))) && (!unique))=false->K ([]:List UInt8) false))))) /\
 (∀ back2:Bool,∀ unique2:Bool,J1 back2 unique2->(In .i64 (i+(1:Int))) /\
 kont1 back2 unique2 (i+(1:Int)))) /\
 (¬ (i<(args.length:Int))->jM inputs (fun (l:List (List UInt8)) =>
 Lp2 (fun (out:List (List UInt8)) (i2:Int) kont2=>((i2<(l.length:Int)->∃ J2:(List (List UInt8))->Prop,(Lp1 (fun (k:Int) kont3=>((decide (k<(out.length:Int)))=true->(0<=k/\k<(out.length:Nat))) /\
 ((decide (k<(out.length:Int)))=true->(0<=i2/\i2<(l.length:Nat))) /\
 ((((decide (k<(out.length:Int))) && (Op.bytesLess (out.getD k.toNat []) (l.getD i2.toNat []) || decide ((out.getD k.toNat [])=(l.getD i2.toNat []))))=true->(In .i64 (k+(1:Int))) /\
 kont3 (k+(1:Int))) /\
 (((decide (k<(out.length:Int))) && (Op.bytesLess (out.getD k.toNat []) (l.getD i2.toNat []) || decide ((out.getD k.toNat [])=(l.getD i2.toNat []))))=false->((unique && (decide ((0:Int)<k)))=true->(In .i64 (k - (1:Int)))) /\
 ((unique && (decide ((0:Int)<k)))=true->(0<=k - (1:Int)/\k - (1:Int)<(out.length:Nat))) /\
 ((unique && (decide ((0:Int)<k)))=true->(0<=i2/\i2<(l.length:Nat))) /\
 ((((unique && (decide ((0:Int)<k))) && (decide ((out.getD ((k - (1:Int)).toNat) [])=(l.getD i2.toNat []))))=true->J2 out) /\
 (((unique && (decide ((0:Int)<k))) && (decide ((out.getD ((k - (1:Int)).toNat) [])=(l.getD i2.toNat []))))=false->(In .i64 ((out.length:Int)+(1:Int))) /\
 (0<=(out.length:Int)+(1:Int)/\((out.length:Int)+(1:Int))*16<=140737488355328/\(out.length:Int)+(1:Int)<=140737488355328) /\
 (0<=k/\k<=(out.length:Nat)) /\
 (((([]:List (List UInt8))).length+(out.take k.toNat).length)*16<=140737488355328) /\
 (0<=i2/\i2<(l.length:Nat)) /\
 (((([]:List (List UInt8))++(out.take k.toNat)).length+(([l.getD i2.toNat []]:List (List UInt8))).length)*16<=140737488355328) /\
 (0<=k/\k<=(out.length:Int)/\(out.length:Int)<=(out.length:Nat)) /\
 ((((([]:List (List UInt8))++(out.take k.toNat))++([l.getD i2.toNat []]:List (List UInt8))).length+(out.drop k.toNat).length)*16<=140737488355328) /\
 J2 (((([]:List (List UInt8))++(out.take k.toNat))++([l.getD i2.toNat []]:List (List UInt8)))++(out.drop k.toNat))))))) (0:Int)) /\
 (∀ out2:List (List UInt8),J2 out2->(In .i64 (i2+(1:Int))) /\
 kont2 out2 (i2+(1:Int)))) /\
 (¬ (i2<(l.length:Int))->∃ J3:(List (List UInt8))->Prop,(((back=true->(In .i64 ((out.length:Int) - (1:Int))) /\
 Lp2 (fun (turned:List (List UInt8)) (i3:Int) kont4=>(((0:Int)<=i3->(0<=i3/\i3<(out.length:Nat)) /\
 ((turned.length+(([out.getD i3.toNat []]:List (List UInt8))).length)*16<=140737488355328) /\
 (In .i64 (i3 - (1:Int))) /\
 kont4 (turned++([out.getD i3.toNat []]:List (List UInt8))) (i3 - (1:Int))) /\
 (¬ ((0:Int)<=i3)->J3 turned))) [] ((out.length:Int) - (1:Int))) /\
 (back=false->J3 out))) /\
 (∀ out3:List (List UInt8),J3 out3->jn out3 (fun (t4:List UInt8) =>
 K t4 true))))) [] (0:Int))))) false false (0:Int)))
def kH (tool:Int) (args:List (List UInt8)) (inputs:List (List UInt8)) (K:(List UInt8)->Bool->Prop):Prop :=
 (args.length<=maxLen ->
 (inputs.length<=maxLen ->
 ((tool=(1:Int)->∃ J1:(List UInt8)->Prop,((((args.length:Int)=(1:Int)->(0<=(0:Int)/\(0:Int)<(args.length:Nat)) /\
 J1 (args.getD 0 [])) /\
 (¬ ((args.length:Int)=(1:Int))->J1 ([]:List UInt8)))) /\
 (∀ by_:List UInt8,J1 by_->jD by_ inputs (fun (t6:List UInt8) =>
 K t6 (decide ((args.length:Int)<=(1:Int)))))) /\
 (¬ (tool=(1:Int))->((tool=(2:Int)->(((decide ((args.length:Int)<(1:Int))) || (decide ((2:Int)<(args.length:Int))))=false->(decide ((args.length:Int)=(2:Int)))=true->(0<=(1:Int)/\(1:Int)<(args.length:Nat))) /\
 (((((decide ((args.length:Int)<(1:Int))) || (decide ((2:Int)<(args.length:Int)))) || ((decide ((args.length:Int)=(2:Int))) && (!decide ((args.getD 1 [])=([110,111,116]:List UInt8)))))=true->K ([]:List UInt8) false) /\
 ((((decide ((args.length:Int)<(1:Int))) || (decide ((2:Int)<(args.length:Int)))) || ((decide ((args.length:Int)=(2:Int))) && (!decide ((args.getD 1 [])=([110,111,116]:List UInt8)))))=false->jM inputs (fun (l:List (List UInt8)) =>
 Lp2 (fun (out:List (List UInt8)) (i:Int) kont1=>((i<(l.length:Int)->∃ J2:(List (List UInt8))->Prop,((0<=i/\i<(l.length:Nat)) /\
 (0<=(0:Int)/\(0:Int)<(args.length:Nat)) /\
 (0<=i/\i<(l.length:Nat)) /\
 jY (l.getD i.toNat []) (args.getD 0 []) (0:Int) ((l.getD i.toNat []).length:Int) (fun (t70:Int) =>
 ((((decide ((0:Int)<=t70)) == (decide ((args.length:Int)=(1:Int))))=true->(0<=i/\i<(l.length:Nat)) /\
 ((out.length+(([l.getD i.toNat []]:List (List UInt8))).length)*16<=140737488355328) /\
 J2 (out++([l.getD i.toNat []]:List (List UInt8)))) /\
 (((decide ((0:Int)<=t70)) == (decide ((args.length:Int)=(1:Int))))=false->J2 out)))) /\
 (∀ out2:List (List UInt8),J2 out2->(In .i64 (i+(1:Int))) /\
 kont1 out2 (i+(1:Int)))) /\
 (¬ (i<(l.length:Int))->jn out (fun (t62:List UInt8) =>
 K t62 true)))) [] (0:Int))))) /\
 (¬ (tool=(2:Int))->((tool=(3:Int)->jB args inputs (fun (t890:List UInt8) (t891:Bool) =>
 K t890 t891)) /\
 (¬ (tool=(3:Int))->((tool=(4:Int)->kn args inputs (fun (t960:List UInt8) (t961:Bool) =>
 K t960 t961)) /\
 (¬ (tool=(4:Int))->Lp2 (fun (out3:List (List UInt8)) (i2:Int) kont2=>((i2<(inputs.length:Int)->(0<=i2/\i2<(inputs.length:Nat)) /\
 jV (inputs.getD i2.toNat []) (fun (t110:List UInt8) =>
 jj t110 (fun (t111:List UInt8) =>
 ((out3.length+(([t111]:List (List UInt8))).length)*16<=140737488355328) /\
 (In .i64 (i2+(1:Int))) /\
 kont2 (out3++([t111]:List (List UInt8))) (i2+(1:Int))))) /\
 (¬ (i2<(inputs.length:Int))->jn out3 (fun (t63:List UInt8) =>
 K t63 (decide ((args.length:Int)=(0:Int))))))) [] (0:Int)))))))))))
def Zi (tool:Int) (args:List (List UInt8)) (inputs:List (List UInt8)) (K:(List UInt8)->Int->Prop):Prop :=
 (args.length<=maxLen ->
 (inputs.length<=maxLen ->
 ((((decide (tool<(1:Int))) || (decide ((5:Int)<tool)))=true->K ([]:List UInt8) (111:Int)) /\
 (((decide (tool<(1:Int))) || (decide ((5:Int)<tool)))=false->kH tool args inputs (fun (t200:List UInt8) (t201:Bool) =>
 ((((!t201) || (decide ((65536:Int)<(t200.length:Int))))=true->K ([]:List UInt8) (117:Int)) /\
 (((!t201) || (decide ((65536:Int)<(t200.length:Int))))=false->K t200 (0:Int))))))))
def kc (a:List UInt8) (b:List UInt8) (K:Bool->Prop):Prop :=
 jj a (fun (t6:List UInt8) =>
 jj b (fun (t8:List UInt8) =>
 K (decide (t6=t8))))
def kz (tool:Int) (args:List (List UInt8)) (inputs:List (List UInt8)) (K:(List (List UInt8))->Prop):Prop :=
 (args.length<=maxLen ->
 (inputs.length<=maxLen ->
 Zc tool (fun (t10:List UInt8) =>
 Zc (args.length:Int) (fun (t13:List UInt8) =>
 (((([([115,109,105,116,104,121]:List UInt8),t10,t13]:List (List UInt8))).length+args.length)*16<=140737488355328) /\
 Lp2 (fun (l:List (List UInt8)) (i:Int) kont1=>((i<(inputs.length:Int)->(0<=i/\i<(inputs.length:Nat)) /\
 jj (inputs.getD i.toNat []) (fun (t29:List UInt8) =>
 ((l.length+(([t29]:List (List UInt8))).length)*16<=140737488355328) /\
 (In .i64 (i+(1:Int))) /\
 kont1 (l++([t29]:List (List UInt8))) (i+(1:Int)))) /\
 (¬ (i<(inputs.length:Int))->K l))) (([([115,109,105,116,104,121]:List UInt8),t10,t13]:List (List UInt8))++args) (0:Int)))))
def kU (tool:Int) (args:List (List UInt8)) (inputs:List (List UInt8)) (K:(List UInt8)->Prop):Prop :=
 (args.length<=maxLen ->
 (inputs.length<=maxLen ->
 kz tool args inputs (fun (t10:List (List UInt8)) =>
 kV t10 (fun (t11:List UInt8) =>
 K t11))))
set_option maxHeartbeats 8000000 in
theorem W_smithyref1_table {w:World} {K:(List Int)->Prop} (H:kI  K):Fn Tryz.prog 71 ⟨[]⟩ w (fun v w'=>w.grownBy w' none/\∃ (r:List Int),∃ (A_r:Option Addr),∃ (c_r:Nat),v=.slice A_r r.length c_r/\Own vu w' w.heap.size 126 A_r c_r r/\K r):=by
 unfold kI at H
 refine Fn.enter (by kernel_rfl) Tryz.func71 rfl Tryz.ntmps71 rfl ?_
 refine zc (zb (yp (h:=(zd (za (zc (zb (zP qD rfl rfl rfl (qG rfl (qG rfl (qG rfl (qG rfl (qG rfl (qG rfl (qG rfl (qG rfl (qG rfl (qG rfl (qG rfl (qG rfl (qG rfl (qG rfl (qG rfl (qG rfl (qG rfl (qG rfl (qG rfl (qG rfl (qG rfl (qG rfl (qG rfl (qG rfl (qG rfl (qG rfl (qG rfl (qG rfl (qG rfl (qG rfl (qG rfl (qG rfl (qG rfl (qG rfl (qG rfl (qG rfl (qG rfl (qG rfl (qG rfl (qG rfl (qG rfl (qG rfl (qG rfl (qG rfl (qG rfl (qG rfl (qG rfl (qG rfl (qG rfl (qG rfl (qG rfl (qG rfl (qG rfl (qG rfl (qG rfl (qG rfl (qG rfl (qG rfl (qG rfl (qG rfl (qG rfl (qG rfl (qG rfl (qG rfl qR)))))))))))))))))))))))))))))))))))))))))))))))))))))))))))))))) rfl (by omega) (fun g1 w1 hB1 hg1 hl1=>?_)))))))))
 have hO1:Own vu w1 w.heap.size 126 (some ⟨g1,0,none⟩) 64 ([(1116352408:Int),(1899447441:Int),(3049323471:Int),(3921009573:Int),(961987163:Int),(1508970993:Int),(2453635748:Int),(2870763221:Int),(3624381080:Int),(310598401:Int),(607225278:Int),(1426881987:Int),(1925078388:Int),(2162078206:Int),(2614888103:Int),(3248222580:Int),(3835390401:Int),(4022224774:Int),(264347078:Int),(604807628:Int),(770255983:Int),(1249150122:Int),(1555081692:Int),(1996064986:Int),(2554220882:Int),(2821834349:Int),(2952996808:Int),(3210313671:Int),(3336571891:Int),(3584528711:Int),(113926993:Int),(338241895:Int),(666307205:Int),(773529912:Int),(1294757372:Int),(1396182291:Int),(1695183700:Int),(1986661051:Int),(2177026350:Int),(2456956037:Int),(2730485921:Int),(2820302411:Int),(3259730800:Int),(3345764771:Int),(3516065817:Int),(3600352804:Int),(4094571909:Int),(275423344:Int),(430227734:Int),(506948616:Int),(659060556:Int),(883997877:Int),(958139571:Int),(1322822218:Int),(1537002063:Int),(1747873779:Int),(1955562222:Int),(2024104815:Int),(2227730452:Int),(2361852424:Int),(2428436474:Int),(2756734187:Int),(3204031479:Int),(3329325298:Int)]:List Int):=Own.ofBl hB1 (Nat.le_trans (Nat.le_refl _) hl1) (by simp [maxLen]) rfl
 exact yp (h:=(zd (za (zq (zx rfl rfl ⟨hg1,([(1116352408:Int),(1899447441:Int),(3049323471:Int),(3921009573:Int),(961987163:Int),(1508970993:Int),(2453635748:Int),(2870763221:Int),(3624381080:Int),(310598401:Int),(607225278:Int),(1426881987:Int),(1925078388:Int),(2162078206:Int),(2614888103:Int),(3248222580:Int),(3835390401:Int),(4022224774:Int),(264347078:Int),(604807628:Int),(770255983:Int),(1249150122:Int),(1555081692:Int),(1996064986:Int),(2554220882:Int),(2821834349:Int),(2952996808:Int),(3210313671:Int),(3336571891:Int),(3584528711:Int),(113926993:Int),(338241895:Int),(666307205:Int),(773529912:Int),(1294757372:Int),(1396182291:Int),(1695183700:Int),(1986661051:Int),(2177026350:Int),(2456956037:Int),(2730485921:Int),(2820302411:Int),(3259730800:Int),(3345764771:Int),(3516065817:Int),(3600352804:Int),(4094571909:Int),(275423344:Int),(430227734:Int),(506948616:Int),(659060556:Int),(883997877:Int),(958139571:Int),(1322822218:Int),(1537002063:Int),(1747873779:Int),(1955562222:Int),(2024104815:Int),(2227730452:Int),(2361852424:Int),(2428436474:Int),(2756734187:Int),(3204031479:Int),(3329325298:Int)]:List Int),(some ⟨g1,0,none⟩),64,rfl,hO1,H⟩)))))
set_option maxHeartbeats 8000000 in
theorem jb {w:World} {x:Int} {n:Int} {K:Int->Prop} (H:qS x n K):Fn Tryz.prog 72 ⟨[.int .u32 x,.int .u64 n]⟩ w (fun v w'=>w=w'/\∃ (r:Int),v=.int .u32 r/\K r):=by
 unfold qS at H
 refine Fn.enter (by kernel_rfl) Tryz.func72 rfl Tryz.ntmps72 rfl ?_
 refine zc (zb (yp (h:=(zd (za (zc (zb (yp (h:=(yp (h:=?_)))))))))))
 obtain ⟨h1,H⟩:=H
 refine zi rfl (qd rfl rfl h1) (yp (h:=(yp (h:=(yp (h:=?_))))))
 obtain ⟨h2,H⟩:=H
 exact zi rfl (Yld.shl rfl rfl h2) (yp (h:=(yp (h:=(zd (za (zq (zx rfl rfl ⟨rfl,bits .or .u32 (shrV .u32 x n.toNat) (shlV .u32 x (IntKind.wrap .u64 ((32:Int) - n)).toNat),rfl,H⟩))))))))
set_option maxHeartbeats 8000000 in
theorem W_smithyref1_Sum {w:World} {s:List UInt8} {K:(List UInt8)->Prop} (H:jV s K):Fn Tryz.prog 46 ⟨[vs s]⟩ w (fun v w'=>w.grownBy w' none/\∃ (r:List UInt8),v=.agg ⟨a32 r⟩/\K r):=by
 unfold jV at H
 refine Fn.enter (by kernel_rfl) Tryz.func46 rfl Tryz.ntmps46 rfl ?_
 refine zc (zb (WL.alloc rfl zero44 (fun g1 w1 hB1 hg1 hl1=>?_)))
 rw [a32_zero] at hB1
 have gr1:=hg1
 refine zd (za (zc (zb (zr rfl rfl (W_smithyref1_table H) ?_))))
 rintro _ w2 ⟨hg2,k,A_k,c_k,rfl,hk,H⟩
 have hb1:=hk.ge'
 have k1:=hk.base (fun g hg=>Nat.le_trans (qF gr1) (hb1 g hg))
 have gr2:=qE gr1 hg2
 have k2:=hB1.g0 hg2
 refine yp (h:=(zd (za (zc (zb (zP qD rfl rfl rfl (qG rfl (qG rfl (qG rfl (qG rfl (qG rfl (qG rfl (qG rfl (qG rfl qR)))))))) rfl (by omega) (fun g2 w3 hB2 hg3 hl2=>?_)))))))
 have hO1:Own vu w3 w.heap.size 126 (some ⟨g2,0,none⟩) 8 ([(1779033703:Int),(3144134277:Int),(1013904242:Int),(2773480762:Int),(1359893119:Int),(2600822924:Int),(528734635:Int),(1541459225:Int)]:List Int):=Own.ofBl hB2 (Nat.le_trans (qF gr2) hl2) (by simp [maxLen]) rfl
 have gr3:=qE gr2 hg3
 have k3:=k2.g0 hg3
 have k4:=k1.grown hg3
 refine yp (h:=(zd (za (zc (zb (yp (h:=(yp (h:=?_)))))))))
 obtain ⟨h1,H⟩:=H
 refine zi rfl (Yld.add rfl rfl h1) ?_
 obtain ⟨h2,H⟩:=H
 refine WL.makeCI (f:=vb) (B:=w.heap.size) qD rfl rfl rfl rfl h2.1 h2.2.1 h2.2.2 (qF gr3) (fun g3 w4 hO2 hg4 hl3=>?_)
 have gr4:=qE gr3 hg4
 have k5:=k3.g0 hg4
 have k6:=k4.grown hg4
 have k7:=hO1.grown hg4
 refine yp (h:=?_)
 obtain ⟨h3,H⟩:=H
 refine qj qD rfl rfl rfl hO2 rfl rfl rfl h3 (qN h3) (qF gr4) (fun A_m c_m w5 hO3 hg5 hk1=>?_)
 have gr5:=qH gr4 hg5 hO2.ge'
 refine yp (h:=(zd (za (zc (zb (yp (h:=(zP qD rfl rfl rfl (qG rfl qR) rfl (by omega) (fun g4 w6 hB3 hg6 hl4=>?_)))))))))
 have hO4:Own vb w6 w.heap.size 5 (some ⟨g4,0,none⟩) 1 ([128]:List UInt8):=Own.ofBl hB3 (Nat.le_trans (qF gr5) hl4) (by simp [maxLen]) rfl
 have gr6:=qE gr5 hg6
 have k11:=(k5.go hg5 (Dj.new k3.lt' (Ge.box hl3))).g0 hg6
 have k12:=(k6.go hg5 (Dj.new k4.lt' (Ge.box hl3))).grown hg6
 have k13:=(k7.go hg5 (Dj.new hO1.lt' (Ge.box hl3))).grown hg6
 have k14:=hO3.grown hg6
 obtain ⟨h4,H⟩:=H
 refine zG qD rfl rfl One.b k14 rfl rfl hO4.rd rfl rfl h4 (qN h4) (qF gr6) (fun i9 l0 w7 hO5 hg7 hk2=>yp (h:=(zd (za (zc (WC.block ?_))))))
 obtain ⟨I1,mu1,b0,HR1⟩:=H
 refine zA (fun n' L' w'=>∃ (m:List UInt8),∃ (d8:Option Addr),∃ (e7:Nat),∃ (n_m:Nat),n'=mu1 m/\L'=[(0,vs s),(2,.pointer (some ⟨g1,0,none⟩)),(3,.slice A_k k.length c_k),(4,.slice (some ⟨g2,0,none⟩) 8 8),(5,.slice d8 n_m e7)]/\I1 m/\n_m=m.length/\w.grownBy w' none/\Bl w' g1 44 (a32 (List.replicate 32 0:List UInt8))/\Own vu w' w.heap.size 126 A_k c_k k/\Own vu w' w.heap.size 126 (some ⟨g2,0,none⟩) 8 ([(1779033703:Int),(3144134277:Int),(1013904242:Int),(2773480762:Int),(1359893119:Int),(2600822924:Int),(528734635:Int),(1541459225:Int)]:List Int)/\Own vb w' w.heap.size 5 d8 e7 m/\Dj (some g1) (blk d8)/\Dj (blk A_k) (blk d8)/\Dj (blk (some ⟨g2,0,none⟩)) (blk d8)) _ _ ⟨(([]:List UInt8)++s)++([128]:List UInt8),i9,l0,((([]:List UInt8)++s)++([128]:List UInt8)).length,rfl,rfl,b0,rfl,(qH gr6 hg7 k14.ge'),(k11.go hg7 ((Dj.app (Dj.new k3.lt' (Ge.box hl3)).symm k5.lt' hk1).symm)),(k12.go hg7 ((Dj.app (Dj.new k4.lt' (Ge.box hl3)).symm k6.lt' hk1).symm)),(k13.go hg7 ((Dj.app (Dj.new hO1.lt' (Ge.box hl3)).symm k7.lt' hk1).symm)),hO5,(Dj.app (Dj.app (Dj.new k3.lt' (Ge.box hl3)).symm k5.lt' hk1) k11.lt' hk2).symm,(Dj.app (Dj.app (Dj.new k4.lt' (Ge.box hl3)).symm k6.lt' hk1) k12.lt' hk2).symm,(Dj.app (Dj.app (Dj.new hO1.lt' (Ge.box hl3)).symm k7.lt' hk1) k13.lt' hk2).symm⟩ sb ?_
 clear b0
 rintro _ _ w8 ⟨m,d8,e7,n_m,rfl,rfl,hI1,rfl,gr8,k18,k19,k20,k21,dj1,dj2,dj3⟩
 have H:=HR1 m hI1
 refine zc (zc (zb (yp (h:=(yp (h:=?_))))))
 obtain ⟨h5,H⟩:=H
 refine zi rfl (Yld.rem rfl rfl h5.1 h5.2) (yp (h:=(zd (za (zk rfl (fun b1=>?_) (fun b1=>?_))))))
 ·replace H:=H.1 (kN b1)
  refine zm (za (WC.block (zb (yp (h:=(zP qD rfl rfl rfl (qG rfl qR) rfl (by omega) (fun g5 w9 hB4 hg8 hl5=>?_)))))))
  have hO6:Own vb w9 w.heap.size 5 (some ⟨g5,0,none⟩) 1 ([0]:List UInt8):=Own.ofBl hB4 (Nat.le_trans (qF gr8) hl5) (by simp [maxLen]) rfl
  have gr9:=qE gr8 hg8
  have k22:=k18.g0 hg8
  have k23:=k19.grown hg8
  have k24:=k20.grown hg8
  have k25:=k21.grown hg8
  obtain ⟨h6,H⟩:=H
  exact zG qD rfl rfl One.b k25 rfl rfl hO6.rd rfl rfl h6 (qN h6) (qF gr9) (fun m5 n1 w10 hO7 hg9 hk3=>yp (h:=(zd (zg (zw _ ⟨m++([0]:List UInt8),m5,n1,(m++([0]:List UInt8)).length,rfl,rfl,H.1,rfl,(qH gr9 hg9 k25.ge'),(k22.go hg9 dj1),(k23.go hg9 dj2),(k24.go hg9 dj3),hO7,(Dj.app dj1.symm k22.lt' hk3).symm,(Dj.app dj2.symm k23.lt' hk3).symm,(Dj.app dj3.symm k24.lt' hk3).symm⟩ sb H.2)))))
 ·replace H:=H.2 (j9 b1)
  refine zz (zf (zf (zj (za (zc (zb (yp (h:=(yp (h:=(yp (h:=(yp (h:=(yp (h:=(zd (za (zc (zc (zb (yp (h:=(zd (za (WC.block ?_))))))))))))))))))))))))))
  obtain ⟨I2,mu2,d5,HR2⟩:=H
  refine zA (fun n' L' w'=>∃ (m2:List UInt8),∃ (c5:Option Addr),∃ (d3:Nat),∃ (i8:Nat),∃ (i:Int),n'=mu2 m2 i/\L'=[(2,.pointer (some ⟨g1,0,none⟩)),(3,.slice A_k k.length c_k),(4,.slice (some ⟨g2,0,none⟩) 8 8),(5,.slice c5 i8 d3),(6,.int .u64 (IntKind.wrap .u64 ((IntKind.wrap .u64 (s.length:Int))*(8:Int)))),(7,.int .i64 i)]/\I2 m2 i/\i8=m2.length/\w.grownBy w' none/\Bl w' g1 44 (a32 (List.replicate 32 0:List UInt8))/\Own vu w' w.heap.size 126 A_k c_k k/\Own vu w' w.heap.size 126 (some ⟨g2,0,none⟩) 8 ([(1779033703:Int),(3144134277:Int),(1013904242:Int),(2773480762:Int),(1359893119:Int),(2600822924:Int),(528734635:Int),(1541459225:Int)]:List Int)/\Own vb w' w.heap.size 5 c5 d3 m2/\Dj (some g1) (blk c5)/\Dj (blk A_k) (blk c5)/\Dj (blk (some ⟨g2,0,none⟩)) (blk c5)) _ _ ⟨m,d8,e7,m.length,(7:Int),rfl,rfl,d5,rfl,gr8,k18,k19,k20,k21,dj1,dj2,dj3⟩ sb ?_
  clear d5
  rintro _ _ w11 ⟨m2,c5,d3,i8,i,rfl,rfl,hI2,rfl,gr11,k29,k30,k31,k32,dj4,dj5,dj6⟩
  have H:=HR2 m2 i hI2
  refine zc (zc (zb (yp (h:=(yp (h:=(zd (za (zk rfl (fun b2=>?_) (fun b2=>?_))))))))))
  ·replace H:=H.1 (of_decide_eq_true b2)
   refine zm (za (zc (WC.block (zb (yp (h:=(yp (h:=(yp (h:=?_))))))))))
   obtain ⟨h7,H⟩:=H
   refine zi rfl (qg rfl rfl h7) (yp (h:=?_))
   obtain ⟨h8,H⟩:=H
   refine zi rfl (qd rfl rfl h8) (yp (h:=?_))
   obtain ⟨h9,H⟩:=H
   refine zP qD rfl rfl rfl (qG rfl qR) rfl (by omega) (fun g6 w12 hB5 hg10 hl6=>?_)
   replace hB5:Bl w12 g6 5 (([UInt8.ofNat (IntKind.wrap .u8 (shrV .u64 (IntKind.wrap .u64 ((IntKind.wrap .u64 (s.length:Int))*(8:Int))) (IntKind.wrap .u64 ((8:Int)*i)).toNat)).toNat]:List UInt8).map vb):=Bl.cast (lcons (byte_eq' h9) lnil) hB5
   have hO8:Own vb w12 w.heap.size 5 (some ⟨g6,0,none⟩) 1 ([UInt8.ofNat (IntKind.wrap .u8 (shrV .u64 (IntKind.wrap .u64 ((IntKind.wrap .u64 (s.length:Int))*(8:Int))) (IntKind.wrap .u64 ((8:Int)*i)).toNat)).toNat]:List UInt8):=Own.ofBl hB5 (Nat.le_trans (qF gr11) hl6) (by simp [maxLen]) rfl
   have gr12:=qE gr11 hg10
   have k33:=k29.g0 hg10
   have k34:=k30.grown hg10
   have k35:=k31.grown hg10
   have k36:=k32.grown hg10
   obtain ⟨h10,H⟩:=H
   refine zG qD rfl rfl One.b k36 rfl rfl hO8.rd rfl rfl h10 (qN h10) (qF gr12) (fun m6 n2 w13 hO9 hg11 hk4=>yp (h:=(zd (zg (za (zb (yp (h:=?_))))))))
   obtain ⟨h11,H⟩:=H
   exact zi rfl (Yld.sub rfl rfl h11) (yp (h:=(zd (zw _ ⟨m2++([UInt8.ofNat (IntKind.wrap .u8 (shrV .u64 (IntKind.wrap .u64 ((IntKind.wrap .u64 (s.length:Int))*(8:Int))) (IntKind.wrap .u64 ((8:Int)*i)).toNat)).toNat]:List UInt8),m6,n2,(m2++([UInt8.ofNat (IntKind.wrap .u8 (shrV .u64 (IntKind.wrap .u64 ((IntKind.wrap .u64 (s.length:Int))*(8:Int))) (IntKind.wrap .u64 ((8:Int)*i)).toNat)).toNat]:List UInt8)).length,i - (1:Int),rfl,rfl,H.1,rfl,(qH gr12 hg11 k36.ge'),(k33.go hg11 dj4),(k34.go hg11 dj5),(k35.go hg11 dj6),hO9,(Dj.app dj4.symm k33.lt' hk4).symm,(Dj.app dj5.symm k34.lt' hk4).symm,(Dj.app dj6.symm k35.lt' hk4).symm⟩ sb H.2))))
  ·replace H:=H.2 (of_decide_eq_false b2)
   refine zz (zf (zf (zj (za (zc (zc (zb (yp (h:=(zd (za (WC.block ?_))))))))))))
   obtain ⟨I3,mu3,f1,HR3⟩:=H
   refine zA (fun n' L' w'=>∃ (at_:Int),∃ (h:List Int),n'=mu3 at_ h/\L'=[(2,.pointer (some ⟨g1,0,none⟩)),(3,.slice A_k k.length c_k),(4,.slice (some ⟨g2,0,none⟩) 8 8),(5,.slice c5 m2.length d3),(8,.int .i64 at_)]/\I3 at_ h/\8=h.length/\w.grownBy w' none/\Bl w' g1 44 (a32 (List.replicate 32 0:List UInt8))/\Own vu w' w.heap.size 126 A_k c_k k/\Own vu w' w.heap.size 126 (some ⟨g2,0,none⟩) 8 h/\Own vb w' w.heap.size 5 c5 d3 m2) _ _ ⟨(0:Int),([(1779033703:Int),(3144134277:Int),(1013904242:Int),(2773480762:Int),(1359893119:Int),(2600822924:Int),(528734635:Int),(1541459225:Int)]:List Int),rfl,rfl,f1,rfl,gr11,k29,k30,k31,k32⟩ sb ?_
   clear f1
   rintro _ _ w14 ⟨at_,h,rfl,rfl,hI3,f3,gr14,k40,k41,k42,k43⟩
   have H:=HR3 at_ h hI3
   replace H:=H f3
   refine zc (zc (zb (yp (h:=(yp (h:=(yp (h:=(yp (h:=(zd (za (zk rfl (fun b3=>?_) (fun b3=>?_))))))))))))))
   ·replace H:=H.1 (of_decide_eq_true b3)
    refine zm (za (zc (WC.block (zc (zb ?_)))))
    obtain ⟨h12,H⟩:=H
    refine qq (f:=vu) (z:=0) (B:=w.heap.size) qD rfl rfl zero126 rfl rfl h12.1 h12.2.1 h12.2.2 (qF gr14) (fun g7 w15 hO10 hg12 hl7=>yp (h:=(zd (za (zc (zc (zb (yp (h:=(zd (za (WC.block ?_))))))))))))
    obtain ⟨I4,mu4,f2,HR4⟩:=H
    refine zA (fun n' L' w'=>∃ (i2:Int),∃ (w_:List Int),n'=mu4 i2 w_/\L'=[(2,.pointer (some ⟨g1,0,none⟩)),(3,.slice A_k k.length c_k),(4,.slice (some ⟨g2,0,none⟩) 8 8),(5,.slice c5 m2.length d3),(8,.int .i64 at_),(9,.slice (some ⟨g7,0,none⟩) 64 64),(10,.int .i64 i2)]/\I4 i2 w_/\64=w_.length/\w.grownBy w' none/\Bl w' g1 44 (a32 (List.replicate 32 0:List UInt8))/\Own vu w' w.heap.size 126 A_k c_k k/\Own vu w' w.heap.size 126 (some ⟨g2,0,none⟩) 8 h/\Own vb w' w.heap.size 5 c5 d3 m2/\Own vu w' w.heap.size 126 (some ⟨g7,0,none⟩) 64 w_) _ _ ⟨(0:Int),(List.replicate 64 0),rfl,rfl,f2,(List.length_replicate).symm,(qE gr14 hg12),(k40.g0 hg12),(k41.grown hg12),(k42.grown hg12),(k43.grown hg12),hO10⟩ sb ?_
    clear f2
    rintro _ _ w16 ⟨i2,w_,rfl,rfl,hI4,e1,gr16,k48,k49,k50,k51,k52⟩
    have H:=HR4 i2 w_ hI4
    replace H:=H e1
    refine zc (zc (zb (yp (h:=(yp (h:=(zd (za (zk rfl (fun b4=>?_) (fun b4=>?_))))))))))
    ·replace H:=H.1 (of_decide_eq_true b4)
     refine zm (za (zc (WC.block (zO (fun k => !(Nat.beq k 44)) (LD [8,18,29,40] (fun w'=>Rd vb w' c5 d3 m2)) mixed (by kernel_rfl) (fun k w' h _=>(jA h k51.rd)) (zu rfl rfl (fun w' hw'=>ze qD rfl) (zu rfl rfl (fun w' hw'=>ze qD rfl) (zu rfl rfl (fun w' hw'=>ze qD rfl) (zu rfl rfl (fun w' hw'=>ze qD rfl) (zu rfl rfl (fun w' hw'=>ze qD rfl) ?_)))))))))
     obtain ⟨h13,H⟩:=H
     refine zu rfl rfl (fun w' hw'=>qg rfl rfl h13) ?_
     obtain ⟨h14,H⟩:=H
     refine zu rfl rfl (fun w' hw'=>Yld.add rfl rfl h14) ?_
     obtain ⟨h15,H⟩:=H
     refine zu rfl rfl (fun w' hw'=>zn qD k51.rd rfl rfl rfl rfl h15.1 h15.2) (zu rfl rfl (fun w' hw'=>zo 0 qD (hw' rfl) rfl rfl (iltN h15 rfl)) (zu rfl rfl (fun w' hw'=>qt qD rfl rfl rfl rfl) (zu rfl rfl (fun w' hw'=>Yld.shl rfl rfl (by omega)) (zu rfl rfl (fun w' hw'=>ze qD rfl) (zu rfl rfl (fun w' hw'=>ze qD rfl) (zu rfl rfl (fun w' hw'=>ze qD rfl) ?_))))))
     obtain ⟨h16,H⟩:=H
     refine zu rfl rfl (fun w' hw'=>qg rfl rfl h16) ?_
     obtain ⟨h17,H⟩:=H
     refine zu rfl rfl (fun w' hw'=>Yld.add rfl rfl h17) ?_
     obtain ⟨h18,H⟩:=H
     refine zu rfl rfl (fun w' hw'=>Yld.add rfl rfl h18) ?_
     obtain ⟨h19,H⟩:=H
     refine zu rfl rfl (fun w' hw'=>zn qD k51.rd rfl rfl rfl rfl h19.1 h19.2) (zu rfl rfl (fun w' hw'=>zo 0 qD (hw' rfl) rfl rfl (iltN h19 rfl)) (zu rfl rfl (fun w' hw'=>qt qD rfl rfl rfl rfl) (zu rfl rfl (fun w' hw'=>Yld.shl rfl rfl (by omega)) (zu rfl rfl (fun w' hw'=>ze qD rfl) (zu rfl rfl (fun w' hw'=>ze qD rfl) (zu rfl rfl (fun w' hw'=>ze qD rfl) (zu rfl rfl (fun w' hw'=>ze qD rfl) ?_)))))))
     obtain ⟨h20,H⟩:=H
     refine zu rfl rfl (fun w' hw'=>qg rfl rfl h20) ?_
     obtain ⟨h21,H⟩:=H
     refine zu rfl rfl (fun w' hw'=>Yld.add rfl rfl h21) ?_
     obtain ⟨h22,H⟩:=H
     refine zu rfl rfl (fun w' hw'=>Yld.add rfl rfl h22) ?_
     obtain ⟨h23,H⟩:=H
     refine zu rfl rfl (fun w' hw'=>zn qD k51.rd rfl rfl rfl rfl h23.1 h23.2) (zu rfl rfl (fun w' hw'=>zo 0 qD (hw' rfl) rfl rfl (iltN h23 rfl)) (zu rfl rfl (fun w' hw'=>qt qD rfl rfl rfl rfl) (zu rfl rfl (fun w' hw'=>Yld.shl rfl rfl (by omega)) (zu rfl rfl (fun w' hw'=>ze qD rfl) (zu rfl rfl (fun w' hw'=>ze qD rfl) (zu rfl rfl (fun w' hw'=>ze qD rfl) (zu rfl rfl (fun w' hw'=>ze qD rfl) ?_)))))))
     obtain ⟨h24,H⟩:=H
     refine zu rfl rfl (fun w' hw'=>qg rfl rfl h24) ?_
     obtain ⟨h25,H⟩:=H
     refine zu rfl rfl (fun w' hw'=>Yld.add rfl rfl h25) ?_
     obtain ⟨h26,H⟩:=H
     refine zu rfl rfl (fun w' hw'=>Yld.add rfl rfl h26) ?_
     obtain ⟨h27,H⟩:=H
     refine zu rfl rfl (fun w' hw'=>zn qD k51.rd rfl rfl rfl rfl h27.1 h27.2) (zu rfl rfl (fun w' hw'=>zo 0 qD (hw' rfl) rfl rfl (iltN h27 rfl)) (zu rfl rfl (fun w' hw'=>qt qD rfl rfl rfl rfl) (zu rfl rfl (fun w' hw'=>ze qD rfl) ?_)))
     obtain ⟨h28,H⟩:=H
     refine zu rfl rfl (fun w' hw'=>zn qD k52.rd rfl rfl e1 rfl h28.1 h28.2) (qn rfl (qw (v:=bits .or .u32 (bits .or .u32 (bits .or .u32 (shlV .u32 ((m2.getD ((at_+((4:Int)*i2)).toNat) 0).toNat:Int) 24) (shlV .u32 ((m2.getD (((at_+((4:Int)*i2))+(1:Int)).toNat) 0).toNat:Int) 16)) (shlV .u32 ((m2.getD (((at_+((4:Int)*i2))+(2:Int)).toNat) 0).toNat:Int) 8)) ((m2.getD (((at_+((4:Int)*i2))+(3:Int)).toNat) 0).toNat:Int)) one126 One.u k52 rfl rfl (iltN h28 e1)) (fun w' h=>DD.keep (Rd.go k51.rd (qQ h.2 (Eqv.refl _)) (Dn.of (Dj.new k43.lt' (Ge.box hl7))))) ?_)
     rintro w17 ⟨hO11,hg13⟩
     refine zX (zg (za (zb (yp (h:=?_)))))
     obtain ⟨h29,H⟩:=H
     exact zi rfl (Yld.add rfl rfl h29) (yp (h:=(zd (zw _ ⟨i2+(1:Int),w_.set i2.toNat (bits .or .u32 (bits .or .u32 (bits .or .u32 (shlV .u32 ((m2.getD ((at_+((4:Int)*i2)).toNat) 0).toNat:Int) 24) (shlV .u32 ((m2.getD (((at_+((4:Int)*i2))+(1:Int)).toNat) 0).toNat:Int) 16)) (shlV .u32 ((m2.getD (((at_+((4:Int)*i2))+(2:Int)).toNat) 0).toNat:Int) 8)) ((m2.getD (((at_+((4:Int)*i2))+(3:Int)).toNat) 0).toNat:Int)),rfl,rfl,H.1,(e1.trans List.length_set.symm),(qH gr16 hg13 k52.ge'),(k48.go hg13 (Dj.new k40.lt' (Ge.box hl7))),(k49.go hg13 (Dj.new k41.lt' (Ge.box hl7))),(k50.go hg13 (Dj.new k42.lt' (Ge.box hl7))),(k51.go hg13 (Dj.new k43.lt' (Ge.box hl7))),hO11⟩ sb H.2))))
    ·replace H:=H.2 (of_decide_eq_false b4)
     refine zz (zf (zf (zj (za (zc (zc (zb (yp (h:=(zd (za (WC.block ?_))))))))))))
     obtain ⟨I5,mu5,l5,HR5⟩:=H
     refine zA (fun n' L' w'=>∃ (i3:Int),∃ (w_2:List Int),n'=mu5 i3 w_2/\L'=[(2,.pointer (some ⟨g1,0,none⟩)),(3,.slice A_k k.length c_k),(4,.slice (some ⟨g2,0,none⟩) 8 8),(5,.slice c5 m2.length d3),(8,.int .i64 at_),(9,.slice (some ⟨g7,0,none⟩) 64 64),(11,.int .i64 i3)]/\I5 i3 w_2/\64=w_2.length/\w.grownBy w' none/\Bl w' g1 44 (a32 (List.replicate 32 0:List UInt8))/\Own vu w' w.heap.size 126 A_k c_k k/\Own vu w' w.heap.size 126 (some ⟨g2,0,none⟩) 8 h/\Own vb w' w.heap.size 5 c5 d3 m2/\Own vu w' w.heap.size 126 (some ⟨g7,0,none⟩) 64 w_2) _ _ ⟨(16:Int),w_,rfl,rfl,l5,e1,gr16,k48,k49,k50,k51,k52⟩ sb ?_
     clear l5
     rintro _ _ w18 ⟨i3,w_2,rfl,rfl,hI5,a7,gr18,k57,k58,k59,k60,k61⟩
     have H:=HR5 i3 w_2 hI5
     replace H:=H a7
     refine zc (zc (zb (yp (h:=(yp (h:=(zd (za (zk rfl (fun b5=>?_) (fun b5=>?_))))))))))
     ·replace H:=H.1 (of_decide_eq_true b5)
      refine zm (za (zc (WC.block (zc (zO (fun k => !(Nat.beq k 5 || Nat.beq k 11)) (LD [4,10,17] (fun w'=>Rd vu w' (some ⟨g7,0,none⟩) 64 w_2)) mixed (by kernel_rfl) (fun k w' h _=>(jA h k61.rd)) (zu rfl rfl (fun w' hw'=>ze qD rfl) (zu rfl rfl (fun w' hw'=>ze qD rfl) ?_)))))))
      obtain ⟨h30,H⟩:=H
      refine zu rfl rfl (fun w' hw'=>Yld.sub rfl rfl h30) ?_
      obtain ⟨h31,H⟩:=H
      refine zu rfl rfl (fun w' hw'=>zn qD k61.rd rfl rfl a7 rfl h31.1 h31.2) (zu rfl rfl (fun w' hw'=>zo 0 qD (hw' rfl) rfl rfl (iltN h31 a7)) (zT rfl (qI) rfl rfl (jb H) (fun v w' h w2 e=>DD.keep (jA (eqvL h.1 e) k61.rd)) ?_))
      rintro _ _ ⟨rfl,t124,rfl,H⟩
      refine zu rfl rfl (fun w' hw'=>ze qD rfl) (zu rfl rfl (fun w' hw'=>ze qD rfl) ?_)
      obtain ⟨h32,H⟩:=H
      refine zu rfl rfl (fun w' hw'=>Yld.sub rfl rfl h32) ?_
      obtain ⟨h33,H⟩:=H
      refine zu rfl rfl (fun w' hw'=>zn qD k61.rd rfl rfl a7 rfl h33.1 h33.2) (zu rfl rfl (fun w' hw'=>zo 0 qD (hw' rfl) rfl rfl (iltN h33 a7)) (zT rfl (qI) rfl rfl (jb H) (fun v w' h w2 e=>DD.keep (jA (eqvL h.1 e) k61.rd)) ?_))
      rintro _ _ ⟨rfl,t130,rfl,H⟩
      refine zu rfl rfl (fun w' hw'=>ze qD rfl) (zu rfl rfl (fun w' hw'=>ze qD rfl) (zu rfl rfl (fun w' hw'=>ze qD rfl) ?_))
      obtain ⟨h34,H⟩:=H
      refine zu rfl rfl (fun w' hw'=>Yld.sub rfl rfl h34) ?_
      obtain ⟨h35,H⟩:=H
      refine zu rfl rfl (fun w' hw'=>zn qD k61.rd rfl rfl a7 rfl h35.1 h35.2) (zu rfl rfl (fun w' hw'=>zo 0 qD (hw' rfl) rfl rfl (iltN h35 a7)) (zu rfl rfl (fun w' hw'=>qd rfl rfl (by omega)) (zu rfl rfl (fun w' hw'=>ze qD rfl) (zu rfl rfl (fun w' hw'=>ze qD rfl) (zX (za (zc (zO (fun k => !(Nat.beq k 5 || Nat.beq k 11)) (LD [4,10,17] (fun w'=>Rd vu w' (some ⟨g7,0,none⟩) 64 w_2)) mixed (by kernel_rfl) (fun k w' h _=>(jA h k61.rd)) (zu rfl rfl (fun w' hw'=>ze qD rfl) (zu rfl rfl (fun w' hw'=>ze qD rfl) ?_))))))))))
      obtain ⟨h36,H⟩:=H
      refine zu rfl rfl (fun w' hw'=>Yld.sub rfl rfl h36) ?_
      obtain ⟨h37,H⟩:=H
      refine zu rfl rfl (fun w' hw'=>zn qD k61.rd rfl rfl a7 rfl h37.1 h37.2) (zu rfl rfl (fun w' hw'=>zo 0 qD (hw' rfl) rfl rfl (iltN h37 a7)) (zT rfl (qI) rfl rfl (jb H) (fun v w' h w2 e=>DD.keep (jA (eqvL h.1 e) k61.rd)) ?_))
      rintro _ _ ⟨rfl,t144,rfl,H⟩
      refine zu rfl rfl (fun w' hw'=>ze qD rfl) (zu rfl rfl (fun w' hw'=>ze qD rfl) ?_)
      obtain ⟨h38,H⟩:=H
      refine zu rfl rfl (fun w' hw'=>Yld.sub rfl rfl h38) ?_
      obtain ⟨h39,H⟩:=H
      refine zu rfl rfl (fun w' hw'=>zn qD k61.rd rfl rfl a7 rfl h39.1 h39.2) (zu rfl rfl (fun w' hw'=>zo 0 qD (hw' rfl) rfl rfl (iltN h39 a7)) (zT rfl (qI) rfl rfl (jb H) (fun v w' h w2 e=>DD.keep (jA (eqvL h.1 e) k61.rd)) ?_))
      rintro _ _ ⟨rfl,t150,rfl,H⟩
      refine zu rfl rfl (fun w' hw'=>ze qD rfl) (zu rfl rfl (fun w' hw'=>ze qD rfl) (zu rfl rfl (fun w' hw'=>ze qD rfl) ?_))
      obtain ⟨h40,H⟩:=H
      refine zu rfl rfl (fun w' hw'=>Yld.sub rfl rfl h40) ?_
      obtain ⟨h41,H⟩:=H
      refine zu rfl rfl (fun w' hw'=>zn qD k61.rd rfl rfl a7 rfl h41.1 h41.2) (zu rfl rfl (fun w' hw'=>zo 0 qD (hw' rfl) rfl rfl (iltN h41 a7)) (zu rfl rfl (fun w' hw'=>qd rfl rfl (by omega)) (zu rfl rfl (fun w' hw'=>ze qD rfl) (zu rfl rfl (fun w' hw'=>ze qD rfl) (zX (za (zO (fun k => !(Nat.beq k 18)) (LD [6,13] (fun w'=>Rd vu w' (some ⟨g7,0,none⟩) 64 w_2)) mixed (by kernel_rfl) (fun k w' h _=>(jA h k61.rd)) (zu rfl rfl (fun w' hw'=>ze qD rfl) (zu rfl rfl (fun w' hw'=>ze qD rfl) (zu rfl rfl (fun w' hw'=>ze qD rfl) (zu rfl rfl (fun w' hw'=>ze qD rfl) ?_)))))))))))
      obtain ⟨h42,H⟩:=H
      refine zu rfl rfl (fun w' hw'=>Yld.sub rfl rfl h42) ?_
      obtain ⟨h43,H⟩:=H
      refine zu rfl rfl (fun w' hw'=>zn qD k61.rd rfl rfl a7 rfl h43.1 h43.2) (zu rfl rfl (fun w' hw'=>zo 0 qD (hw' rfl) rfl rfl (iltN h43 a7)) (zu rfl rfl (fun w' hw'=>ze qD rfl) (zu rfl rfl (fun w' hw'=>ze qD rfl) (zu rfl rfl (fun w' hw'=>ze qD rfl) (zu rfl rfl (fun w' hw'=>ze qD rfl) ?_)))))
      obtain ⟨h44,H⟩:=H
      refine zu rfl rfl (fun w' hw'=>Yld.sub rfl rfl h44) ?_
      obtain ⟨h45,H⟩:=H
      refine zu rfl rfl (fun w' hw'=>zn qD k61.rd rfl rfl a7 rfl h45.1 h45.2) (zu rfl rfl (fun w' hw'=>zo 0 qD (hw' rfl) rfl rfl (iltN h45 a7)) (zu rfl rfl (fun w' hw'=>ze qD rfl) (zu rfl rfl (fun w' hw'=>ze qD rfl) (zu rfl rfl (fun w' hw'=>ze qD rfl) ?_))))
      obtain ⟨h46,H⟩:=H
      refine zu rfl rfl (fun w' hw'=>zn qD k61.rd rfl rfl a7 rfl h46.1 h46.2) (qn rfl (qw (v:=IntKind.wrap .u32 ((IntKind.wrap .u32 ((IntKind.wrap .u32 ((w_2.getD ((i3 - (16:Int)).toNat) 0)+(bits .xor .u32 (bits .xor .u32 t124 t130) (shrV .u32 (w_2.getD ((i3 - (15:Int)).toNat) 0) 3))))+(w_2.getD ((i3 - (7:Int)).toNat) 0)))+(bits .xor .u32 (bits .xor .u32 t144 t150) (shrV .u32 (w_2.getD ((i3 - (2:Int)).toNat) 0) 10)))) one126 One.u k61 rfl rfl (iltN h46 a7)) (fun w' h=>qv (by kernel_rfl)) ?_)
      rintro w19 ⟨hO12,hg14⟩
      refine zX (zg (za (zb (yp (h:=?_)))))
      obtain ⟨h47,H⟩:=H
      exact zi rfl (Yld.add rfl rfl h47) (yp (h:=(zd (zw _ ⟨i3+(1:Int),w_2.set i3.toNat (IntKind.wrap .u32 ((IntKind.wrap .u32 ((IntKind.wrap .u32 ((w_2.getD ((i3 - (16:Int)).toNat) 0)+(bits .xor .u32 (bits .xor .u32 t124 t130) (shrV .u32 (w_2.getD ((i3 - (15:Int)).toNat) 0) 3))))+(w_2.getD ((i3 - (7:Int)).toNat) 0)))+(bits .xor .u32 (bits .xor .u32 t144 t150) (shrV .u32 (w_2.getD ((i3 - (2:Int)).toNat) 0) 10)))),rfl,rfl,H.1,(a7.trans List.length_set.symm),(qH gr18 hg14 k61.ge'),(k57.go hg14 (Dj.new k40.lt' (Ge.box hl7))),(k58.go hg14 (Dj.new k41.lt' (Ge.box hl7))),(k59.go hg14 (Dj.new k42.lt' (Ge.box hl7))),(k60.go hg14 (Dj.new k43.lt' (Ge.box hl7))),hO12⟩ sb H.2))))
     ·replace H:=H.2 (of_decide_eq_false b5)
      refine zz (zf (zf (zj (za (zc (zb ?_))))))
      obtain ⟨h48,H⟩:=H
      refine WL.makeCI (f:=vu) (B:=w.heap.size) qD rfl rfl rfl rfl h48.1 h48.2.1 h48.2.2 (qF gr18) (fun g8 w20 hO13 hg15 hl8=>?_)
      have gr20:=qE gr18 hg15
      have k66:=k57.g0 hg15
      have k67:=k58.grown hg15
      have k68:=k59.grown hg15
      have k69:=k60.grown hg15
      have k70:=k61.grown hg15
      refine yp (h:=?_)
      obtain ⟨h49,H⟩:=H
      refine zG qD rfl rfl One.u hO13 rfl rfl k68.rd rfl f3 h49 (qN h49) (qF gr20) (fun A_v c_v w21 hO14 hg16 hk5=>yp (h:=(zd (za (zc (zc (zb (yp (h:=(zd (za (WC.block ?_))))))))))))
      obtain ⟨I6,mu6,l6,HR6⟩:=H
      refine zA (fun n' L' w'=>∃ (v:List Int),∃ (d2:Option Addr),∃ (e0:Nat),∃ (n_v:Nat),∃ (i4:Int),n'=mu6 v i4/\L'=[(2,.pointer (some ⟨g1,0,none⟩)),(3,.slice A_k k.length c_k),(4,.slice (some ⟨g2,0,none⟩) 8 8),(5,.slice c5 m2.length d3),(8,.int .i64 at_),(9,.slice (some ⟨g7,0,none⟩) 64 64),(14,.slice d2 n_v e0),(15,.int .i64 i4)]/\I6 v i4/\n_v=v.length/\w.grownBy w' none/\Bl w' g1 44 (a32 (List.replicate 32 0:List UInt8))/\Own vu w' w.heap.size 126 A_k c_k k/\Own vu w' w.heap.size 126 (some ⟨g2,0,none⟩) 8 h/\Own vb w' w.heap.size 5 c5 d3 m2/\Own vu w' w.heap.size 126 (some ⟨g7,0,none⟩) 64 w_2/\Own vu w' w.heap.size 126 d2 e0 v/\Dj (some g1) (blk d2)/\Dj (blk A_k) (blk d2)/\Dj (blk (some ⟨g2,0,none⟩)) (blk d2)/\Dj (blk c5) (blk d2)/\Dj (blk (some ⟨g7,0,none⟩)) (blk d2)) _ _ ⟨([]:List Int)++h,A_v,c_v,(([]:List Int)++h).length,(0:Int),rfl,rfl,l6,rfl,(qH gr20 hg16 hO13.ge'),(k66.go hg16 (Dj.new k57.lt' (Ge.box hl8))),(k67.go hg16 (Dj.new k58.lt' (Ge.box hl8))),(k68.go hg16 (Dj.new k59.lt' (Ge.box hl8))),(k69.go hg16 (Dj.new k60.lt' (Ge.box hl8))),(k70.go hg16 (Dj.new k61.lt' (Ge.box hl8))),hO14,(Dj.app (Dj.new k57.lt' (Ge.box hl8)).symm k66.lt' hk5).symm,(Dj.app (Dj.new k58.lt' (Ge.box hl8)).symm k67.lt' hk5).symm,(Dj.app (Dj.new k59.lt' (Ge.box hl8)).symm k68.lt' hk5).symm,(Dj.app (Dj.new k60.lt' (Ge.box hl8)).symm k69.lt' hk5).symm,(Dj.app (Dj.new k61.lt' (Ge.box hl8)).symm k70.lt' hk5).symm⟩ sb ?_
      clear l6
      rintro _ _ w22 ⟨v,d2,e0,n_v,i4,rfl,rfl,hI6,rfl,gr22,k76,k77,k78,k79,k80,k81,dj7,dj8,dj9,dj10,dj11⟩
      have H:=HR6 v i4 hI6
      refine zc (zc (zb (yp (h:=(yp (h:=(zd (za (zk rfl (fun b6=>?_) (fun b6=>?_))))))))))
      ·replace H:=H.1 (of_decide_eq_true b6)
       refine zm (za (zc (WC.block (zc (zO (fun k => !(Nat.beq k 3 || Nat.beq k 7 || Nat.beq k 12)) (LD [2,6,11] (fun w'=>Rd vu w' d2 e0 v)) mixed (by kernel_rfl) (fun k w' h _=>(jA h k81.rd)) (zu rfl rfl (fun w' hw'=>ze qD rfl) ?_))))))
       obtain ⟨h50,H⟩:=H
       refine zu rfl rfl (fun w' hw'=>zn qD k81.rd rfl rfl rfl rfl h50.1 h50.2) (zu rfl rfl (fun w' hw'=>zo 0 qD (hw' rfl) rfl rfl (iltN h50 rfl)) (zT rfl (qI) rfl rfl (jb H) (fun v w' h w2 e=>DD.keep (jA (eqvL h.1 e) k81.rd)) ?_))
       rintro _ _ ⟨rfl,t187,rfl,H⟩
       refine zu rfl rfl (fun w' hw'=>ze qD rfl) ?_
       obtain ⟨h51,H⟩:=H
       refine zu rfl rfl (fun w' hw'=>zn qD k81.rd rfl rfl rfl rfl h51.1 h51.2) (zu rfl rfl (fun w' hw'=>zo 0 qD (hw' rfl) rfl rfl (iltN h51 rfl)) (zT rfl (qI) rfl rfl (jb H) (fun v w' h w2 e=>DD.keep (jA (eqvL h.1 e) k81.rd)) ?_))
       rintro _ _ ⟨rfl,t191,rfl,H⟩
       refine zu rfl rfl (fun w' hw'=>ze qD rfl) (zu rfl rfl (fun w' hw'=>ze qD rfl) ?_)
       obtain ⟨h52,H⟩:=H
       refine zu rfl rfl (fun w' hw'=>zn qD k81.rd rfl rfl rfl rfl h52.1 h52.2) (zu rfl rfl (fun w' hw'=>zo 0 qD (hw' rfl) rfl rfl (iltN h52 rfl)) (zT rfl (qI) rfl rfl (jb H) (fun v w' h w2 e=>DD.keep (jA (eqvL h.1 e) k81.rd)) ?_))
       rintro _ _ ⟨rfl,t196,rfl,H⟩
       refine zu rfl rfl (fun w' hw'=>ze qD rfl) (zu rfl rfl (fun w' hw'=>ze qD rfl) (zX (za (zc (zQ mixed (by kernel_rfl) (zB rfl (ze qD rfl) ?_))))))
       obtain ⟨h53,H⟩:=H
       refine zB rfl (zn qD k81.rd rfl rfl rfl rfl h53.1 h53.2) (zB rfl (zo 0 qD k81.rd rfl rfl (iltN h53 rfl)) (zB rfl (ze qD rfl) ?_))
       obtain ⟨h54,H⟩:=H
       refine zB rfl (zn qD k81.rd rfl rfl rfl rfl h54.1 h54.2) (zB rfl (zo 0 qD k81.rd rfl rfl (iltN h54 rfl)) (zB rfl (ze qD rfl) (zB rfl (ze qD rfl) ?_)))
       obtain ⟨h55,H⟩:=H
       refine zB rfl (zn qD k81.rd rfl rfl rfl rfl h55.1 h55.2) (zB rfl (zo 0 qD k81.rd rfl rfl (iltN h55 rfl)) (zB rfl (ze qD rfl) (zB rfl (ze qD rfl) ?_)))
       obtain ⟨h56,H⟩:=H
       refine zB rfl (zn qD k81.rd rfl rfl rfl rfl h56.1 h56.2) (zB rfl (zo 0 qD k81.rd rfl rfl (iltN h56 rfl)) (zB rfl (ze qD rfl) (zB rfl (ze qD rfl) (zB rfl (ze qD rfl) (zW (za (zc (zQ mixed (by kernel_rfl) (zB rfl (ze qD rfl) ?_)))))))))
       obtain ⟨h57,H⟩:=H
       refine zB rfl (zn qD k81.rd rfl rfl rfl rfl h57.1 h57.2) (zB rfl (zo 0 qD k81.rd rfl rfl (iltN h57 rfl)) (zB rfl (ze qD rfl) (zB rfl (ze qD rfl) (zB rfl (ze qD rfl) (zB rfl (ze qD rfl) (zB rfl (ze qD rfl) (zB rfl (ze qD rfl) ?_)))))))
       obtain ⟨h58,H⟩:=H
       refine zB rfl (zn qD k77.rd rfl rfl rfl rfl h58.1 h58.2) (zB rfl (zo 0 qD k77.rd rfl rfl (iltN h58 rfl)) (zB rfl (ze qD rfl) (zB rfl (ze qD rfl) (zB rfl (ze qD rfl) ?_))))
       obtain ⟨h59,H⟩:=H
       refine zB rfl (zn qD k80.rd rfl rfl a7 rfl h59.1 h59.2) (zB rfl (zo 0 qD k80.rd rfl rfl (iltN h59 a7)) (zB rfl (ze qD rfl) (zB rfl (ze qD rfl) (zW (za (zc (zO (fun k => !(Nat.beq k 3 || Nat.beq k 7 || Nat.beq k 12)) (LD [2,6,11] (fun w'=>Rd vu w' d2 e0 v)) mixed (by kernel_rfl) (fun k w' h _=>(jA h k81.rd)) (zu rfl rfl (fun w' hw'=>ze qD rfl) ?_))))))))
       obtain ⟨h60,H⟩:=H
       refine zu rfl rfl (fun w' hw'=>zn qD k81.rd rfl rfl rfl rfl h60.1 h60.2) (zu rfl rfl (fun w' hw'=>zo 0 qD (hw' rfl) rfl rfl (iltN h60 rfl)) (zT rfl (qI) rfl rfl (jb H) (fun v w' h w2 e=>DD.keep (jA (eqvL h.1 e) k81.rd)) ?_))
       rintro _ _ ⟨rfl,t234,rfl,H⟩
       refine zu rfl rfl (fun w' hw'=>ze qD rfl) ?_
       obtain ⟨h61,H⟩:=H
       refine zu rfl rfl (fun w' hw'=>zn qD k81.rd rfl rfl rfl rfl h61.1 h61.2) (zu rfl rfl (fun w' hw'=>zo 0 qD (hw' rfl) rfl rfl (iltN h61 rfl)) (zT rfl (qI) rfl rfl (jb H) (fun v w' h w2 e=>DD.keep (jA (eqvL h.1 e) k81.rd)) ?_))
       rintro _ _ ⟨rfl,t238,rfl,H⟩
       refine zu rfl rfl (fun w' hw'=>ze qD rfl) (zu rfl rfl (fun w' hw'=>ze qD rfl) ?_)
       obtain ⟨h62,H⟩:=H
       refine zu rfl rfl (fun w' hw'=>zn qD k81.rd rfl rfl rfl rfl h62.1 h62.2) (zu rfl rfl (fun w' hw'=>zo 0 qD (hw' rfl) rfl rfl (iltN h62 rfl)) (zT rfl (qI) rfl rfl (jb H) (fun v w' h w2 e=>DD.keep (jA (eqvL h.1 e) k81.rd)) ?_))
       rintro _ _ ⟨rfl,t243,rfl,H⟩
       refine zu rfl rfl (fun w' hw'=>ze qD rfl) (zu rfl rfl (fun w' hw'=>ze qD rfl) (zX (za (zc (zQ mixed (by kernel_rfl) (zB rfl (ze qD rfl) ?_))))))
       obtain ⟨h63,H⟩:=H
       refine zB rfl (zn qD k81.rd rfl rfl rfl rfl h63.1 h63.2) (zB rfl (zo 0 qD k81.rd rfl rfl (iltN h63 rfl)) (zB rfl (ze qD rfl) ?_))
       obtain ⟨h64,H⟩:=H
       refine zB rfl (zn qD k81.rd rfl rfl rfl rfl h64.1 h64.2) (zB rfl (zo 0 qD k81.rd rfl rfl (iltN h64 rfl)) (zB rfl (ze qD rfl) (zB rfl (ze qD rfl) ?_)))
       obtain ⟨h65,H⟩:=H
       refine zB rfl (zn qD k81.rd rfl rfl rfl rfl h65.1 h65.2) (zB rfl (zo 0 qD k81.rd rfl rfl (iltN h65 rfl)) (zB rfl (ze qD rfl) ?_))
       obtain ⟨h66,H⟩:=H
       refine zB rfl (zn qD k81.rd rfl rfl rfl rfl h66.1 h66.2) (zB rfl (zo 0 qD k81.rd rfl rfl (iltN h66 rfl)) (zB rfl (ze qD rfl) (zB rfl (ze qD rfl) (zB rfl (ze qD rfl) ?_))))
       obtain ⟨h67,H⟩:=H
       refine zB rfl (zn qD k81.rd rfl rfl rfl rfl h67.1 h67.2) (zB rfl (zo 0 qD k81.rd rfl rfl (iltN h67 rfl)) (zB rfl (ze qD rfl) ?_))
       obtain ⟨h68,H⟩:=H
       refine zB rfl (zn qD k81.rd rfl rfl rfl rfl h68.1 h68.2) (zB rfl (zo 0 qD k81.rd rfl rfl (iltN h68 rfl)) (zB rfl (ze qD rfl) (zB rfl (ze qD rfl) (zB rfl (ze qD rfl) (zW (za (zO (fun k => !(Nat.beq k 28)) (LD [7,10,13,16,21,24,27] (fun w'=>Rd vu w' d2 e0 v)) mixed (by kernel_rfl) (fun k w' h _=>(jA h k81.rd)) (zu rfl rfl (fun w' hw'=>ze qD rfl) (zu rfl rfl (fun w' hw'=>ze qD rfl) (zu rfl rfl (fun w' hw'=>ze qD rfl) (zu rfl rfl (fun w' hw'=>ze qD rfl) (zu rfl rfl (fun w' hw'=>ze qD rfl) (zu rfl rfl (fun w' hw'=>ze qD rfl) ?_)))))))))))))
       obtain ⟨h69,H⟩:=H
       refine zu rfl rfl (fun w' hw'=>zn qD k81.rd rfl rfl rfl rfl h69.1 h69.2) (zu rfl rfl (fun w' hw'=>zo 0 qD (hw' rfl) rfl rfl (iltN h69 rfl)) (zu rfl rfl (fun w' hw'=>ze qD rfl) ?_))
       obtain ⟨h70,H⟩:=H
       refine zu rfl rfl (fun w' hw'=>zn qD k81.rd rfl rfl rfl rfl h70.1 h70.2) (zu rfl rfl (fun w' hw'=>zo 0 qD (hw' rfl) rfl rfl (iltN h70 rfl)) (zu rfl rfl (fun w' hw'=>ze qD rfl) ?_))
       obtain ⟨h71,H⟩:=H
       refine zu rfl rfl (fun w' hw'=>zn qD k81.rd rfl rfl rfl rfl h71.1 h71.2) (zu rfl rfl (fun w' hw'=>zo 0 qD (hw' rfl) rfl rfl (iltN h71 rfl)) (zu rfl rfl (fun w' hw'=>ze qD rfl) ?_))
       obtain ⟨h72,H⟩:=H
       refine zu rfl rfl (fun w' hw'=>zn qD k81.rd rfl rfl rfl rfl h72.1 h72.2) (zu rfl rfl (fun w' hw'=>zo 0 qD (hw' rfl) rfl rfl (iltN h72 rfl)) (zu rfl rfl (fun w' hw'=>ze qD rfl) (zu rfl rfl (fun w' hw'=>ze qD rfl) (zu rfl rfl (fun w' hw'=>ze qD rfl) ?_))))
       obtain ⟨h73,H⟩:=H
       refine zu rfl rfl (fun w' hw'=>zn qD k81.rd rfl rfl rfl rfl h73.1 h73.2) (zu rfl rfl (fun w' hw'=>zo 0 qD (hw' rfl) rfl rfl (iltN h73 rfl)) (zu rfl rfl (fun w' hw'=>ze qD rfl) ?_))
       obtain ⟨h74,H⟩:=H
       refine zu rfl rfl (fun w' hw'=>zn qD k81.rd rfl rfl rfl rfl h74.1 h74.2) (zu rfl rfl (fun w' hw'=>zo 0 qD (hw' rfl) rfl rfl (iltN h74 rfl)) (zu rfl rfl (fun w' hw'=>ze qD rfl) ?_))
       obtain ⟨h75,H⟩:=H
       refine zu rfl rfl (fun w' hw'=>zn qD k81.rd rfl rfl rfl rfl h75.1 h75.2) (zu rfl rfl (fun w' hw'=>zo 0 qD (hw' rfl) rfl rfl (iltN h75 rfl)) (z6 rfl (qI) rfl (Eff.lit qD rfl rfl (qG rfl (qG rfl (qG rfl (qG rfl (qG rfl (qG rfl (qG rfl (qG rfl qR)))))))) rfl (by omega)) (fun v w' ⟨_,_,h⟩=>DD.keep (Rd.grown k81.rd (qQ h (Eqv.refl _)))) ?_))
       rintro _ w23 ⟨rfl,hB6,hg17⟩
       obtain ⟨g_v,hl9⟩:∃ g,g=w22.heap.size:=⟨_,rfl⟩
       rw [<-hl9] at hB6
       rw [<-hl9]
       have hO15:Own vu w23 w.heap.size 126 (some ⟨g_v,0,none⟩) 8 ([IntKind.wrap .u32 ((IntKind.wrap .u32 ((IntKind.wrap .u32 ((IntKind.wrap .u32 ((IntKind.wrap .u32 ((IntKind.wrap .u32 ((v.getD 7 0)+(bits .xor .u32 (bits .xor .u32 t187 t191) t196)))+(bits .xor .u32 (bits .and .u32 (v.getD 4 0) (v.getD 5 0)) (bits .and .u32 (bits .xor .u32 (if IntKind.signed .u32 then -1 else IntKind.max .u32) (v.getD 4 0)) (v.getD 6 0)))))+(k.getD i4.toNat 0)))+(w_2.getD i4.toNat 0)))+(bits .xor .u32 (bits .xor .u32 t234 t238) t243)))+(bits .xor .u32 (bits .xor .u32 (bits .and .u32 (v.getD 0 0) (v.getD 1 0)) (bits .and .u32 (v.getD 0 0) (v.getD 2 0))) (bits .and .u32 (v.getD 1 0) (v.getD 2 0)))),v.getD 0 0,v.getD 1 0,v.getD 2 0,IntKind.wrap .u32 ((v.getD 3 0)+(IntKind.wrap .u32 ((IntKind.wrap .u32 ((IntKind.wrap .u32 ((IntKind.wrap .u32 ((v.getD 7 0)+(bits .xor .u32 (bits .xor .u32 t187 t191) t196)))+(bits .xor .u32 (bits .and .u32 (v.getD 4 0) (v.getD 5 0)) (bits .and .u32 (bits .xor .u32 (if IntKind.signed .u32 then -1 else IntKind.max .u32) (v.getD 4 0)) (v.getD 6 0)))))+(k.getD i4.toNat 0)))+(w_2.getD i4.toNat 0)))),v.getD 4 0,v.getD 5 0,v.getD 6 0]:List Int):=Own.ofBl hB6 (Nat.le_trans (qF gr22) (Nat.le_of_eq hl9.symm)) (by simp [maxLen]) rfl
       have k87:=k81.grown hg17
       refine zu rfl rfl (fun w' hw'=>ze qD rfl) (zX (zg (za (zb (yp (h:=?_))))))
       obtain ⟨h76,H⟩:=H
       refine zi rfl (Yld.add rfl rfl h76) (yp (h:=(zd ?_)))
       exact zw _ ⟨([IntKind.wrap .u32 ((IntKind.wrap .u32 ((IntKind.wrap .u32 ((IntKind.wrap .u32 ((IntKind.wrap .u32 ((IntKind.wrap .u32 ((v.getD 7 0)+(bits .xor .u32 (bits .xor .u32 t187 t191) t196)))+(bits .xor .u32 (bits .and .u32 (v.getD 4 0) (v.getD 5 0)) (bits .and .u32 (bits .xor .u32 (if IntKind.signed .u32 then -1 else IntKind.max .u32) (v.getD 4 0)) (v.getD 6 0)))))+(k.getD i4.toNat 0)))+(w_2.getD i4.toNat 0)))+(bits .xor .u32 (bits .xor .u32 t234 t238) t243)))+(bits .xor .u32 (bits .xor .u32 (bits .and .u32 (v.getD 0 0) (v.getD 1 0)) (bits .and .u32 (v.getD 0 0) (v.getD 2 0))) (bits .and .u32 (v.getD 1 0) (v.getD 2 0)))),v.getD 0 0,v.getD 1 0,v.getD 2 0,IntKind.wrap .u32 ((v.getD 3 0)+(IntKind.wrap .u32 ((IntKind.wrap .u32 ((IntKind.wrap .u32 ((IntKind.wrap .u32 ((v.getD 7 0)+(bits .xor .u32 (bits .xor .u32 t187 t191) t196)))+(bits .xor .u32 (bits .and .u32 (v.getD 4 0) (v.getD 5 0)) (bits .and .u32 (bits .xor .u32 (if IntKind.signed .u32 then -1 else IntKind.max .u32) (v.getD 4 0)) (v.getD 6 0)))))+(k.getD i4.toNat 0)))+(w_2.getD i4.toNat 0)))),v.getD 4 0,v.getD 5 0,v.getD 6 0]:List Int),(some ⟨g_v,0,none⟩),8,8,i4+(1:Int),rfl,rfl,H.1,rfl,(qE gr22 hg17),(k76.g0 hg17),(k77.grown hg17),(k78.grown hg17),(k79.grown hg17),(k80.grown hg17),hO15,(Dj.new k76.lt' (Ge.box (Nat.le_of_eq hl9.symm))),(Dj.new k77.lt' (Ge.box (Nat.le_of_eq hl9.symm))),(Dj.new k78.lt' (Ge.box (Nat.le_of_eq hl9.symm))),(Dj.new k79.lt' (Ge.box (Nat.le_of_eq hl9.symm))),(Dj.new k80.lt' (Ge.box (Nat.le_of_eq hl9.symm)))⟩ sb H.2
      ·replace H:=H.2 (of_decide_eq_false b6)
       refine zz (zf (zf (zj (za (zc (zb (yp (h:=(zd (za (WC.block ?_)))))))))))
       obtain ⟨I7,mu7,l7,HR7⟩:=H
       refine zA (fun n' L' w'=>∃ (i5:Int),∃ (h_2:List Int),n'=mu7 i5 h_2/\L'=[(2,.pointer (some ⟨g1,0,none⟩)),(3,.slice A_k k.length c_k),(4,.slice (some ⟨g2,0,none⟩) 8 8),(5,.slice c5 m2.length d3),(8,.int .i64 at_),(14,.slice d2 v.length e0),(21,.int .i64 i5)]/\I7 i5 h_2/\8=h_2.length/\w.grownBy w' none/\Bl w' g1 44 (a32 (List.replicate 32 0:List UInt8))/\Own vu w' w.heap.size 126 A_k c_k k/\Own vu w' w.heap.size 126 (some ⟨g2,0,none⟩) 8 h_2/\Own vb w' w.heap.size 5 c5 d3 m2/\Own vu w' w.heap.size 126 d2 e0 v) _ _ ⟨(0:Int),h,rfl,rfl,l7,f3,gr22,k76,k77,k78,k79,k81⟩ sb ?_
       clear l7
       rintro _ _ w24 ⟨i5,h_2,rfl,rfl,hI7,c9,gr24,k88,k89,k90,k91,k92⟩
       have H:=HR7 i5 h_2 hI7
       replace H:=H c9
       refine zc (zc (zb (yp (h:=(yp (h:=(zd (za (zk rfl (fun b7=>?_) (fun b7=>?_))))))))))
       ·replace H:=H.1 (of_decide_eq_true b7)
        refine zm (za (zc (WC.block (zO (fun k => !(Nat.beq k 12)) (LD [5,9] (fun w'=>Rd vu w' (some ⟨g2,0,none⟩) 8 h_2/\Rd vu w' d2 e0 v)) mixed (by kernel_rfl) (fun k w' h _=>⟨(jA h k90.rd),(jA h k92.rd)⟩) (zu rfl rfl (fun w' hw'=>ze qD rfl) (zu rfl rfl (fun w' hw'=>ze qD rfl) (zu rfl rfl (fun w' hw'=>ze qD rfl) (zu rfl rfl (fun w' hw'=>ze qD rfl) ?_))))))))
        obtain ⟨h77,H⟩:=H
        refine zu rfl rfl (fun w' hw'=>zn qD k90.rd rfl rfl c9 rfl h77.1 h77.2) (zu rfl rfl (fun w' hw'=>zo 0 qD (hw' rfl).1 rfl rfl (iltN h77 c9)) (zu rfl rfl (fun w' hw'=>ze qD rfl) (zu rfl rfl (fun w' hw'=>ze qD rfl) ?_)))
        obtain ⟨h78,H⟩:=H
        refine zu rfl rfl (fun w' hw'=>zn qD k92.rd rfl rfl rfl rfl h78.1 h78.2) (zu rfl rfl (fun w' hw'=>zo 0 qD (hw' rfl).2 rfl rfl (iltN h78 rfl)) (zu rfl rfl (fun w' hw'=>ze qD rfl) ?_))
        obtain ⟨h79,H⟩:=H
        refine zu rfl rfl (fun w' hw'=>zn qD k90.rd rfl rfl c9 rfl h79.1 h79.2) (qn rfl (qw (v:=IntKind.wrap .u32 ((h_2.getD i5.toNat 0)+(v.getD i5.toNat 0))) one126 One.u k90 rfl rfl (iltN h79 c9)) (fun w' h=>qv (by kernel_rfl)) ?_)
        rintro w25 ⟨hO16,hg18⟩
        refine zX (zg (za (zb (yp (h:=?_)))))
        obtain ⟨h80,H⟩:=H
        exact zi rfl (Yld.add rfl rfl h80) (yp (h:=(zd (zw _ ⟨i5+(1:Int),h_2.set i5.toNat (IntKind.wrap .u32 ((h_2.getD i5.toNat 0)+(v.getD i5.toNat 0))),rfl,rfl,H.1,(c9.trans List.length_set.symm),(qH gr24 hg18 k90.ge'),(k88.go hg18 (Dj.new k2.lt' (Ge.box hl2))),(k89.go hg18 (Dj.new k1.lt' (Ge.box hl2))),hO16,(k91.go hg18 dj6.symm),(k92.go hg18 dj9.symm)⟩ sb H.2))))
       ·replace H:=H.2 (of_decide_eq_false b7)
        refine zz (zf (zf (zj (zg (za (zb (yp (h:=?_))))))))
        obtain ⟨h81,H⟩:=H
        exact zi rfl (Yld.add rfl rfl h81) (yp (h:=(zd (zw _ ⟨at_+(64:Int),h_2,rfl,rfl,H.1,c9,gr24,k88,k89,k90,k91⟩ sb H.2))))
   ·replace H:=H.2 (of_decide_eq_false b3)
    refine zz (zf (zf (zj (za (zc (zb (WL.alloc rfl zero44 (fun g9 w26 hB7 hg19 hl10=>?_))))))))
    rw [a32_zero] at hB7
    refine zd (za (zc (zc (zb (yp (h:=(zd (za (WC.block ?_)))))))))
    obtain ⟨I8,mu8,l8,HR8⟩:=H
    refine zA (fun n' L' w'=>∃ (i6:Int),∃ (out0:List UInt8),n'=mu8 i6 out0/\L'=[(2,.pointer (some ⟨g1,0,none⟩)),(4,.slice (some ⟨g2,0,none⟩) 8 8),(22,.pointer (some ⟨g9,0,none⟩)),(23,.int .i64 i6)]/\I8 i6 out0/\w.grownBy w' none/\Bl w' g1 44 (a32 (List.replicate 32 0:List UInt8))/\Own vu w' w.heap.size 126 (some ⟨g2,0,none⟩) 8 h/\Bl w' g9 44 (a32 out0)) _ _ ⟨(0:Int),(List.replicate 32 0:List UInt8),rfl,rfl,l8,(qE gr14 hg19),(k40.g0 hg19),(k42.grown hg19),hB7⟩ sb ?_
    clear l8
    rintro _ _ w27 ⟨i6,out0,rfl,rfl,hI8,gr27,k99,k100,k101⟩
    have H:=HR8 i6 out0 hI8
    refine zc (zc (zb (yp (h:=(yp (h:=(zd (za (zk rfl (fun b8=>?_) (fun b8=>?_))))))))))
    ·replace H:=H.1 (of_decide_eq_true b8)
     refine zm (za (zc (WC.block (zc (zb (yp (h:=(zd (za (WC.block ?_))))))))))
     obtain ⟨I9,mu9,l9,HR9⟩:=H
     refine zA (fun n' L' w'=>∃ (j:Int),∃ (out02:List UInt8),n'=mu9 j out02/\L'=[(2,.pointer (some ⟨g1,0,none⟩)),(4,.slice (some ⟨g2,0,none⟩) 8 8),(22,.pointer (some ⟨g9,0,none⟩)),(23,.int .i64 i6),(24,.int .i64 j)]/\I9 j out02/\w.grownBy w' none/\Bl w' g1 44 (a32 (List.replicate 32 0:List UInt8))/\Own vu w' w.heap.size 126 (some ⟨g2,0,none⟩) 8 h/\Bl w' g9 44 (a32 out02)) _ _ ⟨(0:Int),out0,rfl,rfl,l9,gr27,k99,k100,k101⟩ sb ?_
     clear l9
     rintro _ _ w28 ⟨j,out02,rfl,rfl,hI9,gr28,k102,k103,k104⟩
     have H:=HR9 j out02 hI9
     refine zc (zc (zb (yp (h:=(yp (h:=(zd (za (zk rfl (fun b9=>?_) (fun b9=>?_))))))))))
     ·replace H:=H.1 (of_decide_eq_true b9)
      refine zm (za (zc (WC.block (zb (yp (h:=?_))))))
      obtain ⟨h82,H⟩:=H
      refine zi rfl (qg rfl rfl h82) (yp (h:=?_))
      obtain ⟨h83,H⟩:=H
      refine zi rfl (Yld.add rfl rfl h83) (yp (h:=(yp (h:=?_))))
      obtain ⟨h84,H⟩:=H
      refine zi rfl (zn qD k103.rd rfl rfl f3 rfl h84.1 h84.2) (zi rfl (zo 0 qD k103.rd rfl rfl (iltN h84 f3)) (yp (h:=?_)))
      obtain ⟨h85,H⟩:=H
      refine zi rfl (qg rfl rfl h85) ?_
      obtain ⟨h86,H⟩:=H
      refine zi rfl (Yld.sub rfl rfl h86) (yp (h:=?_))
      obtain ⟨h87,H⟩:=H
      refine zi rfl (qd rfl rfl h87) (yp (h:=?_))
      obtain ⟨h88,H⟩:=H
      refine zi rfl (zZ qD rfl rfl rfl h88.1 h88.2) ?_
      obtain ⟨h89,H⟩:=H
      obtain ⟨h90,H⟩:=H
      refine zV (u:=vb (UInt8.ofNat (IntKind.wrap .u8 (shrV .u32 (h.getD i6.toNat 0) (IntKind.wrap .u64 ((24:Int) - ((8:Int)*j))).toNat)).toNat)) one5 rfl (byte_eq h89) rfl k104 (a32_lt (lt32 h88)) (fun w29 hB8 hg20=>?_)
      have hB9:Bl w29 g9 44 (a32 (out02.set ((((4:Int)*i6)+j).toNat) (UInt8.ofNat (IntKind.wrap .u8 (shrV .u32 (h.getD i6.toNat 0) (IntKind.wrap .u64 ((24:Int) - ((8:Int)*j))).toNat)).toNat))):=a32_setO h90 ▸ hB8
      refine zd (zg (za (zb (yp (h:=?_)))))
      obtain ⟨h91,H⟩:=H
      exact zi rfl (Yld.add rfl rfl h91) (yp (h:=(zd (zw _ ⟨j+(1:Int),out02.set ((((4:Int)*i6)+j).toNat) (UInt8.ofNat (IntKind.wrap .u8 (shrV .u32 (h.getD i6.toNat 0) (IntKind.wrap .u64 ((24:Int) - ((8:Int)*j))).toNat)).toNat),rfl,rfl,H.1,(qH gr28 hg20 (Ge.le (Ge.box hl10) (qF gr14))),(k102.go hg20 (Dj.new k40.lt' (Ge.box hl10))),(k103.go hg20 (Dj.new k42.lt' (Ge.box hl10))),hB9⟩ sb H.2))))
     ·replace H:=H.2 (of_decide_eq_false b9)
      refine zz (zf (zf (zj (zg (za (zb (yp (h:=?_))))))))
      obtain ⟨h92,H⟩:=H
      exact zi rfl (Yld.add rfl rfl h92) (yp (h:=(zd (zw _ ⟨i6+(1:Int),out02,rfl,rfl,H.1,gr28,k102,k103,k104⟩ sb H.2))))
    ·replace H:=H.2 (of_decide_eq_false b8)
     exact zz (zf (zf (zj (za (zc (zb (zi rfl (zY (vs:=(a32 out0)) qD k101 rfl rfl rfl rfl) (zH (vs:=(a32 out0)) qD rfl rfl rfl (kt _) k99 rfl rfl (fun w30 hB10 hg21=>zd (za (zq (z7 qD rfl rfl rfl hB10 rfl ⟨(qH gr27 hg21 (Ge.le (Ge.box hl1) (Nat.le_refl _))),out0,rfl,H⟩))))))))))))
set_option maxHeartbeats 8000000 in
theorem W_smithyref1_Many {w:World} {l:List (List UInt8)} {A_l:Option Addr} {c_l:Nat} {n_l:Nat} {K:(List UInt8)->Prop} (hl:Rd vs w A_l c_l l) (f4:n_l=l.length) (H:kV l K):Fn Tryz.prog 73 ⟨[.slice A_l n_l c_l]⟩ w (fun v w'=>w.grownBy w' none/\∃ (r:List UInt8),v=.agg ⟨a32 r⟩/\K r):=by
 subst f4
 unfold kV at H
 refine Fn.enter (by kernel_rfl) Tryz.func73 rfl Tryz.ntmps73 rfl ?_
 replace H:=H (Nat.le_trans hl.cap hl.max)
 refine zc (zb (WL.alloc rfl zero44 (fun g1 w1 hB1 hg1 hl1=>?_)))
 rw [a32_zero] at hB1
 refine zd (za (zc (zb (yp (h:=(zd (za (zc (zc (zb (yp (h:=(zd (za (WC.block ?_)))))))))))))))
 obtain ⟨I1,mu1,b0,HR1⟩:=H
 refine zA (fun n' L' w'=>∃ (m:List UInt8),∃ (A_m:Option Addr),∃ (c_m:Nat),∃ (n_m:Nat),∃ (i:Int),n'=mu1 m i/\L'=[(0,.slice A_l l.length c_l),(2,.pointer (some ⟨g1,0,none⟩)),(3,.slice A_m n_m c_m),(4,.int .i64 i)]/\I1 m i/\n_m=m.length/\w.grownBy w' none/\Bl w' g1 44 (a32 (List.replicate 32 0:List UInt8))/\Own vb w' w.heap.size 5 A_m c_m m/\Dj (some g1) (blk A_m)) _ _ ⟨[],none,0,0,(0:Int),rfl,rfl,b0,rfl,hg1,hB1,(Own.nil vb w1 w.heap.size 5),Dj.nr⟩ sb ?_
 clear b0
 rintro _ _ w2 ⟨m,A_m,c_m,n_m,i,rfl,rfl,hI1,rfl,gr2,k1,k2,dj1⟩
 have H:=HR1 m i hI1
 refine zc (zc (zb (yp (h:=(yp (h:=(yp (h:=(yp (h:=(zd (za (zk rfl (fun b1=>?_) (fun b1=>?_))))))))))))))
 ·replace H:=H.1 (of_decide_eq_true b1)
  refine zm (za (zc (WC.block (zc (zb (yp (h:=(yp (h:=?_)))))))))
  obtain ⟨h1,H⟩:=H
  refine zi rfl (zn qD (hl.grown gr2) rfl rfl rfl rfl h1.1 h1.2) (zi rfl (zo [] qD (hl.grown gr2) rfl rfl (iltN h1 rfl)) (yp (h:=(yp (h:=(zd (za (zc (zb (yp (h:=(yp (h:=(zi rfl (qd rfl rfl (by omega)) (yp (h:=(yp (h:=(zi rfl (qd rfl rfl (by omega)) (yp (h:=(yp (h:=(zi rfl (qd rfl rfl (by omega)) (yp (h:=(yp (h:=(yp (h:=?_))))))))))))))))))))))))))))))
  obtain ⟨h2,H⟩:=H
  obtain ⟨h3,H⟩:=H
  obtain ⟨h4,H⟩:=H
  obtain ⟨h5,H⟩:=H
  refine zP qD rfl rfl rfl (qG rfl (qG rfl (qG rfl (qG rfl qR)))) rfl (by omega) (fun g2 w3 hB2 hg2 hl2=>?_)
  replace hB2:Bl w3 g2 5 (([UInt8.ofNat (IntKind.wrap .u8 (shrV .i64 ((l.getD i.toNat []).length:Int) 24)).toNat,UInt8.ofNat (IntKind.wrap .u8 (shrV .i64 ((l.getD i.toNat []).length:Int) 16)).toNat,UInt8.ofNat (IntKind.wrap .u8 (shrV .i64 ((l.getD i.toNat []).length:Int) 8)).toNat,UInt8.ofNat (IntKind.wrap .u8 ((l.getD i.toNat []).length:Int)).toNat]:List UInt8).map vb):=Bl.cast (lcons (byte_eq' h2) (lcons (byte_eq' h3) (lcons (byte_eq' h4) (lcons (byte_eq' h5) lnil)))) hB2
  have hO1:Own vb w3 w.heap.size 5 (some ⟨g2,0,none⟩) 4 ([UInt8.ofNat (IntKind.wrap .u8 (shrV .i64 ((l.getD i.toNat []).length:Int) 24)).toNat,UInt8.ofNat (IntKind.wrap .u8 (shrV .i64 ((l.getD i.toNat []).length:Int) 16)).toNat,UInt8.ofNat (IntKind.wrap .u8 (shrV .i64 ((l.getD i.toNat []).length:Int) 8)).toNat,UInt8.ofNat (IntKind.wrap .u8 ((l.getD i.toNat []).length:Int)).toNat]:List UInt8):=Own.ofBl hB2 (Nat.le_trans (qF gr2) hl2) (by simp [maxLen]) rfl
  have gr3:=qE gr2 hg2
  have k3:=k1.g0 hg2
  have k4:=k2.grown hg2
  obtain ⟨h6,H⟩:=H
  refine zG qD rfl rfl One.b k4 rfl rfl hO1.rd rfl rfl h6 (qN h6) (qF gr3) (fun i9 l0 w4 hO2 hg3 hk1=>?_)
  have gr4:=qH gr3 hg3 k4.ge'
  have k5:=k3.go hg3 dj1
  refine yp (h:=(zd (za (zb (yp (h:=(yp (h:=(yp (h:=?_))))))))))
  obtain ⟨h7,H⟩:=H
  refine zi rfl (zn qD (hl.grown gr4) rfl rfl rfl rfl h7.1 h7.2) (zi rfl (zo [] qD (hl.grown gr4) rfl rfl (iltN h7 rfl)) ?_)
  obtain ⟨h8,H⟩:=H
  refine qj qD rfl rfl rfl hO2 rfl rfl rfl h8 (qN h8) (qF gr4) (fun d8 e7 w5 hO3 hg4 hk2=>yp (h:=(zd (zg (za (zb (yp (h:=?_))))))))
  obtain ⟨h9,H⟩:=H
  exact zi rfl (Yld.add rfl rfl h9) (yp (h:=(zd (zw _ ⟨(m++([UInt8.ofNat (IntKind.wrap .u8 (shrV .i64 ((l.getD i.toNat []).length:Int) 24)).toNat,UInt8.ofNat (IntKind.wrap .u8 (shrV .i64 ((l.getD i.toNat []).length:Int) 16)).toNat,UInt8.ofNat (IntKind.wrap .u8 (shrV .i64 ((l.getD i.toNat []).length:Int) 8)).toNat,UInt8.ofNat (IntKind.wrap .u8 ((l.getD i.toNat []).length:Int)).toNat]:List UInt8))++(l.getD i.toNat []),d8,e7,((m++([UInt8.ofNat (IntKind.wrap .u8 (shrV .i64 ((l.getD i.toNat []).length:Int) 24)).toNat,UInt8.ofNat (IntKind.wrap .u8 (shrV .i64 ((l.getD i.toNat []).length:Int) 16)).toNat,UInt8.ofNat (IntKind.wrap .u8 (shrV .i64 ((l.getD i.toNat []).length:Int) 8)).toNat,UInt8.ofNat (IntKind.wrap .u8 ((l.getD i.toNat []).length:Int)).toNat]:List UInt8))++(l.getD i.toNat [])).length,i+(1:Int),rfl,rfl,H.1,rfl,(qH gr4 hg4 hO2.ge'),(k5.go hg4 ((Dj.app dj1.symm k3.lt' hk1).symm)),hO3,(Dj.app (Dj.app dj1.symm k3.lt' hk1) k5.lt' hk2).symm⟩ sb H.2))))
 ·replace H:=H.2 (of_decide_eq_false b1)
  refine zz (zf (zf (zj (za (zc (zb (yp (h:=(zi rfl (Yld.b2s qD k2.rd rfl rfl rfl rfl rfl) (zr rfl rfl (W_smithyref1_Sum H) ?_))))))))))
  rintro _ w6 ⟨hg5,t39,rfl,H⟩
  exact zH (vs:=(a32 t39)) qD rfl rfl rfl (kt _) (k1.g0 hg5) rfl rfl (fun w7 hB3 hg6=>zd (za (zq (z7 qD rfl rfl rfl hB3 rfl ⟨(qH (qE gr2 hg5) hg6 (Ge.le (Ge.box hl1) (Nat.le_refl _))),t39,rfl,H⟩))))
set_option maxHeartbeats 8000000 in
theorem jW {w:World} {s:List UInt8} {K:(List UInt8)->Prop} (H:jj s K):Fn Tryz.prog 13 ⟨[.agg ⟨a32 s⟩]⟩ w (fun v w'=>w.grownBy w' none/\∃ (r:List UInt8),v=vs r/\K r):=by
 unfold jj at H
 refine Fn.enter (by kernel_rfl) Tryz.func13 rfl Tryz.ntmps13 rfl ?_
 refine zc (zb (WL.box (us:=(a32 s)) rfl rfl rfl (fun g1 w1 hB1 hg1 hl1=>?_)))
 have gr1:=hg1
 refine yp (h:=(zd (za (zc (zb (yp (h:=(zd (za (zc (zb ?_)))))))))))
 obtain ⟨h1,H⟩:=H
 refine WL.makeCI (f:=vb) (B:=w.heap.size) qD rfl rfl rfl rfl h1.1 h1.2.1 h1.2.2 (qF gr1) (fun g2 w2 hO1 hg2 hl2=>yp (h:=(zd (za (zc (zc (zb (yp (h:=(zd (za (WC.block ?_))))))))))))
 obtain ⟨I1,mu1,b0,HR1⟩:=H
 refine zA (fun n' L' w'=>∃ (out:List UInt8),∃ (a8:Option Addr),∃ (a9:Nat),∃ (c4:Nat),∃ (i:Int),n'=mu1 out i/\L'=[(1,.pointer (some ⟨g1,0,none⟩)),(3,vs ([48,49,50,51,52,53,54,55,56,57,97,98,99,100,101,102]:List UInt8)),(4,.slice a8 c4 a9),(5,.int .i64 i)]/\I1 out i/\c4=out.length/\w.grownBy w' none/\Bl w' g1 44 (a32 s)/\Own vb w' w.heap.size 5 a8 a9 out/\Dj (some g1) (blk a8)) _ _ ⟨([]:List UInt8),(some ⟨g2,0,none⟩),64,0,(0:Int),rfl,rfl,b0,rfl,(qE gr1 hg2),(hB1.g0 hg2),hO1,(Dj.new hB1.lt' (Ge.box hl2))⟩ sb ?_
 clear b0
 rintro _ _ w3 ⟨out,a8,a9,c4,i,rfl,rfl,hI1,rfl,gr3,k2,k3,dj1⟩
 have H:=HR1 out i hI1
 refine zc (zc (zb (yp (h:=(yp (h:=(zd (za (zk rfl (fun b1=>?_) (fun b1=>?_))))))))))
 ·replace H:=H.1 (of_decide_eq_true b1)
  refine zm (za (zc (WC.block (zO (fun k => !(Nat.beq k 13 || Nat.beq k 14)) (LD [4,10] (fun w'=>Bl w' g1 44 (a32 s))) mixed (by kernel_rfl) (fun k w' h _=>(jU h k2)) (zu rfl rfl (fun w' hw'=>ze qD rfl) (zu rfl rfl (fun w' hw'=>ze qD rfl) (zu rfl rfl (fun w' hw'=>ze qD rfl) ?_)))))))
  obtain ⟨h2,H⟩:=H
  refine zu rfl rfl (fun w' hw'=>zZ qD rfl rfl rfl h2.1 h2.2) (zu rfl rfl (fun w' hw'=>zt qD (hw' rfl) rfl rfl (a32_getO _ _ (lt32 h2))) (zu rfl rfl (fun w' hw'=>qd rfl rfl (by omega)) ?_))
  obtain ⟨h3,H⟩:=H
  refine zu rfl rfl (fun w' hw'=>qi qD rfl rfl rfl h3.1 h3.2) (zu rfl rfl (fun w' hw'=>ze qD rfl) (zu rfl rfl (fun w' hw'=>ze qD rfl) ?_))
  obtain ⟨h4,H⟩:=H
  refine zu rfl rfl (fun w' hw'=>zZ qD rfl rfl rfl h4.1 h4.2) (zu rfl rfl (fun w' hw'=>zt qD (hw' rfl) rfl rfl (a32_getO _ _ (lt32 h4))) (zu rfl rfl (fun w' hw'=>ze qD rfl) ?_))
  obtain ⟨h5,H⟩:=H
  refine zu rfl rfl (fun w' hw'=>qi qD rfl rfl rfl h5.1 h5.2) (z6 rfl (qI) rfl (Eff.lit qD rfl rfl (qG rfl (qG rfl qR)) rfl (by omega)) (fun v w' ⟨_,_,h⟩=>DD.keep (Bl.g0 k2 (qQ h (Eqv.refl _)))) ?_)
  rintro _ w4 ⟨rfl,hB2,hg3⟩
  obtain ⟨l1,hl3⟩:∃ g,g=w3.heap.size:=⟨_,rfl⟩
  rw [<-hl3] at hB2
  rw [<-hl3]
  have hO2:Own vb w4 w.heap.size 5 (some ⟨l1,0,none⟩) 2 ([([48,49,50,51,52,53,54,55,56,57,97,98,99,100,101,102]:List UInt8).getD (shrV .u8 ((s.getD i.toNat 0).toNat:Int) 4).toNat 0,([48,49,50,51,52,53,54,55,56,57,97,98,99,100,101,102]:List UInt8).getD (bits .and .u8 ((s.getD i.toNat 0).toNat:Int) (15:Int)).toNat 0]:List UInt8):=Own.ofBl hB2 (Nat.le_trans (qF gr3) (Nat.le_of_eq hl3.symm)) (by simp [maxLen]) rfl
  have gr4:=qE gr3 hg3
  have k4:=k2.g0 hg3
  have k5:=k3.grown hg3
  obtain ⟨h6,H⟩:=H
  refine z6 rfl (qI) rfl (Eff.append qD rfl One.b k5 rfl rfl hO2.rd rfl rfl h6 (qN h6) (qF gr4)) (fun v w' ⟨_,_,_,_,h,_⟩=>DD.keep (Bl.go k4 (qQ h (Eqv.refl _)) dj1)) ?_
  rintro _ w5 ⟨c1,c3,rfl,hO3,hg4,hk1⟩
  refine zu rfl rfl (fun w' hw'=>ze qD rfl) (zX (zg (za (zb (yp (h:=?_))))))
  obtain ⟨h7,H⟩:=H
  exact zi rfl (Yld.add rfl rfl h7) (yp (h:=(zd (zw _ ⟨out++([([48,49,50,51,52,53,54,55,56,57,97,98,99,100,101,102]:List UInt8).getD (shrV .u8 ((s.getD i.toNat 0).toNat:Int) 4).toNat 0,([48,49,50,51,52,53,54,55,56,57,97,98,99,100,101,102]:List UInt8).getD (bits .and .u8 ((s.getD i.toNat 0).toNat:Int) (15:Int)).toNat 0]:List UInt8),c1,c3,(out++([([48,49,50,51,52,53,54,55,56,57,97,98,99,100,101,102]:List UInt8).getD (shrV .u8 ((s.getD i.toNat 0).toNat:Int) 4).toNat 0,([48,49,50,51,52,53,54,55,56,57,97,98,99,100,101,102]:List UInt8).getD (bits .and .u8 ((s.getD i.toNat 0).toNat:Int) (15:Int)).toNat 0]:List UInt8)).length,i+(1:Int),rfl,rfl,H.1,rfl,(qH gr4 hg4 k5.ge'),(k4.go hg4 dj1),hO3,(Dj.app dj1.symm k4.lt' hk1).symm⟩ sb H.2))))
 ·replace H:=H.2 (of_decide_eq_false b1)
  exact zz (zf (zf (zj (za (zc (zb (yp (h:=(zi rfl (Yld.b2s qD k3.rd rfl rfl rfl rfl rfl) (yp (h:=(zd (za (zq (zx rfl rfl ⟨gr3,out,rfl,H⟩)))))))))))))))
set_option maxHeartbeats 8000000 in
theorem W_smithyref11_bound {w:World} {n:Int} {i:Int} {K:Int->Prop} (H:jK n i K):Fn Tryz.prog 164 ⟨[.int .i64 n,.int .i64 i]⟩ w (fun v w'=>w=w'/\∃ (r:Int),v=.int .i64 r/\K r):=by
 unfold jK at H
 refine Fn.enter (by kernel_rfl) Tryz.func164 rfl Tryz.ntmps164 rfl ?_
 refine zc (zb (yp (h:=(zd (za (zc (zc (zb (yp (h:=(yp (h:=(zd (za (zk rfl (fun b1=>?_) (fun b1=>?_))))))))))))))))
 ·replace H:=H.1 (of_decide_eq_true b1)
  refine zc (zc (zb (yp (h:=(yp (h:=?_))))))
  obtain ⟨h1,H⟩:=H
  refine zi rfl (Yld.neg qD rfl h1) (yp (h:=(zd (za (zk rfl (fun b2=>?_) (fun b2=>?_))))))
  ·replace H:=H.1 (of_decide_eq_true b2)
   exact zc (zb (yp (h:=(zd (za (zq (zh (zh (zx rfl rfl ⟨rfl,(0:Int),rfl,H⟩)))))))))
  ·replace H:=H.2 (of_decide_eq_false b2)
   refine zm (za (zc (zb (yp (h:=(yp (h:=?_)))))))
   obtain ⟨h2,H⟩:=H
   exact zi rfl (Yld.add rfl rfl h2) (yp (h:=(zd (za (zq (zh (zx rfl rfl ⟨rfl,n+i,rfl,H⟩)))))))
 ·replace H:=H.2 (of_decide_eq_false b1)
  exact zm (za (zc (zb (yp (h:=(yp (h:=(zi rfl (Yld.min2 rfl rfl) (yp (h:=(zd (za (zq (zx rfl rfl ⟨rfl,(if n<i then n else i),rfl,H⟩))))))))))))))
set_option maxHeartbeats 8000000 in
theorem W_smithyref11_at {w:World} {s:List UInt8} {what:List UInt8} {i:Int} {K:Bool->Prop} (H:M_smithyref11_at s what i K):Fn Tryz.prog 141 ⟨[vs s,vs what,.int .i64 i]⟩ w (fun v w'=>w=w'/\∃ (r:Bool),v=.bool r/\K r):=by
 unfold M_smithyref11_at at H
 refine Fn.enter (by kernel_rfl) Tryz.func141 rfl Tryz.ntmps141 rfl ?_
 refine zc (zb (yp (h:=(zd (za (zc (zb (yp (h:=(yp (h:=(yp (h:=?_)))))))))))))
 obtain ⟨h1,H⟩:=H
 refine zi rfl (Yld.sub rfl rfl h1) (yp (h:=(yp (h:=(yp (h:=(yp (h:=?_))))))))
 obtain ⟨h2,H⟩:=H
 obtain ⟨h3,H⟩:=H
 refine zD 10 (fun L' w'=>∃ q1:Bool,L'=[(24,.bool q1)]/\((decide ((what.length:Int)<=((s.length:Int) - i))) && (decide (((s.drop i.toNat).take ((i+(what.length:Int)).toNat - i.toNat))=what)))=q1/\w=w') ?_ (fun hQ=>?_)
 ·rintro _ _ ⟨q1,rfl,rfl,rfl⟩
  exact yp (h:=(zd (za (zq (zx rfl rfl ⟨rfl,(decide ((what.length:Int)<=((s.length:Int) - i))) && (decide (((s.drop i.toNat).take ((i+(what.length:Int)).toNat - i.toNat))=what)),rfl,H⟩)))))
 ·clear H
  rcases Bool.eq_false_or_eq_true (decide ((what.length:Int)<=((s.length:Int) - i))) with b1 | b1
  ·exact gp b1 (h:=(gp b1 (h:=(gp b1 (h:=(gp b1 (h:=(gp b1 (h:=(zC rfl rfl (okb b1) rfl (Yld.add rfl rfl (h2 b1)) (zC rfl rfl (okb b1) rfl (qu qD rfl rfl rfl rfl (h3 b1).1 (h3 b1).2.1 (h3 b1).2.2) (gp b1 (h:=(gp b1 (h:=(zi rfl (zy (okb b1) rfl) (wk (hQ _ _ ⟨decide (((s.drop i.toNat).take ((i+(what.length:Int)).toNat - i.toNat))=what),rfl,by rw [b1] <;> rfl,rfl⟩))))))))))))))))))
  ·exact gn b1 (h:=(gn b1 (h:=(gn b1 (h:=(gn b1 (h:=(gn b1 (h:=(gn b1 (h:=(gn b1 (h:=(gn b1 (h:=(gn b1 (h:=(zi rfl (zv (okb b1) rfl) (wk (hQ _ _ ⟨false,rfl,by rw [b1] <;> rfl,rfl⟩))))))))))))))))))))
set_option maxHeartbeats 8000000 in
theorem W_smithyref11_Cut {w:World} {n:Int} {from_:Int} {to_:Int} {has:Bool} {until_:Bool} {K:Int->Int->Prop} (H:km n from_ to_ has until_ K):Fn Tryz.prog 140 ⟨[.int .i64 n,.int .i64 from_,.int .i64 to_,.bool has,.bool until_]⟩ w (fun v w'=>w=w'/\∃ (r0:Int),∃ (r1:Int),v=.tuple #[.int .i64 r0,.int .i64 r1]/\K r0 r1):=by
 unfold km at H
 refine Fn.enter (by kernel_rfl) Tryz.func140 rfl Tryz.ntmps140 rfl ?_
 refine zc (zb (yp (h:=(yp (h:=(zd (za (zc (zb (yp (h:=(yp (h:=(zr rfl rfl (W_smithyref11_bound H) ?_))))))))))))))
 rintro _ _ ⟨rfl,a,rfl,H⟩
 refine yp (h:=(zd (za (zc (zb (yp (h:=(yp (h:=(zr rfl rfl (W_smithyref11_bound H) ?_))))))))))
 rintro _ _ ⟨rfl,b,rfl,H⟩
 refine yp (h:=(zd (za (zc ?_))))
 obtain ⟨J1,H,hJ1⟩:=H
 refine zL (fun L' w'=>∃ (a2:Int),L'=[(0,.int .i64 n),(4,.bool until_),(12,.int .i64 a2),(13,.int .i64 b)]/\J1 a2/\w=w') ?_ (fun hQ=>?_)
 ·clear H
  rintro _ _ ⟨a2,rfl,H,rfl⟩
  replace H:=hJ1 a2 H
  refine za (zc ?_)
  obtain ⟨J2,H,hJ2⟩:=H
  refine zL (fun L' w'=>∃ (b_2:Int),L'=[(12,.int .i64 a2),(13,.int .i64 b_2)]/\J2 b_2/\w=w') ?_ (fun hQ=>?_)
  ·clear H
   rintro _ _ ⟨b_2,rfl,H,rfl⟩
   replace H:=hJ2 b_2 H
   exact za (zc (zb (yp (h:=(yp (h:=(yp (h:=(zi rfl (Yld.max2 rfl rfl) (yp (h:=(yp (h:=(zd (za (zq (zM rfl rfl rfl ⟨rfl,a2,(if a2<b_2 then b_2 else a2),rfl,H⟩)))))))))))))))))
  ·clear hJ2
   refine zc (zb (yp (h:=(yp (h:=(zd (za (zk rfl (fun b1=>?_) (fun b1=>?_)))))))))
   ·replace H:=H.1 (b1)
    exact zb (yp (h:=(yp (h:=(zd (WX.weaken sb (hQ _ _ ⟨n,rfl,H,rfl⟩)))))))
   ·replace H:=H.2 (b1)
    exact zm (WX.weaken sb (hQ _ _ ⟨b,rfl,H,rfl⟩))
 ·clear hJ1
  refine zc (zb (yp (h:=(yp (h:=(zd (za (zk rfl (fun b2=>?_) (fun b2=>?_)))))))))
  ·replace H:=H.1 (b2)
   exact zb (yp (h:=(zd (WX.weaken sb (hQ _ _ ⟨(0:Int),rfl,H,rfl⟩)))))
  ·replace H:=H.2 (b2)
   exact zm (WX.weaken sb (hQ _ _ ⟨a,rfl,H,rfl⟩))
set_option maxHeartbeats 8000000 in
theorem W_smithyref11_Find {w:World} {s:List UInt8} {what:List UInt8} {from_:Int} {to_:Int} {K:Int->Prop} (H:jY s what from_ to_ K):Fn Tryz.prog 105 ⟨[vs s,vs what,.int .i64 from_,.int .i64 to_]⟩ w (fun v w'=>w=w'/\∃ (r:Int),v=.int .i64 r/\K r):=by
 unfold jY at H
 refine Fn.enter (by kernel_rfl) Tryz.func105 rfl Tryz.ntmps105 rfl ?_
 refine zc (zb (yp (h:=(zd (za (zc (zb (yp (h:=(yp (h:=(yp (h:=(yp (h:=(zr rfl rfl (W_smithyref11_Cut H) ?_))))))))))))))))
 rintro _ _ ⟨rfl,t170,t171,rfl,H⟩
 refine yp (h:=(yp (h:=(yp (h:=(yp (h:=(yp (h:=(zd (za (zc (zc (zb (yp (h:=(yp (h:=(zd (za (WC.block ?_)))))))))))))))))))))
 obtain ⟨I1,mu1,b0,HR1⟩:=H
 refine zA (fun n' L' w'=>∃ (i:Int),n'=mu1 i/\L'=[(0,vs s),(1,vs what),(10,.int .i64 t171),(11,.int .i64 i)]/\I1 i/\w=w') _ _ ⟨t170,rfl,rfl,b0,rfl⟩ sb ?_
 clear b0
 rintro _ _ _ ⟨i,rfl,rfl,hI1,rfl⟩
 have H:=HR1 i hI1
 refine zc (zc (zb (yp (h:=(yp (h:=(yp (h:=(yp (h:=?_))))))))))
 obtain ⟨h1,H⟩:=H
 refine zi rfl (Yld.sub rfl rfl h1) (yp (h:=(zd (za (zk rfl (fun b1=>?_) (fun b1=>?_))))))
 ·replace H:=H.1 (of_decide_eq_true b1)
  refine zm (za (zc (WC.block (zc (zb (yp (h:=(yp (h:=(yp (h:=(zr rfl rfl (W_smithyref11_at H) ?_))))))))))))
  rintro _ _ ⟨rfl,t32,rfl,H⟩
  refine zd (za (zk rfl (fun b2=>?_) (fun b2=>?_)))
  ·replace H:=H.1 (b2)
   exact zc (zb (yp (h:=(yp (h:=(zd (za (zq (zp (zh (zh (zp (zh (zx rfl rfl ⟨rfl,i,rfl,H⟩))))))))))))))
  ·replace H:=H.2 (b2)
   refine zm (zg (za (zb (yp (h:=?_)))))
   obtain ⟨h2,H⟩:=H
   exact zi rfl (Yld.add rfl rfl h2) (yp (h:=(zd (zw _ ⟨i+(1:Int),rfl,rfl,H.1,rfl⟩ sb H.2))))
 ·replace H:=H.2 (of_decide_eq_false b1)
  exact zz (zf (zf (zj (za (zc (zb (yp (h:=(zd (za (zq (zx rfl rfl ⟨rfl,(-1:Int),rfl,H⟩))))))))))))
set_option maxHeartbeats 8000000 in
theorem W_smithyref17_Lines {w:World} {s:List UInt8} {K:(List (List UInt8))->Prop} (H:ky s K):Fn Tryz.prog 139 ⟨[vs s]⟩ w (fun v w'=>w.grownBy w' none/\∃ (r:List (List UInt8)),∃ (A_r:Option Addr),∃ (c_r:Nat),v=.slice A_r r.length c_r/\Own vs w' w.heap.size 9 A_r c_r r/\K r):=by
 unfold ky at H
 refine Fn.enter (by kernel_rfl) Tryz.func139 rfl Tryz.ntmps139 rfl ?_
 refine zc (zb (yp (h:=(zd (za (zc (zb (yp (h:=(zd (za (zc (zb (yp (h:=(zd (za (zc (zc (zb (yp (h:=(zd (za (WC.block ?_)))))))))))))))))))))))))
 obtain ⟨I1,mu1,b0,HR1⟩:=H
 refine zA (fun n' L' w'=>∃ (l:List (List UInt8)),∃ (A_l:Option Addr),∃ (c_l:Nat),∃ (n_l:Nat),∃ (from_:Int),∃ (i:Int),n'=mu1 l from_ i/\L'=[(0,vs s),(3,.slice A_l n_l c_l),(4,.int .i64 from_),(5,.int .i64 i)]/\I1 l from_ i/\n_l=l.length/\w.grownBy w' none/\Own vs w' w.heap.size 9 A_l c_l l) _ _ ⟨[],none,0,0,(0:Int),(0:Int),rfl,rfl,b0,rfl,(qK _ _),(Own.nil vs w w.heap.size 9)⟩ sb ?_
 clear b0
 rintro _ _ w1 ⟨l,A_l,c_l,n_l,from_,i,rfl,rfl,hI1,rfl,gr1,k1⟩
 have H:=HR1 l from_ i hI1
 refine zc (zc (zb (yp (h:=(yp (h:=(yp (h:=(yp (h:=(zd (za (zk rfl (fun b1=>?_) (fun b1=>?_))))))))))))))
 ·replace H:=H.1 (of_decide_eq_true b1)
  refine zm (za (zc ?_))
  obtain ⟨J1,H,hJ1⟩:=H
  refine zL (fun L' w'=>∃ (l2:List (List UInt8)),∃ (d7:Option Addr),∃ (d9:Nat),∃ (i1:Nat),∃ (from_2:Int),L'=[(0,vs s),(3,.slice d7 i1 d9),(4,.int .i64 from_2),(5,.int .i64 i)]/\J1 l2 from_2/\i1=l2.length/\w.grownBy w' none/\Own vs w' w.heap.size 9 d7 d9 l2) ?_ (fun hQ=>?_)
  ·clear H
   rintro _ w2 ⟨l2,d7,d9,i1,from_2,rfl,H,rfl,gr2,k2⟩
   replace H:=hJ1 l2 from_2 H
   refine za (zb (yp (h:=?_)))
   obtain ⟨h1,H⟩:=H
   exact zi rfl (Yld.add rfl rfl h1) (yp (h:=(zd (zw _ ⟨l2,d7,d9,l2.length,from_2,i+(1:Int),rfl,rfl,H.1,rfl,gr2,k2⟩ sb H.2))))
  ·clear hJ1
   refine WC.block (zc (zb (yp (h:=(yp (h:=?_))))))
   obtain ⟨h2,H⟩:=H
   refine zi rfl (qi qD rfl rfl rfl h2.1 h2.2) (yp (h:=(zd (za (zk rfl (fun b2=>?_) (fun b2=>?_))))))
   ·replace H:=H.1 (of_decide_eq_true b2)
    refine zc (zb (yp (h:=(yp (h:=(yp (h:=(yp (h:=?_)))))))))
    obtain ⟨h3,H⟩:=H
    refine zi rfl (qu qD rfl rfl rfl rfl h3.1 h3.2.1 h3.2.2) (zP qD rfl rfl rfl (qG rfl qR) rfl (by omega) (fun g1 w3 hB1 hg1 hl1=>?_))
    have hO1:Own vs w3 w.heap.size 9 (some ⟨g1,0,none⟩) 1 ([(s.drop from_.toNat).take (i.toNat - from_.toNat)]:List (List UInt8)):=Own.ofBl hB1 (Nat.le_trans (qF gr1) hl1) (by simp [maxLen]) rfl
    have gr3:=qE gr1 hg1
    have k3:=k1.grown hg1
    obtain ⟨h4,H⟩:=H
    refine zG qD rfl rfl One.s k3 rfl rfl hO1.rd rfl rfl h4 (qN h4) (qF gr3) (fun f7 f9 w4 hO2 hg2 hk1=>yp (h:=(zd (za (zb (yp (h:=?_)))))))
    obtain ⟨h5,H⟩:=H
    exact zi rfl (Yld.add rfl rfl h5) (yp (h:=(zd (zg (WX.weaken sb (hQ _ _ ⟨l++([(s.drop from_.toNat).take (i.toNat - from_.toNat)]:List (List UInt8)),f7,f9,(l++([(s.drop from_.toNat).take (i.toNat - from_.toNat)]:List (List UInt8))).length,i+(1:Int),rfl,H,rfl,(qH gr3 hg2 k3.ge'),hO2⟩))))))
   ·replace H:=H.2 (of_decide_eq_false b2)
    exact zm (zg (WX.weaken sb (hQ _ _ ⟨l,A_l,c_l,l.length,from_,rfl,H,rfl,gr1,k1⟩)))
 ·replace H:=H.2 (of_decide_eq_false b1)
  refine zz (zf (zf (zj (za (zc ?_)))))
  obtain ⟨J2,H,hJ2⟩:=H
  refine zL (fun L' w'=>∃ (l3:List (List UInt8)),∃ (f5:Option Addr),∃ (f6:Nat),∃ (i7:Nat),L'=[(3,.slice f5 i7 f6)]/\J2 l3/\i7=l3.length/\w.grownBy w' none/\Own vs w' w.heap.size 9 f5 f6 l3) ?_ (fun hQ=>?_)
  ·clear H
   rintro _ w5 ⟨l3,f5,f6,i7,rfl,H,rfl,gr5,k4⟩
   replace H:=hJ2 l3 H
   exact za (zc (zb (yp (h:=(yp (h:=(zd (za (zq (zx rfl rfl ⟨gr5,l3,f5,f6,rfl,k4,H⟩))))))))))
  ·clear hJ2
   refine zc (zb (yp (h:=(yp (h:=(yp (h:=(yp (h:=(zd (za (zk rfl (fun b3=>?_) (fun b3=>?_)))))))))))))
   ·replace H:=H.1 (of_decide_eq_true b3)
    refine zb (yp (h:=(yp (h:=(yp (h:=?_))))))
    obtain ⟨h6,H⟩:=H
    refine zi rfl (Yld.scutF qD rfl rfl rfl h6.1 h6.2) (zP qD rfl rfl rfl (qG rfl qR) rfl (by omega) (fun g2 w6 hB2 hg3 hl2=>?_))
    have hO3:Own vs w6 w.heap.size 9 (some ⟨g2,0,none⟩) 1 ([s.drop from_.toNat]:List (List UInt8)):=Own.ofBl hB2 (Nat.le_trans (qF gr1) hl2) (by simp [maxLen]) rfl
    have gr6:=qE gr1 hg3
    have k5:=k1.grown hg3
    obtain ⟨h7,H⟩:=H
    exact zG qD rfl rfl One.s k5 rfl rfl hO3.rd rfl rfl h7 (qN h7) (qF gr6) (fun m4 n0 w7 hO4 hg4 hk2=>yp (h:=(zd (WX.weaken sb (hQ _ _ ⟨l++([s.drop from_.toNat]:List (List UInt8)),m4,n0,(l++([s.drop from_.toNat]:List (List UInt8))).length,rfl,H,rfl,(qH gr6 hg4 k5.ge'),hO4⟩)))))
   ·replace H:=H.2 (of_decide_eq_false b3)
    exact zm (WX.weaken sb (hQ _ _ ⟨l,A_l,c_l,l.length,rfl,H,rfl,gr1,k1⟩))
set_option maxHeartbeats 8000000 in
theorem W_smithyref17_lines {w:World} {inputs:List (List UInt8)} {a0:Option Addr} {a1:Nat} {a5:Nat} {K:(List (List UInt8))->Prop} (hinputs:Rd vs w a0 a1 inputs) (a6:a5=inputs.length) (H:jM inputs K):Fn Tryz.prog 104 ⟨[.slice a0 a5 a1]⟩ w (fun v w'=>w.grownBy w' none/\∃ (r:List (List UInt8)),∃ (A_r:Option Addr),∃ (c_r:Nat),v=.slice A_r r.length c_r/\Own vs w' w.heap.size 9 A_r c_r r/\K r):=by
 subst a6
 unfold jM at H
 refine Fn.enter (by kernel_rfl) Tryz.func104 rfl Tryz.ntmps104 rfl ?_
 replace H:=H (Nat.le_trans hinputs.cap hinputs.max)
 refine zc (zb (yp (h:=(zd (za (zc (zb (yp (h:=(zd (za (zc (zc (zb (yp (h:=(zd (za (WC.block ?_)))))))))))))))))))
 obtain ⟨I1,mu1,b0,HR1⟩:=H
 refine zA (fun n' L' w'=>∃ (out:List (List UInt8)),∃ (a8:Option Addr),∃ (a9:Nat),∃ (c4:Nat),∃ (i:Int),n'=mu1 out i/\L'=[(0,.slice a0 inputs.length a1),(3,.slice a8 c4 a9),(4,.int .i64 i)]/\I1 out i/\c4=out.length/\w.grownBy w' none/\Own vs w' w.heap.size 9 a8 a9 out) _ _ ⟨[],none,0,0,(0:Int),rfl,rfl,b0,rfl,(qK _ _),(Own.nil vs w w.heap.size 9)⟩ sb ?_
 clear b0
 rintro _ _ w1 ⟨out,a8,a9,c4,i,rfl,rfl,hI1,rfl,gr1,k1⟩
 have H:=HR1 out i hI1
 refine zc (zc (zb (yp (h:=(yp (h:=(yp (h:=(yp (h:=(zd (za (zk rfl (fun b1=>?_) (fun b1=>?_))))))))))))))
 ·replace H:=H.1 (of_decide_eq_true b1)
  refine zm (za (zc (WC.block (zb (yp (h:=(yp (h:=(yp (h:=?_))))))))))
  obtain ⟨h1,H⟩:=H
  refine zi rfl (zn qD (hinputs.grown gr1) rfl rfl rfl rfl h1.1 h1.2) (zi rfl (zo [] qD (hinputs.grown gr1) rfl rfl (iltN h1 rfl)) (zr rfl rfl (W_smithyref17_Lines H) ?_))
  rintro _ w2 ⟨hg1,t16,n6,n8,rfl,ht16,H⟩
  have hb1:=ht16.ge'
  have gr2:=qE gr1 hg1
  have k3:=k1.grown hg1
  obtain ⟨h2,H⟩:=H
  refine zG qD rfl rfl One.s k3 rfl rfl (ht16.base (fun g hg=>Nat.le_trans (qF gr1) (hb1 g hg))).rd rfl rfl h2 (qN h2) (qF gr2) (fun c1 c3 w3 hO1 hg2 hk1=>yp (h:=(zd (zg (za (zb (yp (h:=?_))))))))
  obtain ⟨h3,H⟩:=H
  exact zi rfl (Yld.add rfl rfl h3) (yp (h:=(zd (zw _ ⟨out++t16,c1,c3,(out++t16).length,i+(1:Int),rfl,rfl,H.1,rfl,(qH gr2 hg2 k3.ge'),hO1⟩ sb H.2))))
 ·replace H:=H.2 (of_decide_eq_false b1)
  exact zz (zf (zf (zj (za (zc (zb (yp (h:=(yp (h:=(zd (za (zq (zx rfl rfl ⟨gr1,out,a8,a9,rfl,k1,H⟩))))))))))))))
set_option maxHeartbeats 8000000 in
theorem Zd {w:World} {l:List (List UInt8)} {A_l:Option Addr} {c_l:Nat} {n_l:Nat} {K:(List UInt8)->Prop} (hl:Rd vs w A_l c_l l) (f4:n_l=l.length) (H:jn l K):Fn Tryz.prog 106 ⟨[.slice A_l n_l c_l]⟩ w (fun v w'=>w.grownBy w' none/\∃ (r:List UInt8),v=vs r/\K r):=by
 subst f4
 unfold jn at H
 refine Fn.enter (by kernel_rfl) Tryz.func106 rfl Tryz.ntmps106 rfl ?_
 replace H:=H (Nat.le_trans hl.cap hl.max)
 refine zc (zb (yp (h:=(zd (za (zc (zb (yp (h:=(zd (za (zc (zc (zb (yp (h:=(zd (za (WC.block ?_)))))))))))))))))))
 obtain ⟨I1,mu1,b0,HR1⟩:=H
 refine zA (fun n' L' w'=>∃ (b:List UInt8),∃ (A_b:Option Addr),∃ (c_b:Nat),∃ (n_b:Nat),∃ (i:Int),n'=mu1 b i/\L'=[(0,.slice A_l l.length c_l),(3,.slice A_b n_b c_b),(4,.int .i64 i)]/\I1 b i/\n_b=b.length/\w.grownBy w' none/\Own vb w' w.heap.size 5 A_b c_b b) _ _ ⟨[],none,0,0,(0:Int),rfl,rfl,b0,rfl,(qK _ _),(Own.nil vb w w.heap.size 5)⟩ sb ?_
 clear b0
 rintro _ _ w1 ⟨b,A_b,c_b,n_b,i,rfl,rfl,hI1,rfl,gr1,k1⟩
 have H:=HR1 b i hI1
 refine zc (zc (zb (yp (h:=(yp (h:=(yp (h:=(yp (h:=(zd (za (zk rfl (fun b1=>?_) (fun b1=>?_))))))))))))))
 ·replace H:=H.1 (of_decide_eq_true b1)
  refine zm (za (zc (WC.block (zc (zb (yp (h:=(yp (h:=(yp (h:=?_)))))))))))
  obtain ⟨h1,H⟩:=H
  refine zi rfl (zn qD (hl.grown gr1) rfl rfl rfl rfl h1.1 h1.2) (zi rfl (zo [] qD (hl.grown gr1) rfl rfl (iltN h1 rfl)) ?_)
  obtain ⟨h2,H⟩:=H
  refine qj qD rfl rfl rfl k1 rfl rfl rfl h2 (qN h2) (qF gr1) (fun e4 e6 w2 hO1 hg1 hk1=>?_)
  have gr2:=qH gr1 hg1 k1.ge'
  refine yp (h:=(zd (za (zb (yp (h:=(zP qD rfl rfl rfl (qG rfl qR) rfl (by omega) (fun g1 w3 hB1 hg2 hl1=>?_))))))))
  have hO2:Own vb w3 w.heap.size 5 (some ⟨g1,0,none⟩) 1 ([10]:List UInt8):=Own.ofBl hB1 (Nat.le_trans (qF gr2) hl1) (by simp [maxLen]) rfl
  have gr3:=qE gr2 hg2
  have k2:=hO1.grown hg2
  obtain ⟨h3,H⟩:=H
  refine zG qD rfl rfl One.b k2 rfl rfl hO2.rd rfl rfl h3 (qN h3) (qF gr3) (fun e9 f0 w4 hO3 hg3 hk2=>yp (h:=(zd (zg (za (zb (yp (h:=?_))))))))
  obtain ⟨h4,H⟩:=H
  exact zi rfl (Yld.add rfl rfl h4) (yp (h:=(zd (zw _ ⟨(b++(l.getD i.toNat []))++([10]:List UInt8),e9,f0,((b++(l.getD i.toNat []))++([10]:List UInt8)).length,i+(1:Int),rfl,rfl,H.1,rfl,(qH gr3 hg3 k2.ge'),hO3⟩ sb H.2))))
 ·replace H:=H.2 (of_decide_eq_false b1)
  exact zz (zf (zf (zj (za (zc (zb (yp (h:=(zi rfl (Yld.b2s qD k1.rd rfl rfl rfl rfl rfl) (yp (h:=(zd (za (zq (zx rfl rfl ⟨gr1,b,rfl,H⟩)))))))))))))))
set_option maxHeartbeats 8000000 in
theorem W_smithyref17_concat {w:World} {by_:List UInt8} {l:List (List UInt8)} {A_l:Option Addr} {c_l:Nat} {n_l:Nat} {K:(List UInt8)->Prop} (hl:Rd vs w A_l c_l l) (f4:n_l=l.length) (H:jD by_ l K):Fn Tryz.prog 103 ⟨[vs by_,.slice A_l n_l c_l]⟩ w (fun v w'=>w.grownBy w' none/\∃ (r:List UInt8),v=vs r/\K r):=by
 subst f4
 unfold jD at H
 refine Fn.enter (by kernel_rfl) Tryz.func103 rfl Tryz.ntmps103 rfl ?_
 replace H:=H (Nat.le_trans hl.cap hl.max)
 refine zc (zb (yp (h:=(zd (za (zc (zb (yp (h:=(zd (za (zc (zc (zb (yp (h:=(zd (za (WC.block ?_)))))))))))))))))))
 obtain ⟨I1,mu1,b0,HR1⟩:=H
 refine zA (fun n' L' w'=>∃ (b:List UInt8),∃ (A_b:Option Addr),∃ (c_b:Nat),∃ (n_b:Nat),∃ (i:Int),n'=mu1 b i/\L'=[(0,vs by_),(1,.slice A_l l.length c_l),(5,.slice A_b n_b c_b),(6,.int .i64 i)]/\I1 b i/\n_b=b.length/\w.grownBy w' none/\Own vb w' w.heap.size 5 A_b c_b b) _ _ ⟨[],none,0,0,(0:Int),rfl,rfl,b0,rfl,(qK _ _),(Own.nil vb w w.heap.size 5)⟩ sb ?_
 clear b0
 rintro _ _ w1 ⟨b,A_b,c_b,n_b,i,rfl,rfl,hI1,rfl,gr1,k1⟩
 have H:=HR1 b i hI1
 refine zc (zc (zb (yp (h:=(yp (h:=(yp (h:=(yp (h:=(zd (za (zk rfl (fun b1=>?_) (fun b1=>?_))))))))))))))
 ·replace H:=H.1 (of_decide_eq_true b1)
  refine zm (za (zc (WC.block (zc ?_))))
  obtain ⟨J1,H,hJ1⟩:=H
  refine zL (fun L' w'=>∃ (b_2:List UInt8),∃ (e4:Option Addr),∃ (e6:Nat),∃ (i0:Nat),L'=[(0,vs by_),(1,.slice A_l l.length c_l),(5,.slice e4 i0 e6),(6,.int .i64 i)]/\J1 b_2/\i0=b_2.length/\w.grownBy w' none/\Own vb w' w.heap.size 5 e4 e6 b_2) ?_ (fun hQ=>?_)
  ·clear H
   rintro _ w2 ⟨b_2,e4,e6,i0,rfl,H,rfl,gr2,k2⟩
   replace H:=hJ1 b_2 H
   refine za (zb (yp (h:=(yp (h:=(yp (h:=?_)))))))
   obtain ⟨h1,H⟩:=H
   refine zi rfl (zn qD (hl.grown gr2) rfl rfl rfl rfl h1.1 h1.2) (zi rfl (zo [] qD (hl.grown gr2) rfl rfl (iltN h1 rfl)) ?_)
   obtain ⟨h2,H⟩:=H
   refine qj qD rfl rfl rfl k2 rfl rfl rfl h2 (qN h2) (qF gr2) (fun e9 f0 w3 hO1 hg1 hk1=>yp (h:=(zd (zg (za (zb (yp (h:=?_))))))))
   obtain ⟨h3,H⟩:=H
   exact zi rfl (Yld.add rfl rfl h3) (yp (h:=(zd (zw _ ⟨b_2++(l.getD i.toNat []),e9,f0,(b_2++(l.getD i.toNat [])).length,i+(1:Int),rfl,rfl,H.1,rfl,(qH gr2 hg1 k2.ge'),hO1⟩ sb H.2))))
  ·clear hJ1
   refine zc (zb (yp (h:=(yp (h:=(zd (za (zk rfl (fun b2=>?_) (fun b2=>?_)))))))))
   ·replace H:=H.1 (of_decide_eq_true b2)
    refine zb (yp (h:=(yp (h:=?_))))
    obtain ⟨h4,H⟩:=H
    exact qj qD rfl rfl rfl k1 rfl rfl rfl h4 (qN h4) (qF gr1) (fun m3 m9 w4 hO2 hg2 hk2=>yp (h:=(zd (WX.weaken sb (hQ _ _ ⟨b++by_,m3,m9,(b++by_).length,rfl,H,rfl,(qH gr1 hg2 k1.ge'),hO2⟩)))))
   ·replace H:=H.2 (of_decide_eq_false b2)
    exact zm (WX.weaken sb (hQ _ _ ⟨b,A_b,c_b,b.length,rfl,H,rfl,gr1,k1⟩))
 ·replace H:=H.2 (of_decide_eq_false b1)
  exact zz (zf (zf (zj (za (zc (zb (yp (h:=(zi rfl (Yld.b2s qD k1.rd rfl rfl rfl rfl rfl) (yp (h:=(zd (za (zq (zx rfl rfl ⟨gr1,b,rfl,H⟩)))))))))))))))
set_option maxHeartbeats 8000000 in
theorem W_smithyref17_substituted {w:World} {args:List (List UInt8)} {a3:Option Addr} {a4:Nat} {inputs:List (List UInt8)} {a0:Option Addr} {a1:Nat} {c0:Nat} {a5:Nat} {K:(List UInt8)->Bool->Prop} (hargs:Rd vs w a3 a4 args) (c2:c0=args.length) (hinputs:Rd vs w a0 a1 inputs) (a6:a5=inputs.length) (H:jB args inputs K):Fn Tryz.prog 107 ⟨[.slice a3 c0 a4,.slice a0 a5 a1]⟩ w (fun v w'=>w.grownBy w' none/\∃ (r0:List UInt8),∃ (r1:Bool),v=.tuple #[vs r0,.bool r1]/\K r0 r1):=by
 subst c2
 subst a6
 unfold jB at H
 refine Fn.enter (by kernel_rfl) Tryz.func107 rfl Tryz.ntmps107 rfl ?_
 replace H:=H (Nat.le_trans hargs.cap hargs.max)
 replace H:=H (Nat.le_trans hinputs.cap hinputs.max)
 refine zc (zb (yp (h:=(yp (h:=(zd (za (zc (zc (zb (yp (h:=(yp (h:=?_))))))))))))))
 obtain ⟨h1,H⟩:=H
 refine zi rfl (Yld.rem rfl rfl h1.1 h1.2) (yp (h:=(zd (za (zk rfl (fun b1=>?_) (fun b1=>?_))))))
 ·replace H:=H.1 (kN b1)
  exact zc (zb (yp (h:=(yp (h:=(zd (za (zq (zh (zM rfl rfl rfl ⟨(qK _ _),([]:List UInt8),false,rfl,H⟩))))))))))
 ·replace H:=H.2 (j9 b1)
  refine zm (za (zc (zb (yp (h:=(zr rfl rfl (W_smithyref17_concat hinputs rfl H) ?_))))))
  rintro _ w1 ⟨hg1,s,rfl,H⟩
  refine yp (h:=(zd (za (zc (zc (zb (yp (h:=(zd (za (WC.block ?_)))))))))))
  obtain ⟨I1,mu1,b0,HR1⟩:=H
  refine zA (fun n' L' w'=>∃ (s2:List UInt8),∃ (i:Int),n'=mu1 s2 i/\L'=[(0,.slice a3 args.length a4),(6,vs s2),(7,.int .i64 i)]/\I1 s2 i/\w.grownBy w' none) _ _ ⟨s,(0:Int),rfl,rfl,b0,hg1⟩ sb ?_
  clear b0
  rintro _ _ w2 ⟨s2,i,rfl,rfl,hI1,gr2⟩
  have H:=HR1 s2 i hI1
  refine zc (zc (zb (yp (h:=?_))))
  obtain ⟨h2,H⟩:=H
  refine zi rfl (Yld.add rfl rfl h2) (yp (h:=(yp (h:=(yp (h:=(zd (za (zk rfl (fun b2=>?_) (fun b2=>?_))))))))))
  ·replace H:=H.1 (of_decide_eq_true b2)
   refine zm (za (zc (WC.block (zc (zc (zb (yp (h:=(yp (h:=?_))))))))))
   obtain ⟨h3,H⟩:=H
   refine zi rfl (zn qD (hargs.grown gr2) rfl rfl rfl rfl h3.1 h3.2) (zi rfl (zo [] qD (hargs.grown gr2) rfl rfl (iltN h3 rfl)) (yp (h:=(yp (h:=(zD 4 (fun L' w'=>∃ q1:Bool,L'=[(32,.bool q1),(0,.slice a3 args.length a4),(6,vs s2),(7,.int .i64 i)]/\((decide ((args.getD i.toNat [])=([]:List UInt8))) || (decide ((65536:Int)<(s2.length:Int))))=q1/\w2=w') ?_ (fun hQ=>?_)))))))
   ·rintro _ _ ⟨q1,rfl,rfl,rfl⟩
    refine zd (za (zk rfl (fun b3=>?_) (fun b3=>?_)))
    ·replace H:=H.1 (b3)
     exact zc (zb (yp (h:=(yp (h:=(zd (za (zq (zh (zp (zh (zh (zp (zh (zM rfl rfl rfl ⟨gr2,([]:List UInt8),false,rfl,H⟩)))))))))))))))
    ·replace H:=H.2 (b3)
     refine zm (za (zc (zb (yp (h:=(zd (za (zc (zb (yp (h:=(zd (za (zc (WC.block ?_)))))))))))))))
     obtain ⟨I2,mu2,d5,HR2⟩:=H
     refine zA (fun n' L' w'=>∃ (b:List UInt8),∃ (A_b:Option Addr),∃ (c_b:Nat),∃ (n_b:Nat),∃ (k:Int),n'=mu2 b k/\L'=[(0,.slice a3 args.length a4),(6,vs s2),(7,.int .i64 i),(8,.slice A_b n_b c_b),(9,.int .i64 k)]/\I2 b k/\n_b=b.length/\w.grownBy w' none/\Own vb w' w.heap.size 5 A_b c_b b) _ _ ⟨[],none,0,0,(0:Int),rfl,rfl,d5,rfl,gr2,(Own.nil vb w2 w.heap.size 5)⟩ sb ?_
     clear d5
     rintro _ _ w3 ⟨b,A_b,c_b,n_b,k,rfl,rfl,hI2,rfl,gr3,k1⟩
     have H:=HR2 b k hI2
     refine zc (zc (zb (yp (h:=(yp (h:=(yp (h:=(yp (h:=(zd (za (zk rfl (fun b4=>?_) (fun b4=>?_))))))))))))))
     ·replace H:=H.1 (of_decide_eq_true b4)
      refine zm (za (WC.block (zc (zQ mixed (by kernel_rfl) (zB rfl (ze qD rfl) (zB rfl (ze qD rfl) (zB rfl (ze qD rfl) ?_)))))))
      obtain ⟨h4,H⟩:=H
      refine zB rfl (Yld.sub rfl rfl h4) (zB rfl (ze qD rfl) (zB rfl (ze qD rfl) ?_))
      obtain ⟨h5,H⟩:=H
      refine zB rfl (zn qD (hargs.grown gr3) rfl rfl rfl rfl h5.1 h5.2) (zB rfl (zo [] qD (hargs.grown gr3) rfl rfl (iltN h5 rfl)) (zB rfl (ze qD rfl) (zB rfl (ze qD rfl) (zB rfl (ze qD rfl) ?_))))
      obtain ⟨h6,H⟩:=H
      obtain ⟨h7,H⟩:=H
      obtain ⟨h8,H⟩:=H
      obtain ⟨h9,H⟩:=H
      refine qp 16 (fun L' w'=>∃ q2:Bool,L'=[(63,.bool q2),(0,.slice a3 args.length a4),(6,vs s2),(7,.int .i64 i),(8,.slice A_b b.length c_b),(9,.int .i64 k)]/\((decide (((args.getD i.toNat []).length:Int)<=((s2.length:Int) - k))) && (decide (((s2.drop k.toNat).take ((k+((args.getD i.toNat []).length:Int)).toNat - k.toNat))=(args.getD i.toNat []))))=q2/\w3=w') ?_ (fun hQ=>?_)
      ·rintro _ _ ⟨q2,rfl,rfl,rfl⟩
       refine zW (za (zk rfl (fun b5=>?_) (fun b5=>?_)))
       ·replace H:=H.1 (b5)
        refine zc (zb (yp (h:=(yp (h:=(yp (h:=?_)))))))
        obtain ⟨h10,H⟩:=H
        refine zi rfl (Yld.add rfl rfl h10) ?_
        obtain ⟨h11,H⟩:=H
        refine zi rfl (zn qD (hargs.grown gr3) rfl rfl rfl rfl h11.1 h11.2) (zi rfl (zo [] qD (hargs.grown gr3) rfl rfl (iltN h11 rfl)) ?_)
        obtain ⟨h12,H⟩:=H
        refine qj qD rfl rfl rfl k1 rfl rfl rfl h12 (qN h12) (qF gr3) (fun e4 e6 w4 hO1 hg2 hk1=>?_)
        have gr4:=qH gr3 hg2 k1.ge'
        refine yp (h:=(zd (za (zb (yp (h:=(yp (h:=(yp (h:=?_))))))))))
        obtain ⟨h13,H⟩:=H
        refine zi rfl (zn qD (hargs.grown gr4) rfl rfl rfl rfl h13.1 h13.2) (zi rfl (zo [] qD (hargs.grown gr4) rfl rfl (iltN h13 rfl)) (yp (h:=?_)))
        obtain ⟨h14,H⟩:=H
        exact zi rfl (Yld.add rfl rfl h14) (yp (h:=(zd (zg (zw _ ⟨b++(args.getD ((i+(1:Int)).toNat) []),e4,e6,(b++(args.getD ((i+(1:Int)).toNat) [])).length,k+((args.getD i.toNat []).length:Int),rfl,rfl,H.1,rfl,gr4,hO1⟩ sb H.2)))))
       ·replace H:=H.2 (b5)
        refine zc (zb (yp (h:=(yp (h:=(yp (h:=?_)))))))
        obtain ⟨h15,H⟩:=H
        refine zi rfl (qi qD rfl rfl rfl h15.1 h15.2) (zP qD rfl rfl rfl (qG rfl qR) rfl (by omega) (fun g1 w5 hB1 hg3 hl1=>?_))
        have hO2:Own vb w5 w.heap.size 5 (some ⟨g1,0,none⟩) 1 ([s2.getD k.toNat 0]:List UInt8):=Own.ofBl hB1 (Nat.le_trans (qF gr3) hl1) (by simp [maxLen]) rfl
        have gr5:=qE gr3 hg3
        have k2:=k1.grown hg3
        obtain ⟨h16,H⟩:=H
        refine zG qD rfl rfl One.b k2 rfl rfl hO2.rd rfl rfl h16 (qN h16) (qF gr5) (fun e9 f0 w6 hO3 hg4 hk2=>yp (h:=(zd (za (zb (yp (h:=?_)))))))
        obtain ⟨h17,H⟩:=H
        exact zi rfl (Yld.add rfl rfl h17) (yp (h:=(zd (zg (zw _ ⟨b++([s2.getD k.toNat 0]:List UInt8),e9,f0,(b++([s2.getD k.toNat 0]:List UInt8)).length,k+(1:Int),rfl,rfl,H.1,rfl,(qH gr5 hg4 k2.ge'),hO3⟩ sb H.2)))))
      ·clear H
       rcases Bool.eq_false_or_eq_true (decide (((args.getD i.toNat []).length:Int)<=((s2.length:Int) - k))) with b6 | b6
       ·exact zF rfl rfl (okb b6) rfl (ze qD rfl) (zF rfl rfl (okb b6) rfl (ze qD rfl) (zF rfl rfl (okb b6) rfl (ze qD rfl) (zF rfl rfl (okb b6) rfl (ze qD rfl) (zF rfl rfl (okb b6) rfl (ze qD rfl) (zF rfl rfl (okb b6) rfl (zn qD (hargs.grown gr3) rfl rfl rfl rfl (h6 b6).1 (h6 b6).2) (zF rfl rfl (okb b6) rfl (zo [] qD (hargs.grown gr3) rfl rfl (iltN (h6 b6) rfl)) (zF rfl rfl (okb b6) rfl (ze qD rfl) (zF rfl rfl (okb b6) rfl (Yld.add rfl rfl (h7 b6)) (zF rfl rfl (okb b6) rfl (qu qD rfl rfl rfl rfl (h8 b6).1 (h8 b6).2.1 (h8 b6).2.2) (zF rfl rfl (okb b6) rfl (ze qD rfl) (zF rfl rfl (okb b6) rfl (ze qD rfl) (zF rfl rfl (okb b6) rfl (zn qD (hargs.grown gr3) rfl rfl rfl rfl (h9 b6).1 (h9 b6).2) (zF rfl rfl (okb b6) rfl (zo [] qD (hargs.grown gr3) rfl rfl (iltN (h9 b6) rfl)) (zF rfl rfl (okb b6) rfl (ze qD rfl) (zB rfl (zy (okb b6) rfl) (WQ.weaken sb (hQ _ _ ⟨decide (((s2.drop k.toNat).take ((k+((args.getD i.toNat []).length:Int)).toNat - k.toNat))=(args.getD i.toNat [])),rfl,by rw [b6] <;> rfl,rfl⟩)))))))))))))))))
       ·exact zI rfl rfl (okb b6) rfl (zI rfl rfl (okb b6) rfl (zI rfl rfl (okb b6) rfl (zI rfl rfl (okb b6) rfl (zI rfl rfl (okb b6) rfl (zI rfl rfl (okb b6) rfl (zI rfl rfl (okb b6) rfl (zI rfl rfl (okb b6) rfl (zI rfl rfl (okb b6) rfl (zI rfl rfl (okb b6) rfl (zI rfl rfl (okb b6) rfl (zI rfl rfl (okb b6) rfl (zI rfl rfl (okb b6) rfl (zI rfl rfl (okb b6) rfl (zI rfl rfl (okb b6) rfl (zB rfl (zv (okb b6) rfl) (WQ.weaken sb (hQ _ _ ⟨false,rfl,by rw [b6] <;> rfl,rfl⟩)))))))))))))))))
     ·replace H:=H.2 (of_decide_eq_false b4)
      refine zz (zf (zf (zj (za (zb (yp (h:=(zi rfl (Yld.b2s qD k1.rd rfl rfl rfl rfl rfl) (yp (h:=(zd (zg (za (zb (yp (h:=?_))))))))))))))))
      obtain ⟨h18,H⟩:=H
      exact zi rfl (Yld.add rfl rfl h18) (yp (h:=(zd (zw _ ⟨b,i+(2:Int),rfl,rfl,H.1,gr3⟩ sb H.2))))
   ·clear H
    rcases Bool.eq_false_or_eq_true (decide ((args.getD i.toNat [])=([]:List UInt8))) with b7 | b7
    ·exact gn b7 (h:=(gn b7 (h:=(gn b7 (h:=(zi rfl (zy (okb b7) rfl) (wk (hQ _ _ ⟨true,rfl,by rw [b7] <;> rfl,rfl⟩))))))))
    ·exact gp b7 (h:=(gp b7 (h:=(gp b7 (h:=(zi rfl (zv (okb b7) rfl) (wk (hQ _ _ ⟨decide ((65536:Int)<(s2.length:Int)),rfl,by rw [b7] <;> rfl,rfl⟩))))))))
  ·replace H:=H.2 (of_decide_eq_false b2)
   exact zz (zf (zf (zj (za (zc (zb (yp (h:=(yp (h:=(yp (h:=(zd (za (zq (zM rfl rfl rfl ⟨gr2,s2,true,rfl,H⟩))))))))))))))))
set_option maxHeartbeats 8000000 in
theorem W_smithyref17_sorted {w:World} {args:List (List UInt8)} {a3:Option Addr} {a4:Nat} {inputs:List (List UInt8)} {a0:Option Addr} {a1:Nat} {c0:Nat} {a5:Nat} {K:(List UInt8)->Bool->Prop} (hargs:Rd vs w a3 a4 args) (c2:c0=args.length) (hinputs:Rd vs w a0 a1 inputs) (a6:a5=inputs.length) (H:kn args inputs K):Fn Tryz.prog 108 ⟨[.slice a3 c0 a4,.slice a0 a5 a1]⟩ w (fun v w'=>w.grownBy w' none/\∃ (r0:List UInt8),∃ (r1:Bool),v=.tuple #[vs r0,.bool r1]/\K r0 r1):=by
 subst c2
 subst a6
 unfold kn at H
 refine Fn.enter (by kernel_rfl) Tryz.func108 rfl Tryz.ntmps108 rfl ?_
 replace H:=H (Nat.le_trans hargs.cap hargs.max)
 replace H:=H (Nat.le_trans hinputs.cap hinputs.max)
 refine zc (zb (yp (h:=(yp (h:=(zd (za (zc (zb (yp (h:=(zd (za (zc (zb (yp (h:=(zd (za (zc (zc (zb (yp (h:=(zd (za (WC.block ?_)))))))))))))))))))))))))))
 obtain ⟨I1,mu1,b0,HR1⟩:=H
 refine zA (fun n' L' w'=>∃ (back:Bool),∃ (unique:Bool),∃ (i:Int),n'=mu1 back unique i/\L'=[(0,.slice a3 args.length a4),(1,.slice a0 inputs.length a1),(6,.bool back),(7,.bool unique),(8,.int .i64 i)]/\I1 back unique i/\w=w') _ _ ⟨false,false,(0:Int),rfl,rfl,b0,rfl⟩ sb ?_
 clear b0
 rintro _ _ _ ⟨back,unique,i,rfl,rfl,hI1,rfl⟩
 have H:=HR1 back unique i hI1
 refine zc (zc (zb (yp (h:=(yp (h:=(yp (h:=(yp (h:=(zd (za (zk rfl (fun b1=>?_) (fun b1=>?_))))))))))))))
 ·replace H:=H.1 (of_decide_eq_true b1)
  refine zm (za (zc ?_))
  obtain ⟨J1,H,hJ1⟩:=H
  refine zL (fun L' w'=>∃ (back2:Bool),∃ (unique2:Bool),L'=[(0,.slice a3 args.length a4),(1,.slice a0 inputs.length a1),(6,.bool back2),(7,.bool unique2),(8,.int .i64 i)]/\J1 back2 unique2/\w=w') ?_ (fun hQ=>?_)
  ·clear H
   rintro _ _ ⟨back2,unique2,rfl,H,rfl⟩
   replace H:=hJ1 back2 unique2 H
   refine za (zb (yp (h:=?_)))
   obtain ⟨h1,H⟩:=H
   exact zi rfl (Yld.add rfl rfl h1) (yp (h:=(zd (zw _ ⟨back2,unique2,i+(1:Int),rfl,rfl,H.1,rfl⟩ sb H.2))))
  ·clear hJ1
   refine WC.block (WC.block (zc (zb (yp (h:=(yp (h:=?_)))))))
   obtain ⟨h2,H⟩:=H
   refine zi rfl (zn qD hargs rfl rfl rfl rfl h2.1 h2.2) (zi rfl (zo [] qD hargs rfl rfl (iltN h2 rfl)) (yp (h:=(yp (h:=(zD 3 (fun L' w'=>∃ q1:Bool,L'=[(31,.bool q1),(0,.slice a3 args.length a4),(1,.slice a0 inputs.length a1),(6,.bool back),(7,.bool unique),(8,.int .i64 i)]/\((decide ((args.getD i.toNat [])=([114,101,118,101,114,115,101]:List UInt8))) && (!back))=q1/\w=w') ?_ (fun hQ=>?_)))))))
   ·rintro _ _ ⟨q1,rfl,rfl,rfl⟩
    refine yp (h:=(zd (za (zk rfl (fun b2=>?_) (fun b2=>?_)))))
    ·replace H:=H.1 (b2)
     exact zb (yp (h:=(zd (zg (zg (WX.weaken sb (hQ _ _ ⟨true,unique,rfl,H,rfl⟩)))))))
    ·replace H:=H.2 (b2)
     refine zc (zb (yp (h:=(yp (h:=?_)))))
     obtain ⟨h3,H⟩:=H
     refine zi rfl (zn qD hargs rfl rfl rfl rfl h3.1 h3.2) (zi rfl (zo [] qD hargs rfl rfl (iltN h3 rfl)) (yp (h:=(yp (h:=(zD 3 (fun L' w'=>∃ q2:Bool,L'=[(41,.bool q2),(0,.slice a3 args.length a4),(1,.slice a0 inputs.length a1),(6,.bool back),(8,.int .i64 i)]/\((decide ((args.getD i.toNat [])=([117,110,105,113,117,101]:List UInt8))) && (!unique))=q2/\w=w') ?_ (fun hQ=>?_)))))))
     ·rintro _ _ ⟨q2,rfl,rfl,rfl⟩
      refine yp (h:=(zd (za (zk rfl (fun b3=>?_) (fun b3=>?_)))))
      ·replace H:=H.1 (b3)
       exact zb (yp (h:=(zd (zg (zg (WX.weaken sb (hQ _ _ ⟨back,true,rfl,H,rfl⟩)))))))
      ·replace H:=H.2 (b3)
       exact zc (zb (yp (h:=(yp (h:=(zd (za (zq (zp (zp (zh (zh (zp (zh (zM rfl rfl rfl ⟨(qK _ _),([]:List UInt8),false,rfl,H⟩)))))))))))))))
     ·clear H
      rcases Bool.eq_false_or_eq_true (decide ((args.getD i.toNat [])=([117,110,105,113,117,101]:List UInt8))) with b4 | b4
      ·exact gp b4 (h:=(gp b4 (h:=(zi rfl (zy (okb b4) rfl) (wk (hQ _ _ ⟨!unique,rfl,by rw [b4] <;> rfl,rfl⟩))))))
      ·exact gn b4 (h:=(gn b4 (h:=(zi rfl (zv (okb b4) rfl) (wk (hQ _ _ ⟨false,rfl,by rw [b4] <;> rfl,rfl⟩))))))
   ·clear H
    rcases Bool.eq_false_or_eq_true (decide ((args.getD i.toNat [])=([114,101,118,101,114,115,101]:List UInt8))) with b5 | b5
    ·exact gp b5 (h:=(gp b5 (h:=(zi rfl (zy (okb b5) rfl) (wk (hQ _ _ ⟨!back,rfl,by rw [b5] <;> rfl,rfl⟩))))))
    ·exact gn b5 (h:=(gn b5 (h:=(zi rfl (zv (okb b5) rfl) (wk (hQ _ _ ⟨false,rfl,by rw [b5] <;> rfl,rfl⟩))))))
 ·replace H:=H.2 (of_decide_eq_false b1)
  refine zz (zf (zf (zj (za (zc (zb (yp (h:=(zr rfl rfl (W_smithyref17_lines hinputs rfl H) ?_)))))))))
  rintro _ w1 ⟨hg1,l,A_l,c_l,rfl,hl,H⟩
  have hb1:=hl.ge'
  refine yp (h:=(zd (za (zc (zb (yp (h:=(zd (za (zc (zc (zb (yp (h:=(zd (za (WC.block ?_)))))))))))))))))
  obtain ⟨I2,mu2,d5,HR2⟩:=H
  refine zA (fun n' L' w'=>∃ (out:List (List UInt8)),∃ (a8:Option Addr),∃ (a9:Nat),∃ (c4:Nat),∃ (i2:Int),n'=mu2 out i2/\L'=[(6,.bool back),(7,.bool unique),(9,.slice A_l l.length c_l),(10,.slice a8 c4 a9),(11,.int .i64 i2)]/\I2 out i2/\c4=out.length/\w.grownBy w' none/\Own vs w' w.heap.size 9 A_l c_l l/\Own vs w' w.heap.size 9 a8 a9 out/\Dj (blk A_l) (blk a8)) _ _ ⟨[],none,0,0,(0:Int),rfl,rfl,d5,rfl,hg1,(hl.base (fun g hg=>Nat.le_trans (Nat.le_refl _) (hb1 g hg))),(Own.nil vs w1 w.heap.size 9),Dj.nr⟩ sb ?_
  clear d5
  rintro _ _ w2 ⟨out,a8,a9,c4,i2,rfl,rfl,hI2,rfl,gr2,k2,k3,dj1⟩
  have H:=HR2 out i2 hI2
  refine zc (zc (zb (yp (h:=(yp (h:=(yp (h:=(yp (h:=(zd (za (zk rfl (fun b6=>?_) (fun b6=>?_))))))))))))))
  ·replace H:=H.1 (of_decide_eq_true b6)
   refine zm (za (zc ?_))
   obtain ⟨J2,H,hJ2⟩:=H
   refine zL (fun L' w'=>∃ (out2:List (List UInt8)),∃ (c1:Option Addr),∃ (c3:Nat),∃ (d0:Nat),L'=[(6,.bool back),(7,.bool unique),(9,.slice A_l l.length c_l),(10,.slice c1 d0 c3),(11,.int .i64 i2)]/\J2 out2/\d0=out2.length/\w.grownBy w' none/\Own vs w' w.heap.size 9 A_l c_l l/\Own vs w' w.heap.size 9 c1 c3 out2/\Dj (blk A_l) (blk c1)) ?_ (fun hQ=>?_)
   ·clear H
    rintro _ w3 ⟨out2,c1,c3,d0,rfl,H,rfl,gr3,k4,k5,dj2⟩
    replace H:=hJ2 out2 H
    refine za (zb (yp (h:=?_)))
    obtain ⟨h4,H⟩:=H
    exact zi rfl (Yld.add rfl rfl h4) (yp (h:=(zd (zw _ ⟨out2,c1,c3,out2.length,i2+(1:Int),rfl,rfl,H.1,rfl,gr3,k4,k5,dj2⟩ sb H.2))))
   ·clear hJ2
    refine WC.block (zc (zb (yp (h:=(zd (za (zc (WC.block ?_))))))))
    obtain ⟨I3,mu3,f1,HR3⟩:=H
    refine zA (fun n' L' w'=>∃ (k:Int),n'=mu3 k/\L'=[(6,.bool back),(7,.bool unique),(9,.slice A_l l.length c_l),(10,.slice a8 out.length a9),(11,.int .i64 i2),(12,.int .i64 k)]/\I3 k/\w2=w') _ _ ⟨(0:Int),rfl,rfl,f1,rfl⟩ sb ?_
    clear f1
    rintro _ _ _ ⟨k,rfl,rfl,hI3,rfl⟩
    have H:=HR3 k hI3
    refine zc (zc (zQ mixed (by kernel_rfl) (zB rfl (ze qD rfl) (zB rfl (ze qD rfl) (zB rfl (ze qD rfl) (zB rfl (ze qD rfl) (zB rfl (ze qD rfl) ?_)))))))
    obtain ⟨h5,H⟩:=H
    obtain ⟨h6,H⟩:=H
    refine qp 10 (fun L' w'=>∃ q3:Bool,L'=[(64,.bool q3),(6,.bool back),(7,.bool unique),(9,.slice A_l l.length c_l),(10,.slice a8 out.length a9),(11,.int .i64 i2),(12,.int .i64 k)]/\((decide (k<(out.length:Int))) && (Op.bytesLess (out.getD k.toNat []) (l.getD i2.toNat []) || decide ((out.getD k.toNat [])=(l.getD i2.toNat []))))=q3/\w2=w') ?_ (fun hQ=>?_)
    ·rintro _ _ ⟨q3,rfl,rfl,rfl⟩
     refine zW (za (zk rfl (fun b7=>?_) (fun b7=>?_)))
     ·replace H:=H.1 (b7)
      refine zm (za (WC.block (zb (yp (h:=?_)))))
      obtain ⟨h7,H⟩:=H
      exact zi rfl (Yld.add rfl rfl h7) (yp (h:=(zd (zg (zw _ ⟨k+(1:Int),rfl,rfl,H.1,rfl⟩ sb H.2)))))
     ·replace H:=H.2 (b7)
      refine zz (zf (zf (zj (za (zc (zc (zQ mixed (by kernel_rfl) (zB rfl (ze qD rfl) (zB rfl (ze qD rfl) (qp 3 (fun L' w'=>∃ q4:Bool,L'=[(71,.bool q4),(6,.bool back),(7,.bool unique),(9,.slice A_l l.length c_l),(10,.slice a8 out.length a9),(11,.int .i64 i2),(12,.int .i64 k)]/\(unique && (decide ((0:Int)<k)))=q4/\w2=w') ?_ (fun hQ=>?_)))))))))))
      ·rintro _ _ ⟨q4,rfl,rfl,rfl⟩
       refine zB rfl (ze qD rfl) ?_
       obtain ⟨h8,H⟩:=H
       obtain ⟨h9,H⟩:=H
       obtain ⟨h10,H⟩:=H
       refine qp 11 (fun L' w'=>∃ q5:Bool,L'=[(83,.bool q5),(6,.bool back),(7,.bool unique),(9,.slice A_l l.length c_l),(10,.slice a8 out.length a9),(11,.int .i64 i2),(12,.int .i64 k)]/\((unique && (decide ((0:Int)<k))) && (decide ((out.getD ((k - (1:Int)).toNat) [])=(l.getD i2.toNat []))))=q5/\w2=w') ?_ (fun hQ=>?_)
       ·rintro _ _ ⟨q5,rfl,rfl,rfl⟩
        refine zW (za (zk rfl (fun b8=>?_) (fun b8=>?_)))
        ·replace H:=H.1 (b8)
         exact zz (zf (zj (WX.weaken sb (hQ _ _ ⟨out,a8,a9,out.length,rfl,H,rfl,gr2,k2,k3,dj1⟩))))
        ·replace H:=H.2 (b8)
         refine zm (za (zc (zO (fun k => !(Nat.beq k 3 || Nat.beq k 7)) (LD [] (fun w'=>True)) mixed (by kernel_rfl) (fun k w' h _=>trivial) (zu rfl rfl (fun w' hw'=>ze qD rfl) (zu rfl rfl (fun w' hw'=>ze qD rfl) ?_)))))
         obtain ⟨h11,H⟩:=H
         refine zu rfl rfl (fun w' hw'=>Yld.add rfl rfl h11) ?_
         obtain ⟨h12,H⟩:=H
         refine z6 rfl (qI) rfl (Eff.makeCI (f:=vs) (B:=w.heap.size) qD rfl rfl rfl h12.1 h12.2.1 h12.2.2 (qF gr2)) (fun v w' ⟨_,_,h⟩=>DD.keep trivial) ?_
         rintro _ w4 ⟨rfl,hB1,hg2⟩
         obtain ⟨l4,hl1⟩:∃ g,g=w2.heap.size:=⟨_,rfl⟩
         rw [<-hl1] at hB1
         rw [<-hl1]
         have hO1:Own vs w4 w.heap.size 9 (some ⟨l4,0,none⟩) (((out.length:Int)+(1:Int)).toNat) ([]:List (List UInt8)):=hB1.base (fun g hg=>by cases hg; exact Nat.le_trans (qF gr2) (Nat.le_of_eq hl1.symm))
         have gr4:=qE gr2 hg2
         have k6:=k2.grown hg2
         have k7:=k3.grown hg2
         refine zu rfl rfl (fun w' hw'=>ze qD rfl) (zu rfl rfl (fun w' hw'=>ze qD rfl) ?_)
         obtain ⟨h13,H⟩:=H
         refine zu rfl rfl (fun w' hw'=>Yld.ocutY qD k7.rd rfl rfl rfl rfl rfl h13.1 h13.2) ?_
         obtain ⟨h14,H⟩:=H
         refine z6 rfl (qI) rfl (Eff.append qD rfl One.s hO1 rfl rfl (k7.rd.take k.toNat) rfl rfl h14 (qN h14) (qF gr4)) (fun v w' ⟨_,_,_,_,h,_⟩=>DD.keep trivial) ?_
         rintro _ w5 ⟨m7,n3,rfl,hO2,hg3,hk1⟩
         have gr5:=qH gr4 hg3 hO1.ge'
         have k8:=k6.go hg3 (Dj.new k2.lt' (Ge.box (Nat.le_of_eq hl1.symm)))
         refine zu rfl rfl (fun w' hw'=>ze qD rfl) (zX (za (zc (zb (yp (h:=(yp (h:=(yp (h:=?_))))))))))
         obtain ⟨h15,H⟩:=H
         refine zi rfl (zn qD k8.rd rfl rfl rfl rfl h15.1 h15.2) (zi rfl (zo [] qD k8.rd rfl rfl (iltN h15 rfl)) (zP qD rfl rfl rfl (qG rfl qR) rfl (by omega) (fun g1 w6 hB2 hg4 hl2=>?_)))
         have hO3:Own vs w6 w.heap.size 9 (some ⟨g1,0,none⟩) 1 ([l.getD i2.toNat []]:List (List UInt8)):=Own.ofBl hB2 (Nat.le_trans (qF gr5) hl2) (by simp [maxLen]) rfl
         have gr6:=qE gr5 hg4
         have k10:=k8.grown hg4
         have k12:=hO2.grown hg4
         obtain ⟨h16,H⟩:=H
         refine zG qD rfl rfl One.s k12 rfl rfl hO3.rd rfl rfl h16 (qN h16) (qF gr6) (fun m0 m1 w7 hO4 hg5 hk2=>?_)
         have gr7:=qH gr6 hg5 k12.ge'
         have k13:=k10.go hg5 ((Dj.app (Dj.new k2.lt' (Ge.box (Nat.le_of_eq hl1.symm))).symm k6.lt' hk1).symm)
         refine yp (h:=(zd (za (zb (yp (h:=(yp (h:=(yp (h:=?_))))))))))
         obtain ⟨h17,H⟩:=H
         refine WL.cutF qD (((k7.go hg3 (Dj.new k3.lt' (Ge.box (Nat.le_of_eq hl1.symm)))).grown hg4).go hg5 ((Dj.app (Dj.new k3.lt' (Ge.box (Nat.le_of_eq hl1.symm))).symm k7.lt' hk1).symm)).rd rfl rfl rfl rfl rfl h17.1 h17.2.1 (fun m8 n4 hR1 hb2=>?_)
         obtain ⟨h18,H⟩:=H
         exact zG qD rfl rfl One.s hO4 rfl rfl hR1 rfl rfl h18 (qN h18) (qF gr7) (fun e2 e3 w8 hO5 hg6 hk3=>yp (h:=(zd (zg (WX.weaken sb (hQ _ _ ⟨((([]:List (List UInt8))++(out.take k.toNat))++([l.getD i2.toNat []]:List (List UInt8)))++(out.drop k.toNat),e2,e3,(((([]:List (List UInt8))++(out.take k.toNat))++([l.getD i2.toNat []]:List (List UInt8)))++(out.drop k.toNat)).length,rfl,H,rfl,(qH gr7 hg6 hO4.ge'),(k13.go hg6 ((Dj.app (Dj.app (Dj.new k2.lt' (Ge.box (Nat.le_of_eq hl1.symm))).symm k6.lt' hk1) k10.lt' hk2).symm)),hO5,(Dj.app (Dj.app (Dj.app (Dj.new k2.lt' (Ge.box (Nat.le_of_eq hl1.symm))).symm k6.lt' hk1) k10.lt' hk2) k13.lt' hk3).symm⟩))))))
       ·clear H
        rcases Bool.eq_false_or_eq_true (unique && (decide ((0:Int)<k))) with b9 | b9
        ·exact zF rfl rfl (okb b9) rfl (ze qD rfl) (zF rfl rfl (okb b9) rfl (ze qD rfl) (zF rfl rfl (okb b9) rfl (Yld.sub rfl rfl (h8 b9)) (zF rfl rfl (okb b9) rfl (zn qD k3.rd rfl rfl rfl rfl (h9 b9).1 (h9 b9).2) (zF rfl rfl (okb b9) rfl (zo [] qD k3.rd rfl rfl (iltN (h9 b9) rfl)) (zF rfl rfl (okb b9) rfl (ze qD rfl) (zF rfl rfl (okb b9) rfl (ze qD rfl) (zF rfl rfl (okb b9) rfl (zn qD k2.rd rfl rfl rfl rfl (h10 b9).1 (h10 b9).2) (zF rfl rfl (okb b9) rfl (zo [] qD k2.rd rfl rfl (iltN (h10 b9) rfl)) (zF rfl rfl (okb b9) rfl (ze qD rfl) (zB rfl (zy (okb b9) rfl) (WQ.weaken sb (hQ _ _ ⟨decide ((out.getD ((k - (1:Int)).toNat) [])=(l.getD i2.toNat [])),rfl,by rw [b9] <;> rfl,rfl⟩))))))))))))
        ·exact zI rfl rfl (okb b9) rfl (zI rfl rfl (okb b9) rfl (zI rfl rfl (okb b9) rfl (zI rfl rfl (okb b9) rfl (zI rfl rfl (okb b9) rfl (zI rfl rfl (okb b9) rfl (zI rfl rfl (okb b9) rfl (zI rfl rfl (okb b9) rfl (zI rfl rfl (okb b9) rfl (zI rfl rfl (okb b9) rfl (zB rfl (zv (okb b9) rfl) (WQ.weaken sb (hQ _ _ ⟨false,rfl,by rw [b9] <;> rfl,rfl⟩))))))))))))
      ·clear H
       rcases Bool.eq_false_or_eq_true (unique) with b10 | b10
       ·exact zF rfl rfl (okb b10) rfl (ze qD rfl) (zF rfl rfl (okb b10) rfl (ze qD rfl) (zB rfl (zy (okb b10) rfl) (WQ.weaken sb (hQ _ _ ⟨decide ((0:Int)<k),rfl,by rw [b10] <;> rfl,rfl⟩))))
       ·exact zI rfl rfl (okb b10) rfl (zI rfl rfl (okb b10) rfl (zB rfl (zv (okb b10) rfl) (WQ.weaken sb (hQ _ _ ⟨false,rfl,by rw [b10] <;> rfl,rfl⟩))))
    ·clear H
     rcases Bool.eq_false_or_eq_true (decide (k<(out.length:Int))) with b11 | b11
     ·exact zF rfl rfl (okb b11) rfl (ze qD rfl) (zF rfl rfl (okb b11) rfl (ze qD rfl) (zF rfl rfl (okb b11) rfl (zn qD k3.rd rfl rfl rfl rfl (h5 b11).1 (h5 b11).2) (zF rfl rfl (okb b11) rfl (zo [] qD k3.rd rfl rfl (iltN (h5 b11) rfl)) (zF rfl rfl (okb b11) rfl (ze qD rfl) (zF rfl rfl (okb b11) rfl (ze qD rfl) (zF rfl rfl (okb b11) rfl (zn qD k2.rd rfl rfl rfl rfl (h6 b11).1 (h6 b11).2) (zF rfl rfl (okb b11) rfl (zo [] qD k2.rd rfl rfl (iltN (h6 b11) rfl)) (zF rfl rfl (okb b11) rfl (ze qD rfl) (zB rfl (zy (okb b11) rfl) (WQ.weaken sb (hQ _ _ ⟨Op.bytesLess (out.getD k.toNat []) (l.getD i2.toNat []) || decide ((out.getD k.toNat [])=(l.getD i2.toNat [])),rfl,by rw [b11] <;> rfl,rfl⟩)))))))))))
     ·exact zI rfl rfl (okb b11) rfl (zI rfl rfl (okb b11) rfl (zI rfl rfl (okb b11) rfl (zI rfl rfl (okb b11) rfl (zI rfl rfl (okb b11) rfl (zI rfl rfl (okb b11) rfl (zI rfl rfl (okb b11) rfl (zI rfl rfl (okb b11) rfl (zI rfl rfl (okb b11) rfl (zB rfl (zv (okb b11) rfl) (WQ.weaken sb (hQ _ _ ⟨false,rfl,by rw [b11] <;> rfl,rfl⟩)))))))))))
  ·replace H:=H.2 (of_decide_eq_false b6)
   refine zz (zf (zf (zj (za (zc ?_)))))
   obtain ⟨J3,H,hJ3⟩:=H
   refine zL (fun L' w'=>∃ (out3:List (List UInt8)),∃ (c7:Option Addr),∃ (c8:Nat),∃ (d1:Nat),L'=[(10,.slice c7 d1 c8)]/\J3 out3/\d1=out3.length/\w.grownBy w' none/\Own vs w' w.heap.size 9 c7 c8 out3) ?_ (fun hQ=>?_)
   ·clear H
    rintro _ w9 ⟨out3,c7,c8,d1,rfl,H,rfl,gr9,k16⟩
    replace H:=hJ3 out3 H
    refine za (zc (zb (yp (h:=(zr rfl rfl (Zd k16.rd rfl H) ?_)))))
    rintro _ w10 ⟨hg7,t4,rfl,H⟩
    exact yp (h:=(yp (h:=(zd (za (zq (zM rfl rfl rfl ⟨(qE gr9 hg7),t4,true,rfl,H⟩)))))))
   ·clear hJ3
    refine zc (zb (yp (h:=(zd (za (zk rfl (fun b12=>?_) (fun b12=>?_)))))))
    ·replace H:=H.1 (b12)
     refine zc (zb (yp (h:=(zd (za (zc (zc (zb (yp (h:=(yp (h:=?_))))))))))))
     obtain ⟨h19,H⟩:=H
     refine zi rfl (Yld.sub rfl rfl h19) (yp (h:=(zd (za (WC.block ?_)))))
     obtain ⟨I4,mu4,f2,HR4⟩:=H
     refine zA (fun n' L' w'=>∃ (turned:List (List UInt8)),∃ (c6:Option Addr),∃ (d4:Nat),∃ (d6:Nat),∃ (i3:Int),n'=mu4 turned i3/\L'=[(10,.slice a8 out.length a9),(14,.slice c6 d6 d4),(15,.int .i64 i3)]/\I4 turned i3/\d6=turned.length/\w.grownBy w' none/\Own vs w' w.heap.size 9 a8 a9 out/\Own vs w' w.heap.size 9 c6 d4 turned/\Dj (blk a8) (blk c6)) _ _ ⟨[],none,0,0,(out.length:Int) - (1:Int),rfl,rfl,f2,rfl,gr2,k3,(Own.nil vs w2 w.heap.size 9),Dj.nr⟩ sb ?_
     clear f2
     rintro _ _ w11 ⟨turned,c6,d4,d6,i3,rfl,rfl,hI4,rfl,gr11,k17,k18,dj3⟩
     have H:=HR4 turned i3 hI4
     refine zc (zc (zb (yp (h:=(yp (h:=(zd (za (zk rfl (fun b13=>?_) (fun b13=>?_))))))))))
     ·replace H:=H.1 (of_decide_eq_true b13)
      refine zm (za (zc (WC.block (zb (yp (h:=(yp (h:=(yp (h:=?_))))))))))
      obtain ⟨h20,H⟩:=H
      refine zi rfl (zn qD k17.rd rfl rfl rfl rfl h20.1 h20.2) (zi rfl (zo [] qD k17.rd rfl rfl (iltN h20 rfl)) (zP qD rfl rfl rfl (qG rfl qR) rfl (by omega) (fun g2 w12 hB3 hg8 hl3=>?_)))
      have hO6:Own vs w12 w.heap.size 9 (some ⟨g2,0,none⟩) 1 ([out.getD i3.toNat []]:List (List UInt8)):=Own.ofBl hB3 (Nat.le_trans (qF gr11) hl3) (by simp [maxLen]) rfl
      have gr12:=qE gr11 hg8
      have k19:=k17.grown hg8
      have k20:=k18.grown hg8
      obtain ⟨h21,H⟩:=H
      refine zG qD rfl rfl One.s k20 rfl rfl hO6.rd rfl rfl h21 (qN h21) (qF gr12) (fun e5 e8 w13 hO7 hg9 hk4=>yp (h:=(zd (zg (za (zb (yp (h:=?_))))))))
      obtain ⟨h22,H⟩:=H
      exact zi rfl (Yld.sub rfl rfl h22) (yp (h:=(zd (zw _ ⟨turned++([out.getD i3.toNat []]:List (List UInt8)),e5,e8,(turned++([out.getD i3.toNat []]:List (List UInt8))).length,i3 - (1:Int),rfl,rfl,H.1,rfl,(qH gr12 hg9 k20.ge'),(k19.go hg9 dj3),hO7,(Dj.app dj3.symm k19.lt' hk4).symm⟩ sb H.2))))
     ·replace H:=H.2 (of_decide_eq_false b13)
      exact zz (zf (zf (zj (za (zb (yp (h:=(yp (h:=(zd (WX.weaken sb (hQ _ _ ⟨turned,c6,d4,turned.length,rfl,H,rfl,gr11,k18⟩))))))))))))
    ·replace H:=H.2 (b12)
     exact zm (WX.weaken sb (hQ _ _ ⟨out,a8,a9,out.length,rfl,H,rfl,gr2,k3⟩))
set_option maxHeartbeats 8000000 in
theorem W_smithyref17_done {w:World} {tool:Int} {args:List (List UInt8)} {a3:Option Addr} {a4:Nat} {inputs:List (List UInt8)} {a0:Option Addr} {a1:Nat} {c0:Nat} {a5:Nat} {K:(List UInt8)->Bool->Prop} (hargs:Rd vs w a3 a4 args) (c2:c0=args.length) (hinputs:Rd vs w a0 a1 inputs) (a6:a5=inputs.length) (H:kH tool args inputs K):Fn Tryz.prog 75 ⟨[.int .i64 tool,.slice a3 c0 a4,.slice a0 a5 a1]⟩ w (fun v w'=>w.grownBy w' none/\∃ (r0:List UInt8),∃ (r1:Bool),v=.tuple #[vs r0,.bool r1]/\K r0 r1):=by
 subst c2
 subst a6
 unfold kH at H
 refine Fn.enter (by kernel_rfl) Tryz.func75 rfl Tryz.ntmps75 rfl ?_
 replace H:=H (Nat.le_trans hargs.cap hargs.max)
 replace H:=H (Nat.le_trans hinputs.cap hinputs.max)
 refine zc (zb (yp (h:=(yp (h:=(zd (za (zc (zc (zb (yp (h:=(zd (za (WC.block (zc (zb (yp (h:=(yp (h:=(zd (za (zk rfl (fun b1=>?_) (fun b1=>?_)))))))))))))))))))))))))
 ·replace H:=H.1 (of_decide_eq_true b1)
  refine zc (zb (yp (h:=(zd (za (zc ?_))))))
  obtain ⟨J1,H,hJ1⟩:=H
  refine zL (fun L' w'=>∃ (by_:List UInt8),L'=[(1,.slice a3 args.length a4),(2,.slice a0 inputs.length a1),(8,vs by_)]/\J1 by_/\w=w') ?_ (fun hQ=>?_)
  ·clear H
   rintro _ _ ⟨by_,rfl,H,rfl⟩
   replace H:=hJ1 by_ H
   refine za (zc (zb (yp (h:=(yp (h:=(zr rfl rfl (W_smithyref17_concat hinputs rfl H) ?_)))))))
   rintro _ w1 ⟨hg1,t6,rfl,H⟩
   exact yp (h:=(yp (h:=(yp (h:=(yp (h:=(yp (h:=(zd (za (zq (zp (zh (zM rfl rfl rfl ⟨hg1,t6,decide ((args.length:Int)<=(1:Int)),rfl,H⟩)))))))))))))))
  ·clear hJ1
   refine zc (zb (yp (h:=(yp (h:=(yp (h:=(zd (za (zk rfl (fun b2=>?_) (fun b2=>?_)))))))))))
   ·replace H:=H.1 (of_decide_eq_true b2)
    refine zb (yp (h:=?_))
    obtain ⟨h1,H⟩:=H
    exact zi rfl (zn qD hargs rfl rfl rfl rfl h1.1 h1.2) (zi rfl (zo [] qD hargs rfl rfl (iltN h1 rfl)) (yp (h:=(zd (WX.weaken sb (hQ _ _ ⟨args.getD 0 [],rfl,H,rfl⟩))))))
   ·replace H:=H.2 (of_decide_eq_false b2)
    exact zm (WX.weaken sb (hQ _ _ ⟨([]:List UInt8),rfl,H,rfl⟩))
 ·replace H:=H.2 (of_decide_eq_false b1)
  refine zc (zb (yp (h:=(yp (h:=(zd (za (zk rfl (fun b3=>?_) (fun b3=>?_)))))))))
  ·replace H:=H.1 (of_decide_eq_true b3)
   refine zc (zc (zb (yp (h:=(yp (h:=(yp (h:=(yp (h:=(zD 4 (fun L' w'=>∃ q1:Bool,L'=[(38,.bool q1),(1,.slice a3 args.length a4),(2,.slice a0 inputs.length a1)]/\((decide ((args.length:Int)<(1:Int))) || (decide ((2:Int)<(args.length:Int))))=q1/\w=w') ?_ (fun hQ=>?_))))))))))))
   ·rintro _ _ ⟨q1,rfl,rfl,rfl⟩
    refine yp (h:=?_)
    obtain ⟨h2,H⟩:=H
    refine zD 10 (fun L' w'=>∃ q2:Bool,L'=[(49,.bool q2),(1,.slice a3 args.length a4),(2,.slice a0 inputs.length a1)]/\(((decide ((args.length:Int)<(1:Int))) || (decide ((2:Int)<(args.length:Int)))) || ((decide ((args.length:Int)=(2:Int))) && (!decide ((args.getD 1 [])=([110,111,116]:List UInt8)))))=q2/\w=w') ?_ (fun hQ=>?_)
    ·rintro _ _ ⟨q2,rfl,rfl,rfl⟩
     refine zd (za (zk rfl (fun b4=>?_) (fun b4=>?_)))
     ·replace H:=H.1 (b4)
      exact zc (zb (yp (h:=(yp (h:=(zd (za (zq (zh (zp (zh (zM rfl rfl rfl ⟨(qK _ _),([]:List UInt8),false,rfl,H⟩))))))))))))
     ·replace H:=H.2 (b4)
      refine zm (za (zc (zb (yp (h:=(zd (za (zc (zb (yp (h:=(zr rfl rfl (W_smithyref17_lines hinputs rfl H) ?_))))))))))))
      rintro _ w2 ⟨hg2,l,A_l,c_l,rfl,hl,H⟩
      have hb1:=hl.ge'
      refine yp (h:=(zd (za (zc (zc (zb (yp (h:=(zd (za (WC.block ?_)))))))))))
      obtain ⟨I1,mu1,b0,HR1⟩:=H
      refine zA (fun n' L' w'=>∃ (out:List (List UInt8)),∃ (a8:Option Addr),∃ (a9:Nat),∃ (c4:Nat),∃ (i:Int),n'=mu1 out i/\L'=[(1,.slice a3 args.length a4),(9,.slice a8 c4 a9),(10,.slice A_l l.length c_l),(11,.int .i64 i)]/\I1 out i/\c4=out.length/\w.grownBy w' none/\Own vs w' w.heap.size 9 A_l c_l l/\Own vs w' w.heap.size 9 a8 a9 out/\Dj (blk A_l) (blk a8)) _ _ ⟨[],none,0,0,(0:Int),rfl,rfl,b0,rfl,hg2,(hl.base (fun g hg=>Nat.le_trans (Nat.le_refl _) (hb1 g hg))),(Own.nil vs w2 w.heap.size 9),Dj.nr⟩ sb ?_
      clear b0
      rintro _ _ w3 ⟨out,a8,a9,c4,i,rfl,rfl,hI1,rfl,gr3,k2,k3,dj1⟩
      have H:=HR1 out i hI1
      refine zc (zc (zb (yp (h:=(yp (h:=(yp (h:=(yp (h:=(zd (za (zk rfl (fun b5=>?_) (fun b5=>?_))))))))))))))
      ·replace H:=H.1 (of_decide_eq_true b5)
       refine zm (za (zc ?_))
       obtain ⟨J2,H,hJ2⟩:=H
       refine zL (fun L' w'=>∃ (out2:List (List UInt8)),∃ (c1:Option Addr),∃ (c3:Nat),∃ (d0:Nat),L'=[(1,.slice a3 args.length a4),(9,.slice c1 d0 c3),(10,.slice A_l l.length c_l),(11,.int .i64 i)]/\J2 out2/\d0=out2.length/\w.grownBy w' none/\Own vs w' w.heap.size 9 A_l c_l l/\Own vs w' w.heap.size 9 c1 c3 out2/\Dj (blk A_l) (blk c1)) ?_ (fun hQ=>?_)
       ·clear H
        rintro _ w4 ⟨out2,c1,c3,d0,rfl,H,rfl,gr4,k4,k5,dj2⟩
        replace H:=hJ2 out2 H
        refine za (zb (yp (h:=?_)))
        obtain ⟨h3,H⟩:=H
        exact zi rfl (Yld.add rfl rfl h3) (yp (h:=(zd (zw _ ⟨out2,c1,c3,out2.length,i+(1:Int),rfl,rfl,H.1,rfl,gr4,k4,k5,dj2⟩ sb H.2))))
       ·clear hJ2
        refine WC.block (zc (zO (fun k => !(Nat.beq k 12)) (LD [3,6,10] (fun w'=>Rd vs w' A_l c_l l/\Rd vs w' a3 a4 args)) mixed (by kernel_rfl) (fun k w' h _=>⟨(jA h k2.rd),(jA h (hargs.grown gr3))⟩) (zu rfl rfl (fun w' hw'=>ze qD rfl) (zu rfl rfl (fun w' hw'=>ze qD rfl) ?_))))
        obtain ⟨h4,H⟩:=H
        refine zu rfl rfl (fun w' hw'=>zn qD k2.rd rfl rfl rfl rfl h4.1 h4.2) (zu rfl rfl (fun w' hw'=>zo [] qD (hw' rfl).1 rfl rfl (iltN h4 rfl)) (zu rfl rfl (fun w' hw'=>ze qD rfl) ?_))
        obtain ⟨h5,H⟩:=H
        refine zu rfl rfl (fun w' hw'=>zn qD (hargs.grown gr3) rfl rfl rfl rfl h5.1 h5.2) (zu rfl rfl (fun w' hw'=>zo [] qD (hw' rfl).2 rfl rfl (iltN h5 rfl)) (zu rfl rfl (fun w' hw'=>ze qD rfl) (zu rfl rfl (fun w' hw'=>ze qD rfl) ?_)))
        obtain ⟨h6,H⟩:=H
        refine zu rfl rfl (fun w' hw'=>zn qD k2.rd rfl rfl rfl rfl h6.1 h6.2) (zu rfl rfl (fun w' hw'=>zo [] qD (hw' rfl).1 rfl rfl (iltN h6 rfl)) (zu rfl rfl (fun w' hw'=>ze qD rfl) (zT rfl (qI) rfl rfl (W_smithyref11_Find H) (fun v w' h w2 e=>DD.keep (⟨(jA (eqvL h.1 e) k2.rd),(jA (eqvL h.1 e) (hargs.grown gr3))⟩)) ?_)))
        rintro _ _ ⟨rfl,t70,rfl,H⟩
        refine zu rfl rfl (fun w' hw'=>ze qD rfl) (zu rfl rfl (fun w' hw'=>ze qD rfl) (zu rfl rfl (fun w' hw'=>ze qD rfl) (zu rfl rfl (fun w' hw'=>ze qD rfl) (zu rfl rfl (fun w' hw'=>qr Tryz.underlying4 rfl rfl) (zX (za (zk rfl (fun b6=>?_) (fun b6=>?_))))))))
        ·replace H:=H.1 (b6)
         refine zb (yp (h:=(yp (h:=(yp (h:=?_))))))
         obtain ⟨h7,H⟩:=H
         refine zi rfl (zn qD k2.rd rfl rfl rfl rfl h7.1 h7.2) (zi rfl (zo [] qD k2.rd rfl rfl (iltN h7 rfl)) (zP qD rfl rfl rfl (qG rfl qR) rfl (by omega) (fun g1 w5 hB1 hg3 hl1=>?_)))
         have hO1:Own vs w5 w.heap.size 9 (some ⟨g1,0,none⟩) 1 ([l.getD i.toNat []]:List (List UInt8)):=Own.ofBl hB1 (Nat.le_trans (qF gr3) hl1) (by simp [maxLen]) rfl
         have gr5:=qE gr3 hg3
         have k6:=k2.grown hg3
         have k7:=k3.grown hg3
         obtain ⟨h8,H⟩:=H
         exact zG qD rfl rfl One.s k7 rfl rfl hO1.rd rfl rfl h8 (qN h8) (qF gr5) (fun e2 e3 w6 hO2 hg4 hk1=>yp (h:=(zd (zg (WX.weaken sb (hQ _ _ ⟨out++([l.getD i.toNat []]:List (List UInt8)),e2,e3,(out++([l.getD i.toNat []]:List (List UInt8))).length,rfl,H,rfl,(qH gr5 hg4 k7.ge'),(k6.go hg4 dj1),hO2,(Dj.app dj1.symm k6.lt' hk1).symm⟩))))))
        ·replace H:=H.2 (b6)
         exact zm (zg (WX.weaken sb (hQ _ _ ⟨out,a8,a9,out.length,rfl,H,rfl,gr3,k2,k3,dj1⟩)))
      ·replace H:=H.2 (of_decide_eq_false b5)
       refine zz (zf (zf (zj (za (zc (zb (yp (h:=(zr rfl rfl (Zd k3.rd rfl H) ?_)))))))))
       rintro _ w7 ⟨hg5,t62,rfl,H⟩
       exact yp (h:=(yp (h:=(zd (za (zq (zp (zh (zM rfl rfl rfl ⟨(qE gr3 hg5),t62,true,rfl,H⟩)))))))))
    ·clear H
     rcases Bool.eq_false_or_eq_true ((decide ((args.length:Int)<(1:Int))) || (decide ((2:Int)<(args.length:Int)))) with b7 | b7
     ·exact gn b7 (h:=(gn b7 (h:=(gn b7 (h:=(gn b7 (h:=(z8 rfl rfl rfl rfl (z8 rfl rfl rfl rfl (z8 rfl rfl rfl rfl (z8 rfl rfl rfl rfl (gn b7 (h:=(zi rfl (zy (okb b7) rfl) (wk (hQ _ _ ⟨true,rfl,by rw [b7] <;> rfl,rfl⟩))))))))))))))))
     ·refine gp b7 (h:=(gp b7 (h:=(gp b7 (h:=(gp b7 (h:=?_)))))))
      rcases Bool.eq_false_or_eq_true (decide ((args.length:Int)=(2:Int))) with b8 | b8
      ·exact gp b8 (h:=(zC rfl rfl (okb b8) rfl (zn qD hargs rfl rfl rfl rfl (h2 b7 b8).1 (h2 b7 b8).2) (zC rfl rfl (okb b8) rfl (zo [] qD hargs rfl rfl (iltN (h2 b7 b8) rfl)) (gp b8 (h:=(zC rfl rfl (okb b7) rfl (zy (okb b8) rfl) (zi rfl (zv (okb b7) rfl) (wk (hQ _ _ ⟨!decide ((args.getD 1 [])=([110,111,116]:List UInt8)),rfl,by rw [b7,b8] <;> rfl,rfl⟩)))))))))
      ·exact gn b8 (h:=(gn b8 (h:=(gn b8 (h:=(gn b8 (h:=(zC rfl rfl (okb b7) rfl (zv (okb b8) rfl) (zi rfl (zv (okb b7) rfl) (wk (hQ _ _ ⟨false,rfl,by rw [b7,b8] <;> rfl,rfl⟩)))))))))))
   ·clear H
    rcases Bool.eq_false_or_eq_true (decide ((args.length:Int)<(1:Int))) with b9 | b9
    ·exact gn b9 (h:=(gn b9 (h:=(gn b9 (h:=(zi rfl (zy (okb b9) rfl) (wk (hQ _ _ ⟨true,rfl,by rw [b9] <;> rfl,rfl⟩))))))))
    ·exact gp b9 (h:=(gp b9 (h:=(gp b9 (h:=(zi rfl (zv (okb b9) rfl) (wk (hQ _ _ ⟨decide ((2:Int)<(args.length:Int)),rfl,by rw [b9] <;> rfl,rfl⟩))))))))
  ·replace H:=H.2 (of_decide_eq_false b3)
   refine zc (zb (yp (h:=(yp (h:=(zd (za (zk rfl (fun b10=>?_) (fun b10=>?_)))))))))
   ·replace H:=H.1 (of_decide_eq_true b10)
    refine zc (zb (yp (h:=(yp (h:=(zr rfl rfl (W_smithyref17_substituted hargs rfl hinputs rfl H) ?_))))))
    rintro _ w8 ⟨hg6,t890,t891,rfl,H⟩
    exact yp (h:=(yp (h:=(yp (h:=(yp (h:=(zd (za (zq (zp (zh (zM rfl rfl rfl ⟨hg6,t890,t891,rfl,H⟩)))))))))))))
   ·replace H:=H.2 (of_decide_eq_false b10)
    refine zc (zb (yp (h:=(yp (h:=(zd (za (zk rfl (fun b11=>?_) (fun b11=>?_)))))))))
    ·replace H:=H.1 (of_decide_eq_true b11)
     refine zc (zb (yp (h:=(yp (h:=(zr rfl rfl (W_smithyref17_sorted hargs rfl hinputs rfl H) ?_))))))
     rintro _ w9 ⟨hg7,t960,t961,rfl,H⟩
     exact yp (h:=(yp (h:=(yp (h:=(yp (h:=(zd (za (zq (zp (zh (zM rfl rfl rfl ⟨hg7,t960,t961,rfl,H⟩)))))))))))))
    ·replace H:=H.2 (of_decide_eq_false b11)
     refine zm (zg (za (zc (zb (yp (h:=(zd (za (zc (zc (zb (yp (h:=(zd (za (WC.block ?_))))))))))))))))
     obtain ⟨I2,mu2,d5,HR2⟩:=H
     refine zA (fun n' L' w'=>∃ (out3:List (List UInt8)),∃ (c7:Option Addr),∃ (c8:Nat),∃ (d1:Nat),∃ (i2:Int),n'=mu2 out3 i2/\L'=[(1,.slice a3 args.length a4),(2,.slice a0 inputs.length a1),(12,.slice c7 d1 c8),(13,.int .i64 i2)]/\I2 out3 i2/\d1=out3.length/\w.grownBy w' none/\Own vs w' w.heap.size 9 c7 c8 out3) _ _ ⟨[],none,0,0,(0:Int),rfl,rfl,d5,rfl,(qK _ _),(Own.nil vs w w.heap.size 9)⟩ sb ?_
     clear d5
     rintro _ _ w10 ⟨out3,c7,c8,d1,i2,rfl,rfl,hI2,rfl,gr10,k9⟩
     have H:=HR2 out3 i2 hI2
     refine zc (zc (zb (yp (h:=(yp (h:=(yp (h:=(yp (h:=(zd (za (zk rfl (fun b12=>?_) (fun b12=>?_))))))))))))))
     ·replace H:=H.1 (of_decide_eq_true b12)
      refine zm (za (zc (WC.block (zb (yp (h:=(yp (h:=(yp (h:=?_))))))))))
      obtain ⟨h9,H⟩:=H
      refine zi rfl (zn qD (hinputs.grown gr10) rfl rfl rfl rfl h9.1 h9.2) (zi rfl (zo [] qD (hinputs.grown gr10) rfl rfl (iltN h9 rfl)) (zr rfl rfl (W_smithyref1_Sum H) ?_))
      rintro _ w11 ⟨hg8,t110,rfl,H⟩
      refine zr rfl rfl (jW H) ?_
      rintro _ w12 ⟨hg9,t111,rfl,H⟩
      have gr12:=qE (qE gr10 hg8) hg9
      refine zP qD rfl rfl rfl (qG rfl qR) rfl (by omega) (fun g2 w13 hB2 hg10 hl2=>?_)
      have hO3:Own vs w13 w.heap.size 9 (some ⟨g2,0,none⟩) 1 ([t111]:List (List UInt8)):=Own.ofBl hB2 (Nat.le_trans (qF gr12) hl2) (by simp [maxLen]) rfl
      have gr13:=qE gr12 hg10
      have k12:=((k9.grown hg8).grown hg9).grown hg10
      obtain ⟨h10,H⟩:=H
      refine zG qD rfl rfl One.s k12 rfl rfl hO3.rd rfl rfl h10 (qN h10) (qF gr13) (fun f8 h0 w14 hO4 hg11 hk2=>yp (h:=(zd (zg (za (zb (yp (h:=?_))))))))
      obtain ⟨h11,H⟩:=H
      exact zi rfl (Yld.add rfl rfl h11) (yp (h:=(zd (zw _ ⟨out3++([t111]:List (List UInt8)),f8,h0,(out3++([t111]:List (List UInt8))).length,i2+(1:Int),rfl,rfl,H.1,rfl,(qH gr13 hg11 k12.ge'),hO4⟩ sb H.2))))
     ·replace H:=H.2 (of_decide_eq_false b12)
      refine zz (zf (zf (zj (za (zc (zb (yp (h:=(zr rfl rfl (Zd k9.rd rfl H) ?_)))))))))
      rintro _ w15 ⟨hg12,t63,rfl,H⟩
      exact yp (h:=(yp (h:=(yp (h:=(yp (h:=(yp (h:=(zd (za (zq (zM rfl rfl rfl ⟨(qE gr10 hg12),t63,decide ((args.length:Int)=(0:Int)),rfl,H⟩)))))))))))))
set_option maxHeartbeats 8000000 in
theorem W_smithyref17_Do {w:World} {tool:Int} {args:List (List UInt8)} {a3:Option Addr} {a4:Nat} {inputs:List (List UInt8)} {a0:Option Addr} {a1:Nat} {c0:Nat} {a5:Nat} {K:(List UInt8)->Int->Prop} (hargs:Rd vs w a3 a4 args) (c2:c0=args.length) (hinputs:Rd vs w a0 a1 inputs) (a6:a5=inputs.length) (H:Zi tool args inputs K):Fn Tryz.prog 48 ⟨[.int .i64 tool,.slice a3 c0 a4,.slice a0 a5 a1]⟩ w (fun v w'=>w.grownBy w' none/\∃ (r0:List UInt8),∃ (r1:Int),v=.tuple #[vs r0,.int .i64 r1]/\K r0 r1):=by
 subst c2
 subst a6
 unfold Zi at H
 refine Fn.enter (by kernel_rfl) Tryz.func48 rfl Tryz.ntmps48 rfl ?_
 replace H:=H (Nat.le_trans hargs.cap hargs.max)
 replace H:=H (Nat.le_trans hinputs.cap hinputs.max)
 refine zc (zb (yp (h:=(yp (h:=(zd (za (zc (zc (zb (yp (h:=(yp (h:=(yp (h:=(zD 3 (fun L' w'=>∃ q1:Bool,L'=[(15,.bool q1),(0,.int .i64 tool),(1,.slice a3 args.length a4),(2,.slice a0 inputs.length a1)]/\((decide (tool<(1:Int))) || (decide ((5:Int)<tool)))=q1/\w=w') ?_ (fun hQ=>?_))))))))))))))))))
 ·rintro _ _ ⟨q1,rfl,rfl,rfl⟩
  refine zd (za (zk rfl (fun b1=>?_) (fun b1=>?_)))
  ·replace H:=H.1 (b1)
   exact zc (zb (yp (h:=(yp (h:=(zd (za (zq (zh (zM rfl rfl rfl ⟨(qK _ _),([]:List UInt8),(111:Int),rfl,H⟩))))))))))
  ·replace H:=H.2 (b1)
   refine zm (za (zc (zb (yp (h:=(yp (h:=(yp (h:=(zr rfl rfl (W_smithyref17_done hargs rfl hinputs rfl H) ?_))))))))))
   rintro _ w1 ⟨hg1,t200,t201,rfl,H⟩
   have gr1:=hg1
   refine yp (h:=(yp (h:=(yp (h:=(yp (h:=(yp (h:=(zd (za (zc (zc (zb (yp (h:=(yp (h:=(yp (h:=(zD 4 (fun L' w'=>∃ q2:Bool,L'=[(29,.bool q2),(8,vs t200)]/\((!t201) || (decide ((65536:Int)<(t200.length:Int))))=q2/\w1=w') ?_ (fun hQ=>?_))))))))))))))))))))))
   ·rintro _ _ ⟨q2,rfl,rfl,rfl⟩
    refine zd (za (zk rfl (fun b2=>?_) (fun b2=>?_)))
    ·replace H:=H.1 (b2)
     exact zc (zb (yp (h:=(yp (h:=(zd (za (zq (zh (zM rfl rfl rfl ⟨gr1,([]:List UInt8),(117:Int),rfl,H⟩))))))))))
    ·replace H:=H.2 (b2)
     exact zm (za (zc (zb (yp (h:=(yp (h:=(yp (h:=(zd (za (zq (zM rfl rfl rfl ⟨gr1,t200,(0:Int),rfl,H⟩)))))))))))))
   ·clear H
    rcases Bool.eq_false_or_eq_true (!t201) with b3 | b3
    ·exact gn b3 (h:=(gn b3 (h:=(gn b3 (h:=(zi rfl (zy (okb b3) rfl) (wk (hQ _ _ ⟨true,rfl,by rw [b3] <;> rfl,rfl⟩))))))))
    ·exact gp b3 (h:=(gp b3 (h:=(gp b3 (h:=(zi rfl (zv (okb b3) rfl) (wk (hQ _ _ ⟨decide ((65536:Int)<(t200.length:Int)),rfl,by rw [b3] <;> rfl,rfl⟩))))))))
 ·clear H
  rcases Bool.eq_false_or_eq_true (decide (tool<(1:Int))) with b4 | b4
  ·exact gn b4 (h:=(gn b4 (h:=(zi rfl (zy (okb b4) rfl) (wk (hQ _ _ ⟨true,rfl,by rw [b4] <;> rfl,rfl⟩))))))
  ·exact gp b4 (h:=(gp b4 (h:=(zi rfl (zv (okb b4) rfl) (wk (hQ _ _ ⟨decide ((5:Int)<tool),rfl,by rw [b4] <;> rfl,rfl⟩))))))
set_option maxHeartbeats 8000000 in
theorem W_smithyref17_SameSum {w:World} {a:List UInt8} {b:List UInt8} {K:Bool->Prop} (H:kc a b K):Fn Tryz.prog 49 ⟨[.agg ⟨a32 a⟩,.agg ⟨a32 b⟩]⟩ w (fun v w'=>w.grownBy w' none/\∃ (r:Bool),v=.bool r/\K r):=by
 unfold kc at H
 refine Fn.enter (by kernel_rfl) Tryz.func49 rfl Tryz.ntmps49 rfl ?_
 refine zc (zb (WL.box (us:=(a32 a)) rfl rfl rfl (fun g1 w1 hB1 hg1 hl1=>WL.box (us:=(a32 b)) rfl rfl rfl (fun g2 w2 hB2 hg2 hl2=>?_))))
 have k1:=hB1.g0 hg2
 refine yp (h:=(zd (za (zc (zO (fun k => !(Nat.beq k 1 || Nat.beq k 3)) (LD [0,2] (fun w'=>Bl w' g1 44 (a32 a)/\Bl w' g2 44 (a32 b))) mixed (by kernel_rfl) (fun k w' h _=>⟨(jU h k1),(jU h hB2)⟩) (zu rfl rfl (fun w' hw'=>zY (vs:=(a32 a)) qD (hw' rfl).1 rfl rfl rfl rfl) (zT rfl (qI) rfl rfl (jW H) (fun v w' h w2 e=>DD.keep (⟨(Bl.g0 k1 (qQ h.1 e)),(Bl.g0 hB2 (qQ h.1 e))⟩)) ?_)))))))
 rintro _ w3 ⟨hg3,t6,rfl,H⟩
 have k2:=k1.g0 hg3
 have k3:=hB2.g0 hg3
 refine zu rfl rfl (fun w' hw'=>zY (vs:=(a32 b)) qD (hw' rfl).2 rfl rfl rfl rfl) (zT rfl (qI) rfl rfl (jW H) (fun v w' h w2 e=>DD.keep (⟨(Bl.g0 k2 (qQ h.1 e)),(Bl.g0 k3 (qQ h.1 e))⟩)) ?_)
 rintro _ w4 ⟨hg4,t8,rfl,H⟩
 have k4:=k2.g0 hg4
 have k5:=k3.g0 hg4
 exact zu rfl rfl (fun w' hw'=>ze qD rfl) (zu rfl rfl (fun w' hw'=>ze qD rfl) (zX (za (zq (zx rfl rfl ⟨(qE (qE (qE hg1 hg2) hg3) hg4),decide (t6=t8),rfl,H⟩)))))
set_option maxHeartbeats 8000000 in
theorem W_smithyref17_Parts {S:List Nat} {w:World} {tool:Int} {args:List (List UInt8)} {a3:Option Addr} {a4:Nat} {inputs:List (List UInt8)} {a0:Option Addr} {a1:Nat} {c0:Nat} {a5:Nat} {K:(List (List UInt8))->Prop} (hG:GOK S w) (hS101:101∈S) (hargs:Rd vs w a3 a4 args) (c2:c0=args.length) (hinputs:RdK 32 a32 w a0 a1 inputs) (a6:a5=inputs.length) (H:kz tool args inputs K):Fn Tryz.prog 74 ⟨[.int .i64 tool,.slice a3 c0 a4,.slice a0 a5 a1]⟩ w (fun v w'=>w.grownBy w' none/\∃ (r:List (List UInt8)),∃ (A_r:Option Addr),∃ (c_r:Nat),v=.slice A_r r.length c_r/\Own vs w' w.heap.size 9 A_r c_r r/\K r):=by
 subst c2
 subst a6
 unfold kz at H
 refine Fn.enter (by kernel_rfl) Tryz.func74 rfl Tryz.ntmps74 rfl ?_
 replace H:=H (Nat.le_trans hargs.cap hargs.max)
 replace H:=H (Nat.le_trans hinputs.cap hinputs.max)
 refine zc (zb (yp (h:=(zd (za (zc (zb (yp (h:=(zr rfl rfl (W_strconv_Itoa hG hS101 H) ?_))))))))))
 rintro _ w1 ⟨hg1,t10,rfl,H⟩
 have gr1:=hg1
 refine yp (h:=(yp (h:=(zr rfl rfl (W_strconv_Itoa (hG.grown gr1) hS101 H) ?_))))
 rintro _ w2 ⟨hg2,t13,rfl,H⟩
 have gr2:=qE gr1 hg2
 refine zP qD rfl rfl rfl (qG rfl (qG rfl (qG rfl qR))) rfl (by omega) (fun g1 w3 hB1 hg3 hl1=>?_)
 have hO1:Own vs w3 w.heap.size 9 (some ⟨g1,0,none⟩) 3 ([([115,109,105,116,104,121]:List UInt8),t10,t13]:List (List UInt8)):=Own.ofBl hB1 (Nat.le_trans (qF gr2) hl1) (by simp [maxLen]) rfl
 have gr3:=qE gr2 hg3
 refine yp (h:=(zd (za (zc (zb (yp (h:=(yp (h:=?_)))))))))
 obtain ⟨h1,H⟩:=H
 refine zG qD rfl rfl One.s hO1 rfl rfl (hargs.grown gr3) rfl rfl h1 (qN h1) (qF gr3) (fun A_l c_l w4 hO2 hg4 hk1=>yp (h:=(zd (za (zc (zc (zb (yp (h:=(zd (za (WC.block ?_))))))))))))
 obtain ⟨I1,mu1,b0,HR1⟩:=H
 refine zA (fun n' L' w'=>∃ (l:List (List UInt8)),∃ (d7:Option Addr),∃ (d9:Nat),∃ (n_l:Nat),∃ (i:Int),n'=mu1 l i/\L'=[(2,.slice a0 inputs.length a1),(7,.slice d7 n_l d9),(8,.int .i64 i)]/\I1 l i/\n_l=l.length/\w.grownBy w' none/\Own vs w' w.heap.size 9 d7 d9 l) _ _ ⟨([([115,109,105,116,104,121]:List UInt8),t10,t13]:List (List UInt8))++args,A_l,c_l,(([([115,109,105,116,104,121]:List UInt8),t10,t13]:List (List UInt8))++args).length,(0:Int),rfl,rfl,b0,rfl,(qH gr3 hg4 hO1.ge'),hO2⟩ sb ?_
 clear b0
 rintro _ _ w5 ⟨l,d7,d9,n_l,i,rfl,rfl,hI1,rfl,gr5,k1⟩
 have H:=HR1 l i hI1
 refine zc (zc (zb (yp (h:=(yp (h:=(yp (h:=(yp (h:=(zd (za (zk rfl (fun b1=>?_) (fun b1=>?_))))))))))))))
 ·replace H:=H.1 (of_decide_eq_true b1)
  refine zm (za (zc (WC.block (zb (yp (h:=(yp (h:=(yp (h:=?_))))))))))
  obtain ⟨h2,H⟩:=H
  refine zi rfl (zE qD (hinputs.grown gr5) rfl rfl rfl rfl h2.1 h2.2) (zi rfl (zU [] qD (hinputs.grown gr5) rfl rfl (iltN h2 rfl)) (zr rfl rfl (jW H) ?_))
  rintro _ w6 ⟨hg5,t29,rfl,H⟩
  have gr6:=qE gr5 hg5
  refine zP qD rfl rfl rfl (qG rfl qR) rfl (by omega) (fun g2 w7 hB2 hg6 hl2=>?_)
  have hO3:Own vs w7 w.heap.size 9 (some ⟨g2,0,none⟩) 1 ([t29]:List (List UInt8)):=Own.ofBl hB2 (Nat.le_trans (qF gr6) hl2) (by simp [maxLen]) rfl
  have gr7:=qE gr6 hg6
  have k3:=(k1.grown hg5).grown hg6
  obtain ⟨h3,H⟩:=H
  refine zG qD rfl rfl One.s k3 rfl rfl hO3.rd rfl rfl h3 (qN h3) (qF gr7) (fun f7 f9 w8 hO4 hg7 hk2=>yp (h:=(zd (zg (za (zb (yp (h:=?_))))))))
  obtain ⟨h4,H⟩:=H
  exact zi rfl (Yld.add rfl rfl h4) (yp (h:=(zd (zw _ ⟨l++([t29]:List (List UInt8)),f7,f9,(l++([t29]:List (List UInt8))).length,i+(1:Int),rfl,rfl,H.1,rfl,(qH gr7 hg7 k3.ge'),hO4⟩ sb H.2))))
 ·replace H:=H.2 (of_decide_eq_false b1)
  exact zz (zf (zf (zj (za (zc (zb (yp (h:=(yp (h:=(zd (za (zq (zx rfl rfl ⟨gr5,l,d7,d9,rfl,k1,H⟩))))))))))))))
set_option maxHeartbeats 8000000 in
theorem W_smithyref17_Key {S:List Nat} {w:World} {tool:Int} {args:List (List UInt8)} {a3:Option Addr} {a4:Nat} {inputs:List (List UInt8)} {a0:Option Addr} {a1:Nat} {c0:Nat} {a5:Nat} {K:(List UInt8)->Prop} (hG:GOK S w) (hS101:101∈S) (hargs:Rd vs w a3 a4 args) (c2:c0=args.length) (hinputs:RdK 32 a32 w a0 a1 inputs) (a6:a5=inputs.length) (H:kU tool args inputs K):Fn Tryz.prog 47 ⟨[.int .i64 tool,.slice a3 c0 a4,.slice a0 a5 a1]⟩ w (fun v w'=>w.grownBy w' none/\∃ (r:List UInt8),v=.agg ⟨a32 r⟩/\K r):=by
 subst c2
 subst a6
 unfold kU at H
 refine Fn.enter (by kernel_rfl) Tryz.func47 rfl Tryz.ntmps47 rfl ?_
 replace H:=H (Nat.le_trans hargs.cap hargs.max)
 replace H:=H (Nat.le_trans hinputs.cap hinputs.max)
 refine zc (zb (WL.alloc rfl zero44 (fun g1 w1 hB1 hg1 hl1=>?_)))
 rw [a32_zero] at hB1
 have gr1:=hg1
 refine zd (za (zc (zb (yp (h:=(yp (h:=(yp (h:=(zr rfl rfl (W_smithyref17_Parts (hG.grown gr1) hS101 (hargs.grown gr1) rfl (hinputs.grown gr1) rfl H) ?_))))))))))
 rintro _ w2 ⟨hg2,t10,n5,n7,rfl,ht10,H⟩
 have hb1:=ht10.ge'
 refine zr rfl rfl (W_smithyref1_Many (ht10.base (fun g hg=>Nat.le_trans (qF gr1) (hb1 g hg))).rd rfl H) ?_
 rintro _ w3 ⟨hg3,t11,rfl,H⟩
 exact zH (vs:=(a32 t11)) qD rfl rfl rfl (kt _) ((hB1.g0 hg2).g0 hg3) rfl rfl (fun w4 hB2 hg4=>zd (za (zq (z7 qD rfl rfl rfl hB2 rfl ⟨(qH (qE (qE gr1 hg2) hg3) hg4 (Ge.le (Ge.box hl1) (Nat.le_refl _))),t11,rfl,H⟩))))
end
 
section
open Go Go.RowKit
theorem bits_or_comm (k:IntKind) (a b:Int):bits .or k a b=bits .or k b a:=by
 unfold bits
 dsimp only
 rw [BitVec.or_comm]
theorem wr32 (z:Int):IntKind.wrap .u32 z=z % 4294967296:=by simp [IntKind.wrap,IntKind.bits,IntKind.signed]
theorem wr64 (z:Int):IntKind.wrap .u64 z=z % 18446744073709551616:=by simp [IntKind.wrap,IntKind.bits,IntKind.signed]
theorem wr8 (z:Int):IntKind.wrap .u8 z=z % 256:=by simp [IntKind.wrap,IntKind.bits,IntKind.signed]
theorem wr8_ok (z:Int):0<=IntKind.wrap .u8 z/\IntKind.wrap .u8 z<=255:=by rw [wr8]; omega
theorem turn_M {x n:Int} {K:Int->Prop} (h0:0<n) (h1:n<32) (h:K (rotr x n)):qS x n K:=by
 have hw:IntKind.wrap .u64 (32 - n)=32 - n:=by rw [wr64]; omega
 have e:rotr x n=bits .or .u32 (shrV .u32 x n.toNat) (shlV .u32 x (32 - n).toNat):=by
  unfold rotr rotl
  rw [show (0 - n) % 32=32 - n by omega,show 32 - (32 - n)=n by omega,bits_or_comm]
 refine ⟨by omega,by rw [hw]; omega,?_⟩
 rw [hw,<-e]
 exact h
theorem D_len:∀ (n:Nat) (hs:List Int) (x:List UInt8),x.length<=n->(D hs x).2.length=x.length % 64
 | 0,hs,x,h=>by
  rw [D_step,if_neg (by omega)]
  show x.length=_
  omega
 | n+1,hs,x,h=>by
  rw [D_step]
  split
  ·rw [D_len n _ _ (by rw [List.length_drop]; omega),List.length_drop]; omega
  ·show x.length=_
   omega
theorem shaS_whole (b:List UInt8):shaS b=outAt (D h0s (endS b (b.length:Int))).1 32:=by
 unfold shaS sumS
 rw [absorb_fuel _ _ _ (Nat.le_refl _)]
 have e:wrS h0s [] b=D h0s b:=by unfold wrS D; rw [List.nil_append]
 rw [e]
 have h1:endS b (b.length:Int)=b++([128]++List.replicate ((120 - (b.length+1) % 64) % 64) 0++lenBs (8*(b.length:Int)) 8):=by
  unfold endS padS; simp
 have h2:endS (D h0s b).2 (b.length:Int)=(D h0s b).2++([128]++List.replicate ((120 - (b.length+1) % 64) % 64) 0++lenBs (8*(b.length:Int)) 8):=by
  have h3:=D_len _ h0s b (Nat.le_refl _)
  have h4:(120 - ((D h0s b).2++[(128:UInt8)]).length % 64) % 64=(120 - (b.length+1) % 64) % 64:=by
   rw [List.length_append,h3,List.length_singleton]; omega
  unfold endS padS
  rw [h4]; simp
 rw [h1,h2,D_app _ b.length h0s b (Nat.le_refl _)]
theorem padS_ge (l:List UInt8):l.length<=(padS l).length/\(padS l).length<=l.length+63/\(padS l).length % 64=56:=by
 unfold padS
 rw [List.length_append,List.length_replicate]
 omega
theorem padS_id {l:List UInt8} (h:l.length % 64=56):padS l=l:=by
 unfold padS
 rw [show (120 - l.length % 64) % 64=0 by omega]
 simp
theorem endS_len (s:List UInt8):(endS s (s.length:Int)).length % 64=0/\(endS s (s.length:Int)).length<=s.length+72:=by
 have:=padS_ge (s++[128])
 unfold endS
 rw [List.length_append,lenBs_len]
 rw [List.length_append,List.length_singleton] at this
 omega
theorem getbs (M:List UInt8) (a j:Nat) (hj:j<64):((M.drop a).take 64).getD j 0=M.getD (a+j) 0:=by
 simp [List.getD,List.getElem?_take,hj]
theorem table_M {K:List Int->Prop} (h:K ktab):kI K:=h
theorem sum_M {s:List UInt8} {K:List UInt8->Prop} (hs:s.length<=1000000) (h:K (shaS s)):jV s K:=by
 have hP:=padS_ge (s++[128])
 have hPl:(s++[(128:UInt8)]).length=s.length+1:=by simp
 rw [hPl] at hP
 have hE:=endS_len s
 refine table_M ⟨by simp only [In]; omega,by omega,by simp; omega,by simp; omega,?_⟩
 refine ⟨fun m=>padS m=padS (s++[128]),fun m=>(padS (s++[128])).length - m.length,by rw [List.nil_append],fun m hm=>⟨by omega,fun h56=>?_,fun h56=>?_⟩⟩
 ·have h1:m.length % 64≠56:=by omega
  have h2:=padS_step m h1
  have h3:=(padS_ge (m++[0])).1
  rw [h2,hm,List.length_append,List.length_singleton] at h3
  refine ⟨by simp only [List.length_singleton]; omega,h2.trans hm,?_⟩
  dsimp only
  rw [List.length_append,List.length_singleton]
  omega
 have hm:padS m=padS (s++[128]):=hm
 rw [padS_id (l:=m) (by omega)] at hm
 subst hm
 have hn8:IntKind.wrap .u64 ((IntKind.wrap .u64 (s.length:Int))*(8:Int))=8*(s.length:Int):=by rw [wr64,wr64]; omega
 rw [hn8]
 refine ⟨fun m2 i => -1<=i/\i<=7/\m2=padS (s++[128])++lenBs (8*(s.length:Int)) (7 - i).toNat,fun _ i=>(i+1).toNat,⟨by omega,by omega,by simp [lenBs]⟩,fun m2 i ⟨a0,a1,a2⟩=>⟨fun hlt=>?_,fun hge=>?_⟩⟩
 ·have e8:IntKind.wrap .u64 ((8:Int)*i)=8*i:=by rw [wr64]; omega
  have hb:UInt8.ofNat (IntKind.wrap .u8 (shrV .u64 (8*(s.length:Int)) (8*i).toNat)).toNat=lenB (8*(s.length:Int)) (7 - i).toNat:=by
   unfold lenB u8v
   rw [show (8*(7 - (((7 - i).toNat:Nat):Int))).toNat=(8*i).toNat by omega]
  have hl2:m2.length<=s.length+80:=by rw [a2,List.length_append,lenBs_len]; omega
  rw [e8,hb]
  refine ⟨by simp only [In]; omega,by omega,wr8_ok _,by simp only [List.length_singleton]; omega,by simp only [In]; omega,⟨by omega,by omega,?_⟩,by dsimp only; omega⟩
  rw [show (7 - (i - 1)).toNat=(7 - i).toNat+1 by omega,lenBs,<-List.append_assoc,<-a2]
 have hm2:m2=endS s (s.length:Int):=by
  rw [a2,show (7 - i).toNat=8 by omega]; rfl
 clear a2 hn8
 subst hm2
 generalize hMd:endS s (s.length:Int)=M at *
 rw [shaS_whole,hMd] at h
 refine ⟨fun at_ hh=>0<=at_/\at_<=M.length/\at_ % 64=0/\hh.length=8/\D h0s M=D hh (M.drop at_.toNat),fun at_ _=>M.length - at_.toNat,⟨by omega,by omega,by omega,rfl,rfl⟩,fun at_ hh ⟨b0,b1,b2,b3,b4⟩ _=>⟨fun hlt=>⟨by omega,?_⟩,fun hge=>?_⟩⟩
 ·have hfit:at_+64<=M.length:=by omega
  generalize hbs:(M.drop at_.toNat).take 64=bs
  have hget:∀ j:Nat,j<64->M.getD (at_.toNat+j) 0=bs.getD j 0:=fun j hj=>by rw [<-hbs,getbs M _ j hj]
  refine ⟨fun i w_=>0<=i/\i<=16/\w_=wsAt bs i.toNat,fun i _=>16 - i.toNat,⟨by omega,by omega,rfl⟩,fun i w_ ⟨c0,c1,c2⟩ _=>⟨fun hi=>?_,fun hi=>?_⟩⟩
  ·refine ⟨by simp only [In]; omega,by simp only [In]; omega,by omega,by simp only [In]; omega,by simp only [In]; omega,by simp only [In]; omega,by omega,by simp only [In]; omega,by simp only [In]; omega,by simp only [In]; omega,by omega,by simp only [In]; omega,by simp only [In]; omega,by simp only [In]; omega,by omega,by omega,by simp only [In]; omega,⟨by omega,by omega,?_⟩,by dsimp only; omega⟩
   rw [show (i+1).toNat=i.toNat+1 by omega,wsAt,<-c2]
   congr 1
   rw [wnext,if_pos (by omega)]
   rw [show (at_+4*i).toNat=at_.toNat+(4*i.toNat) by omega,show (at_+4*i+1).toNat=at_.toNat+(4*i.toNat+1) by omega,show (at_+4*i+2).toNat=at_.toNat+(4*i.toNat+2) by omega,show (at_+4*i+3).toNat=at_.toNat+(4*i.toNat+3) by omega]
   rw [hget _ (by omega),hget _ (by omega),hget _ (by omega),hget _ (by omega)]
  refine ⟨fun i w_=>16<=i/\i<=64/\w_=wsAt bs i.toNat,fun i _=>64 - i.toNat,⟨by omega,by omega,by rw [c2,show i.toNat=16 by omega]; rfl⟩,fun i3 w_2 ⟨d0,d1,d2⟩ _=>⟨fun hi3=>?_,fun hi3=>?_⟩⟩
  ·refine ⟨by simp only [In]; omega,by omega,turn_M (by decide) (by decide) ⟨by simp only [In]; omega,by omega,turn_M (by decide) (by decide) ⟨by simp only [In]; omega,by omega,by simp only [In]; omega,by omega,turn_M (by decide) (by decide) ⟨by simp only [In]; omega,by omega,turn_M (by decide) (by decide) ⟨by simp only [In]; omega,by omega,by simp only [In]; omega,by omega,by simp only [In]; omega,by omega,by omega,by simp only [In]; omega,⟨by omega,by omega,?_⟩,by dsimp only; omega⟩⟩⟩⟩⟩
   rw [show (i3+1).toNat=i3.toNat+1 by omega,wsAt,<-d2]
   congr 1
   rw [wnext,if_neg (by omega)]
   rw [show (i3 - 15).toNat=i3.toNat - 15 by omega,show (i3 - 2).toNat=i3.toNat - 2 by omega,show (i3 - 16).toNat=i3.toNat - 16 by omega,show (i3 - 7).toNat=i3.toNat - 7 by omega]
   dsimp only
   generalize bits .xor .u32 _ _=A
   generalize bits .xor .u32 _ _=B
   generalize w_2.getD (i3.toNat - 16) 0=x
   generalize w_2.getD (i3.toNat - 7) 0=y
   simp only [wr32]
   omega
  obtain rfl:i3=64:=by omega
  have e64:(64:Int).toNat=64:=rfl
  have e8:(8:Int).toNat=8:=rfl
  rw [e64] at d2
  refine ⟨by omega,by simp [b3],?_⟩
  refine ⟨fun v i=>0<=i/\i<=64/\v=hAt w_2 hh i.toNat,fun _ i=>64 - i.toNat,⟨by omega,by omega,by rw [List.nil_append]; rfl⟩,fun v i4 ⟨e0,e1,e2⟩=>⟨fun hi4=>?_,fun hi4=>?_⟩⟩
  ·have hv:v.length=8:=by rw [e2]; exact hAt_len _ _ b3 _
   have hk:ktab.length=64:=rfl
   refine ⟨by omega,turn_M (by decide) (by decide) ⟨by omega,turn_M (by decide) (by decide) ⟨by omega,turn_M (by decide) (by decide) ⟨by omega,by omega,by omega,by omega,by omega,by omega,by omega,by omega,turn_M (by decide) (by decide) ⟨by omega,turn_M (by decide) (by decide) ⟨by omega,turn_M (by decide) (by decide) ⟨by omega,by omega,by omega,by omega,by omega,by omega,by omega,by omega,by omega,by omega,by omega,by omega,by omega,by simp only [In]; omega,⟨by omega,by omega,?_⟩,by dsimp only; omega⟩⟩⟩⟩⟩⟩⟩
   have hmax:(if IntKind.signed .u32=true then (-1:Int) else IntKind.max .u32)=IntKind.u32.max:=rfl
   rw [show (i4+1).toNat=i4.toNat+1 by omega,hAt,<-e2,hnext,hmax]
   generalize IntKind.wrap .u32 (IntKind.wrap .u32 (IntKind.wrap .u32 (IntKind.wrap .u32 (v.getD 7 0+_)+_)+_)+_)=one
   have e3:∀ A B:Int,IntKind.wrap .u32 (IntKind.wrap .u32 (one+A)+B)=IntKind.wrap .u32 (one+IntKind.wrap .u32 (A+B)):=fun A B=>by
    simp only [wr32]
    omega
   rw [e3]
  obtain rfl:i4=64:=by omega
  have hv:v.length=8:=by rw [e2]; exact hAt_len _ _ b3 _
  refine ⟨fun i h2=>0<=i/\i<=8/\h2=sumAt hh v i.toNat,fun i _=>8 - i.toNat,⟨by omega,by omega,rfl⟩,fun i5 h2 ⟨f0,f1,f2⟩ _=>⟨fun hi5=>?_,fun hi5=>?_⟩⟩
  ·refine ⟨by omega,by omega,by omega,by simp only [In]; omega,⟨by omega,by omega,?_⟩,by dsimp only; omega⟩
   rw [show (i5+1).toNat=i5.toNat+1 by omega,sumAt,<-f2]
  obtain rfl:i5=8:=by omega
  have hmix:h2=mixS hh bs:=by rw [f2,e2,e64,e8,d2,mixS]
  refine ⟨by simp only [In]; omega,⟨by omega,by omega,by omega,by rw [hmix,mixS_len]; exact b3,?_⟩,by dsimp only; omega⟩
  rw [b4,D_step,if_pos (by rw [List.length_drop]; omega),hbs,<-hmix,List.drop_drop]
  rw [show (at_+64).toNat=at_.toNat+64 by omega]
 have hd:M.drop at_.toNat=[]:=List.drop_eq_nil_of_le (by omega)
 rw [hd,D_step hh [],if_neg (by simp)] at b4
 have hh1:(D h0s M).1=hh:=by rw [b4]
 rw [hh1] at h
 refine ⟨fun i o=>0<=i/\i<=8/\o=outAt hh (4*i).toNat,fun i _=>8 - i.toNat,⟨by omega,by omega,rfl⟩,fun i6 o ⟨g0,g1,g2⟩=>⟨fun hi6=>?_,fun hi6=>?_⟩⟩
 ·refine ⟨fun j o=>0<=j/\j<=4/\o=outAt hh (4*i6+j).toNat,fun j _=>4 - j.toNat,⟨by omega,by omega,by rw [g2,Int.add_zero]⟩,fun j o2 ⟨p0,p1,p2⟩=>⟨fun hj=>?_,fun hj=>?_⟩⟩
  ·have e64:IntKind.wrap .u64 (24 - 8*j)=24 - 8*j:=by rw [wr64]; omega
   rw [e64]
   refine ⟨by simp only [In]; omega,by simp only [In]; omega,by omega,by simp only [In]; omega,by simp only [In]; omega,by omega,by omega,wr8_ok _,by rw [p2]; exact outAt_len _ _,by simp only [In]; omega,⟨by omega,by omega,?_⟩,by dsimp only; omega⟩
   rw [show (4*i6+(j+1)).toNat=(4*i6+j).toNat+1 by omega,outAt,<-p2]
   congr 1
   unfold u8v
   rw [show (4*i6+j).toNat / 4=i6.toNat by omega,show (24 - 8*((((4*i6+j).toNat:Nat):Int) % 4))=24 - 8*j by omega]
  ·refine ⟨by simp only [In]; omega,⟨by omega,by omega,?_⟩,by dsimp only; omega⟩
   rw [p2,show 4*(i6+1)=4*i6+j by omega]
 ·rw [g2,show (4*i6).toNat=32 by omega]
  exact h
end
 
section
open Go Go.RowKit
theorem getD_memH {α:Type} {l:List α} {k:Nat} {d:α} (h:k<l.length):l.getD k d∈l:=by
 simp [List.getD,h]
theorem hex_M {s:List UInt8} {K:List UInt8->Prop} (hl:s.length=32) (h:K (hexS s)):jj s K:=by
 refine ⟨by omega,fun out i=>0<=i/\i<=32/\out=hexS (s.take i.toNat),fun _ i=>32 - i.toNat,⟨by omega,by omega,rfl⟩,fun out i ⟨a0,a1,a2⟩=>⟨fun hlt=>?_,fun hge=>?_⟩⟩
 ·have hs:=shr_4 (s.getD i.toNat 0)
  have ha:=and_15 (s.getD i.toNat 0)
  have ho:out.length<=64:=by rw [a2,hexS_len,List.length_take]; omega
  refine ⟨by omega,by simp only [List.length_cons,List.length_nil]; omega,by omega,by simp only [List.length_cons,List.length_nil]; omega,by simp only [List.length_cons,List.length_nil]; omega,by simp only [In]; omega,⟨by omega,by omega,?_⟩,by dsimp only; omega⟩
  rw [show (i+1).toNat=i.toNat+1 by omega,hexS_take s i.toNat (by omega),<-a2]
  rfl
 ·rw [a2,show i.toNat=32 by omega,List.take_of_length_le (by omega)]
  exact h
theorem text_M {s:List UInt8} {K:List UInt8->Prop} (hl:s.length=32) (h:K (hexS s)):M_sha_Text s K:=by
 intro t ht he
 have:t=s:=List.ext_getElem (by omega) fun i h1 h2=>by
  have:=he i (by omega)
  simpa [List.getD,h1,h2] using this
 rw [this]; exact h
theorem sameSum_M {a b:List UInt8} {K:Bool->Prop} (ha:a.length=32) (hb:b.length=32) (h:K (decide (hexS a=hexS b))):kc a b K:=hex_M ha (hex_M hb h)
theorem catM_le (l:List (List UInt8)) (h:∀ x∈l,x.length<=1000):(catM l).length<=1004*l.length:=by
 induction l with
 | nil=>simp [catM]
 | cons x l ih =>
  have hx:=h x (by simp)
  have:=ih (fun y hy=>h y (by simp [hy]))
  have e:catM (x :: l)=be4 x.length++x++catM l:=rfl
  have hb:(be4 x.length).length=4:=rfl
  rw [e,List.length_append,List.length_append,hb,List.length_cons]
  omega
theorem rmany_M {l:List (List UInt8)} {K:List UInt8->Prop} (hl:l.length<=500) (hx:∀ x∈l,x.length<=1000) (h:K (manyS l)):kV l K:=by
 intro _
 refine ⟨fun m i=>0<=i/\i<=l.length/\m=catM (l.take i.toNat),fun _ i=>l.length - i.toNat,⟨by omega,by omega,rfl⟩,fun m i ⟨a0,a1,a2⟩=>⟨fun hlt=>?_,fun hge=>?_⟩⟩
 ·have h1:=hx _ (getD_memH (l:=l) (k:=i.toNat) (d:=[]) (by omega))
  have hm:m.length<=1004*500:=by
   have:=catM_le (l.take i.toNat) fun x hx'=>hx x (List.mem_of_mem_take hx')
   rw [List.length_take] at this
   rw [a2]; omega
  refine ⟨by omega,wr8_ok _,wr8_ok _,wr8_ok _,wr8_ok _,by simp only [List.length_cons,List.length_nil]; omega,by omega,by simp only [List.length_append,List.length_cons,List.length_nil]; omega,by simp only [In]; omega,⟨by omega,by omega,?_⟩,by dsimp only; omega⟩
  rw [show (i+1).toNat=i.toNat+1 by omega,catM_take l i.toNat (by omega),<-a2,<-List.append_assoc]
  rfl
 ·have hm:=catM_le l hx
  rw [a2,List.take_of_length_le (by omega)]
  refine sum_M (by omega) ?_
  rw [<-manyS_eq]
  exact h
end
 
section
open Go Go.RowKit
theorem rkparts_M {tool:Int} {args inputs:List (List UInt8)} {K:List (List UInt8)->Prop} (ht:In .i64 tool) (ha:args.length<=100) (hi:inputs.length<=100) (hx:∀ x∈inputs,x.length=32) (h:K (partsP tool args inputs)):kz tool args inputs K:=by
 intro _ _
 refine ⟨ht,by simp only [In]; omega,by simp only [List.length_cons,List.length_nil]; omega,parts_loop (fun s K h1 h2=>hex_M h1 h2) (by simp only [List.length_append,List.length_cons,List.length_nil]; omega) (by omega) hx h⟩
theorem rkey_M {tool:Int} {args inputs:List (List UInt8)} {K:List UInt8->Prop} (ht:In .i64 tool) (ha:args.length<=40) (hi:inputs.length<=40) (hax:∀ x∈args,x.length<=1000) (hx:∀ x∈inputs,x.length=32) (h:K (manyS (partsP tool args inputs))):kU tool args inputs K:=by
 intro _ _
 exact rkparts_M ht (by omega) (by omega) hx (rmany_M (by rw [partsP_len]; omega) (partsP_le ht (by omega) hax hx) h)
end
 
section
open Go Go.RowKit
theorem bytesLessF_lt (a b:Bs):Op.bytesLess a b=decide (a<b):=bytesLess_eq a b
theorem fail_else {t:Int} {args inputs:List (List UInt8)} (ht:¬ (t=1∨t=2∨t=3∨t=4∨t=5)):doP t args inputs=([],.e 10):=by
 unfold doP
 rw [if_neg (by omega),if_neg (by omega),if_neg (by omega)]
end
 
section
open Go Go.RowKit
theorem dec_eq_u8 {s:List UInt8} {i:Nat} {c:UInt8}:((s.getD i 0).toNat:Int)=(c.toNat:Int)↔s.getD i 0=c:=by
 rw [Int.ofNat_inj,UInt8.toNat_inj]
theorem cLines_M {s:List UInt8} {K:List (List UInt8)->Prop} (hs:s.length<=1000000) (h:K (lineR s)):ky s K:=by
 refine ⟨fun l from_ i=>0<=from_/\from_<=i/\i<=s.length/\l.length<=i/\(10:UInt8)∉(s.drop from_.toNat).take (i.toNat - from_.toNat)/\lineR s=l++lineR (s.drop from_.toNat),fun _ _ i=>s.length - i.toNat,⟨by omega,by omega,by omega,by simp,by simp,by simp⟩,fun l from_ i ⟨a0,a1,a2,a3,a4,a5⟩=>⟨fun hlt=>?_,fun hge=>?_⟩⟩
 ·have hd:(s.drop from_.toNat)=(s.drop from_.toNat).take (i.toNat - from_.toNat)++s.getD i.toNat 0 :: s.drop (i.toNat+1):=by
   conv=>lhs; rw [<-List.take_append_drop (i.toNat - from_.toNat) (s.drop from_.toNat)]
   rw [List.drop_drop,show from_.toNat+(i.toNat - from_.toNat)=i.toNat by omega,List.drop_eq_getElem_cons (show i.toNat<s.length by omega)]
   simp [List.getD,show i.toNat<s.length by omega]
  have ht1:(s.drop from_.toNat).take ((i+1).toNat - from_.toNat)=(s.drop from_.toNat).take (i.toNat - from_.toNat)++[s.getD i.toNat 0]:=by
   rw [show (i+1).toNat - from_.toNat=(i.toNat - from_.toNat)+1 by omega,List.take_succ_eq_append_getElem (show i.toNat - from_.toNat<(s.drop from_.toNat).length by rw [List.length_drop]; omega)]
   rw [List.getElem_drop]
   simp [List.getD,show from_.toNat+(i.toNat - from_.toNat)=i.toNat by omega,show i.toNat<s.length by omega]
  refine ⟨fun l2 f2=>(s.getD i.toNat 0=10/\l2=l++[(s.drop from_.toNat).take (i.toNat - from_.toNat)]/\f2=i+1)∨(s.getD i.toNat 0≠10/\l2=l/\f2=from_),⟨by omega,fun e=>⟨by omega,by simp only [List.length_singleton]; omega,by simp only [In]; omega,.inl ⟨(dec_eq_u8 (c:=10)).1 e,rfl,rfl⟩⟩,fun e=>.inr ⟨fun e2=>e ((dec_eq_u8 (c:=10)).2 e2),rfl,rfl⟩⟩,?_⟩
  rintro l2 f2 (⟨e,rfl,rfl⟩ | ⟨e,rfl,rfl⟩)
  ·refine ⟨by simp only [In]; omega,⟨by omega,by omega,by omega,by simp only [List.length_append,List.length_singleton]; omega,by simp,?_⟩,by dsimp only; omega⟩
   have hd2:=congrArg lineR hd
   rw [e,lineR_hit _ _ a4] at hd2
   rw [a5,hd2,List.append_assoc,show (i+1).toNat=i.toNat+1 by omega]
   rfl
  ·refine ⟨by simp only [In]; omega,⟨by omega,by omega,by omega,by omega,?_,a5⟩,by dsimp only; omega⟩
   rw [ht1,List.mem_append,List.mem_singleton]
   rintro (h1 | h1)
   ·exact a4 h1
   ·exact e h1.symm
 ·have hi:i.toNat=s.length:=by omega
  rw [List.take_of_length_le (by rw [List.length_drop]; omega)] at a4
  refine ⟨fun l3=>l3=lineR s,⟨fun hf=>⟨by omega,by simp only [List.length_singleton]; omega,?_⟩,fun hf=>?_⟩,?_⟩
  ·rw [a5,lineR_last a4 (fun e=>by have:=congrArg List.length e; rw [List.length_drop] at this; simp at this; omega)]
  ·rw [a5,List.drop_eq_nil_of_le (by omega)]
   simp [lineR]
  ·rintro _ rfl
   exact h
theorem clines_M {l:List (List UInt8)} {K:List (List UInt8)->Prop} (hl:l.length<=1000) (hx:∀ x∈l,x.length<=100000) (h:K (jE l)):jM l K:=by
 intro _
 refine ⟨fun o i=>0<=i/\i<=l.length/\o=jE (l.take i.toNat),fun _ i=>l.length - i.toNat,⟨by omega,by omega,rfl⟩,fun o i ⟨a0,a1,a2⟩=>⟨fun hlt=>?_,fun hge=>?_⟩⟩
 ·have h1:=hx _ (jf (l:=l) (k:=i.toNat) (d:=[]) (by omega))
  have h2:=lineR_len (l.getD i.toNat [])
  have h3:=linesA_len (l:=l.take i.toNat) fun x hx'=>hx x (List.mem_of_mem_take hx')
  rw [List.length_take,<-a2] at h3
  refine ⟨by omega,cLines_M (by omega) ⟨by omega,by simp only [In]; omega,⟨by omega,by omega,?_⟩,by dsimp only; omega⟩⟩
  rw [show (i+1).toNat=i.toNat+1 by omega,linesA_take (by omega),<-a2]
 ·rw [a2,List.take_of_length_le (by omega)]
  exact h
theorem joinE_bound (by_ end_:List UInt8) (n:Nat) (hb:by_.length<=n) (he:end_.length<=n):∀ l:List (List UInt8),(∀ x∈l,x.length<=n)->(jC l by_ end_).length<=3*n*l.length:=by
 have go:∀ (l:List (List UInt8)) (b:Bool),(∀ x∈l,x.length<=n)->(jnE by_ end_ b l).length<=3*n*l.length:=by
  intro l
  induction l with
  | nil=>intro b _; simp [jnE]
  | cons x l ih =>
   intro b h
   have h1:=h x (by simp)
   have h2:=ih false fun y hy=>h y (by simp [hy])
   have h3:((if b=true then [] else by_):List UInt8).length<=n:=by split <;> simp [hb]
   simp only [jnE,List.length_append,List.length_cons]
   rw [Nat.mul_add]
   omega
 exact fun l h=>go l true h
theorem cjoined_M {l:List (List UInt8)} {K:List UInt8->Prop} (hl:l.length<=100000000) (hx:∀ x∈l,x.length<=100000) (h:K (jC l [] [10])):jn l K:=by
 intro _
 refine ⟨fun b i=>0<=i/\i<=l.length/\b=jC (l.take i.toNat) [] [10],fun _ i=>l.length - i.toNat,⟨by omega,by omega,rfl⟩,fun b i ⟨a0,a1,a2⟩=>⟨fun hlt=>?_,fun hge=>?_⟩⟩
 ·have h1:=hx _ (jf (l:=l) (k:=i.toNat) (d:=[]) (by omega))
  have h3:=joinE_bound [] [10] 100000 (by simp) (by simp) (l.take i.toNat) fun x hx'=>hx x (List.mem_of_mem_take hx')
  rw [List.length_take,<-a2] at h3
  refine ⟨by omega,by omega,by simp only [List.length_append,List.length_singleton]; omega,by simp only [In]; omega,⟨by omega,by omega,?_⟩,by dsimp only; omega⟩
  rw [show (i+1).toNat=i.toNat+1 by omega,joinE_take (by omega),<-a2]
  split <;> simp
 ·rw [a2,List.take_of_length_le (by omega)]
  exact h
theorem cconcat_M {by_:List UInt8} {l:List (List UInt8)} {K:List UInt8->Prop} (hl:l.length<=1000) (hb:by_.length<=100000) (hx:∀ x∈l,x.length<=100000) (h:K (jC l by_ [])):jD by_ l K:=by
 intro _
 refine ⟨fun b i=>0<=i/\i<=l.length/\b=jC (l.take i.toNat) by_ [],fun _ i=>l.length - i.toNat,⟨by omega,by omega,rfl⟩,fun b i ⟨a0,a1,a2⟩=>⟨fun hlt=>?_,fun hge=>?_⟩⟩
 ·have h1:=hx _ (jf (l:=l) (k:=i.toNat) (d:=[]) (by omega))
  have h3:=joinE_bound by_ [] 100000 hb (by simp) (l.take i.toNat) fun x hx'=>hx x (List.mem_of_mem_take hx')
  rw [List.length_take,<-a2] at h3
  refine ⟨fun b2=>b2=b++(if i.toNat=0 then [] else by_),⟨fun e=>⟨by omega,by rw [if_neg (by omega)]⟩,fun e=>by rw [if_pos (by omega),List.append_nil]⟩,?_⟩
  rintro _ rfl
  have h4:((if i.toNat=0 then [] else by_):List UInt8).length<=100000:=by split <;> simp [hb]
  refine ⟨by omega,by simp only [List.length_append]; omega,by simp only [In]; omega,⟨by omega,by omega,?_⟩,by dsimp only; omega⟩
  rw [show (i+1).toNat=i.toNat+1 by omega,joinE_take (by omega),<-a2]
  simp
 ·rw [a2,List.take_of_length_le (by omega)]
  exact h
theorem bound_M {n i:Int} {K:Int->Prop} (h0:0<=i) (h:K (if n<i then n else i)):jK n i K:=⟨fun h1=>absurd h1 (by omega),fun _=>h⟩
theorem ccut_M {n:Int} {K:Int->Int->Prop} (hn:0<=n) (h:K 0 n):km n 0 n true true K:=by
 unfold km
 refine bound_M (by omega) (bound_M hn ?_)
 refine ⟨fun a2=>a2=0,⟨fun h1=>(by cases h1),fun _=>?_⟩,?_⟩
 ·split <;> omega
 rintro _ rfl
 refine ⟨fun b2=>b2=n,⟨fun h1=>(by cases h1),fun _=>?_⟩,?_⟩
 ·split <;> omega
 rintro b2 rfl
 have e2:(if (0:Int)<b2 then b2 else 0)=b2:=by split <;> omega
 rw [e2]
 exact h
theorem occ_is (s sub:List UInt8) (i:Nat):Lib.occAt s sub i=decide ((s.drop i).take sub.length=sub):=by
 unfold Lib.occAt
 rw [Bool.eq_iff_iff,List.isPrefixOf_iff_prefix,decide_eq_true_eq,List.prefix_iff_eq_take,eq_comm]
theorem occ_room {s sub:List UInt8} {i:Nat} (h:s.length<i+sub.length) (hi:i<=s.length):Lib.occAt s sub i=false:=by
 rw [occ_is,decide_eq_false_iff_not]
 intro e
 have:=congrArg List.length e
 rw [List.length_take,List.length_drop] at this
 omega
theorem find_M {s what:List UInt8} {K:Int->Prop} (hs:s.length<=1000000) (hw:what.length<=1000000) (h:∀ t:Int,decide ((0:Int)<=t)=Lib.contains s what->K t):jY s what 0 (s.length:Int) K:=by
 have hc:∀ i:Nat,i<=s.length->Lib.occAt s what i=true->Lib.contains s what=true:=fun i hi ho=>by
  unfold Lib.contains
  rw [decide_eq_true_eq]
  rcases Lib.index_spec s what with ⟨_,h2⟩ | ⟨j,h2,_⟩
  ·rw [h2 i hi] at ho; cases ho
  ·rw [h2]; omega
 have hn:(∀ i:Nat,i<=s.length->Lib.occAt s what i=false)->Lib.contains s what=false:=fun ho=>by
  unfold Lib.contains
  rw [decide_eq_false_iff_not]
  rcases Lib.index_spec s what with ⟨h2,_⟩ | ⟨j,_,h3,h4,_⟩
  ·omega
  ·rw [ho j h3] at h4; cases h4
 unfold jY
 refine ccut_M (by omega) ?_
 refine ⟨fun i=>0<=i/\i<=s.length+1/\∀ j:Nat,(j:Int)<i->Lib.occAt s what j=false,fun i=>s.length+1 - i.toNat,⟨by omega,by omega,fun j hj=>by omega⟩,fun i ⟨a0,a1,a2⟩=>⟨by simp only [In]; omega,fun hle=>?_,fun hgt=>?_⟩⟩
 ·have e3:(i+(what.length:Int)).toNat - i.toNat=what.length:=by omega
  refine ⟨by simp only [In]; omega,fun _=>by simp only [In]; omega,fun _=>⟨by omega,by omega,by omega⟩,?_⟩
  rw [e3,<-occ_is,decide_eq_true (show (what.length:Int)<=(s.length:Int) - i by omega),Bool.true_and]
  refine ⟨fun e=>h i ?_,fun e=>⟨by simp only [In]; omega,⟨by omega,by omega,fun j hj=>?_⟩,by dsimp only; omega⟩⟩
  ·rw [hc _ (by omega) e,decide_eq_true a0]
  ·by_cases e4:(j:Int)=i
   ·rw [show j=i.toNat by omega]; exact e
   ·exact a2 j (by omega)
 ·refine h (-1) ?_
  rw [hn fun j hj=>?_]
  ·rfl
  by_cases e:(j:Int)<i
  ·exact a2 j e
  ·exact occ_room (by omega) hj
theorem index_self (a t:List UInt8) (ha:a≠[]):Lib.index (a++t) a=0:=by
 cases a with
 | nil=>exact absurd rfl ha
 | cons c a =>
  rw [List.cons_append,Lib.index,if_pos]
  rw [<-List.cons_append,List.isPrefixOf_iff_prefix]
  exact List.prefix_append _ _
theorem replK_same (a:List UInt8):∀ (k:Nat) (s:List UInt8),Lib.count s a=k->a≠[]->Lib.replaceK a a k s=s:=by
 intro k
 induction k with
 | zero=>intro s _ _; simp [Lib.replaceK]
 | succ k ih =>
  intro s hc ha
  obtain ⟨i,hi⟩:=Lib.index_of_count (s:=s) (old:=a) (by omega)
  have h1:=Lib.count_hit ha hi
  rw [Lib.replaceK_hit a a k s i hi,ih _ (by omega) ha]
  have ho:Lib.occAt s a i=true:=by
   rcases Lib.index_spec s a with ⟨h2,_⟩ | ⟨j,h2,_,h4,_⟩
   ·omega
   ·rw [show i=j by omega]; exact h4
  rw [occ_is,decide_eq_true_eq] at ho
  conv=>lhs; lhs; rhs; rw [<-ho]
  rw [List.append_assoc,<-List.drop_drop,List.take_append_drop,List.take_append_drop]
theorem repl_is (s a b:List UInt8) (ha:a≠[]):Lib.replaceAll s a b=Lib.replaceK a b (Lib.count s a) s:=by
 by_cases he:a=b
 ·subst he
  rw [replK_same a _ s rfl ha]
  unfold Lib.replaceAll Lib.replace
  simp
 ·unfold Lib.replaceAll Lib.replace Lib.replaceNum
  simp [he]
theorem repl_hit (a b t:List UInt8) (ha:a≠[]):Lib.replaceAll (a++t) a b=b++Lib.replaceAll t a b:=by
 have hi:=index_self a t ha
 have hc:=Lib.count_hit (i:=0) ha hi
 have hd:(a++t).drop (0+a.length)=t:=by simp
 rw [hd] at hc
 rw [repl_is _ _ _ ha,repl_is _ _ _ ha,hc,Nat.add_comm,Lib.replaceK_hit a b _ _ 0 hi,hd]
 simp
theorem repl_miss (c:UInt8) (a b t:List UInt8) (ha:a≠[]) (hp:a.isPrefixOf (c :: t)=false):Lib.replaceAll (c :: t) a b=c :: Lib.replaceAll t a b:=by
 have hix:Lib.index (c :: t) a=if Lib.index t a == -1 then -1 else Lib.index t a+1:=by rw [Lib.index,hp]; simp
 rw [repl_is _ _ _ ha,repl_is _ _ _ ha]
 by_cases hm:Lib.index t a = -1
 ·have h1:Lib.index (c :: t) a = -1:=by rw [hix,hm]; rfl
  rw [Lib.count_miss h1,Lib.count_miss hm]
  simp [Lib.replaceK]
 ·have hge:=Lib.index_ge t a
  obtain ⟨j,hj⟩:∃ j:Nat,Lib.index t a=j:=⟨(Lib.index t a).toNat,by omega⟩
  have h1:Lib.index (c :: t) a=((j+1:Nat):Int):=by rw [hix,if_neg (fun e=>hm (beq_iff_eq.1 e)),hj]; omega
  have hd:(c :: t).drop (j+1+a.length)=t.drop (j+a.length):=by
   rw [show j+1+a.length=(j+a.length)+1 by omega]; rfl
  rw [Lib.count_hit ha h1,Lib.count_hit ha hj,hd,Nat.add_comm 1,Lib.replaceK_hit a b _ _ _ h1,Lib.replaceK_hit a b _ _ _ hj,hd]
  rfl
theorem repl_nil (a b:List UInt8) (ha:a≠[]):Lib.replaceAll [] a b=[]:=by
 have hi:Lib.index [] a = -1:=by
  unfold Lib.index
  rw [if_neg (by simpa using ha)]
 rw [repl_is _ _ _ ha,Lib.count_miss hi]
 rfl
end
 
section
open Go Go.RowKit
def subC:List (List UInt8)->List UInt8->List UInt8 × Bool
 | a :: b :: r,s=>if a=[]∨65536<s.length then ([],false) else subC r (Lib.replaceAll s a b)
 | _,s=>(s,true)
theorem subC_cons (a b:List UInt8) (r:List (List UInt8)) (s:List UInt8):subC (a :: b :: r) s=if a=[]∨65536<s.length then ([],false) else subC r (Lib.replaceAll s a b):=rfl
def subD (args inputs:List (List UInt8)):List UInt8 × Bool:=if (args.length:Int) % 2=0 then subC args (jC inputs [] []) else ([],false)
theorem drop_take_pre {s a:List UInt8} {k:Nat}:((s.drop k).take a.length=a)↔∃ t,s.drop k=a++t:=by
 constructor
 ·intro h
  exact ⟨(s.drop k).drop a.length,by conv=>lhs; rw [<-List.take_append_drop a.length (s.drop k),h]⟩
 ·rintro ⟨t,h⟩
  rw [h,List.take_left']
  rfl
theorem csub_M {args inputs:List (List UInt8)} {K:List UInt8->Bool->Prop} (ha:∀ x∈args,x.length<=1000) (hl:inputs.length<=100) (hx:∀ x∈inputs,x.length<=100000) (h:K (subD args inputs).1 (subD args inputs).2):jB args inputs K:=by
 intro hm _
 simp only [maxLen] at hm
 unfold subD at h
 refine ⟨by omega,fun e=>by rw [if_neg e] at h; exact h,fun e=>cconcat_M (by omega) (by simp) (fun x hx'=>by have:=hx x hx'; omega) ?_⟩
 rw [if_pos e] at h
 have hj:=joinE_bound [] [] 100000 (by simp) (by simp) inputs hx
 generalize jC inputs [] []=s0 at *
 refine ⟨fun s i=>0<=i/\i<=args.length/\i % 2=0/\s.length<=100000000/\subC args s0=subC (args.drop i.toNat) s,fun _ i=>args.length - i.toNat,⟨by omega,by omega,by omega,by omega,by simp⟩,fun s i ⟨a0,a1,a2,a3,a4⟩=>⟨by simp only [In]; omega,fun hlt=>⟨by omega,?_⟩,fun hge=>?_⟩⟩
 ·have hd:args.drop i.toNat=args.getD i.toNat [] :: args.getD (i.toNat+1) [] :: args.drop (i.toNat+2):=by
   rw [List.drop_eq_getElem_cons (show i.toNat<args.length by omega),List.drop_eq_getElem_cons (show i.toNat+1<args.length by omega)]
   simp [List.getD,show i.toNat<args.length by omega,show i.toNat+1<args.length by omega]
  rw [hd] at a4
  have l1:=ha _ (jf (l:=args) (k:=i.toNat) (d:=[]) (by omega))
  have l2:=ha _ (jf (l:=args) (k:=i.toNat+1) (d:=[]) (by omega))
  have ei:(i+1).toNat=i.toNat+1:=by omega
  rw [ei]
  generalize args.getD i.toNat []=a at *
  generalize args.getD (i.toNat+1) []=b at *
  rw [subC_cons] at a4
  refine ⟨fun hn=>?_,fun hn=>?_⟩
  ·rw [Bool.or_eq_true,decide_eq_true_eq,decide_eq_true_eq] at hn
   rw [if_pos (hn.elim .inl fun q=>.inr (by omega))] at a4
   rw [a4] at h; exact h
  ·rw [Bool.or_eq_false_iff,decide_eq_false_iff_not,decide_eq_false_iff_not] at hn
   obtain ⟨hn1,hn2⟩:=hn
   rw [if_neg (fun q=>q.elim hn1 fun q=>by omega)] at a4
   have hal:1<=a.length:=List.length_pos_iff.2 hn1
   refine ⟨fun o k=>0<=k/\k<=s.length/\(o.length:Int)<=1000*k/\Lib.replaceAll s a b=o++Lib.replaceAll (s.drop k.toNat) a b,fun _ k=>s.length - k.toNat,⟨by omega,by omega,by simp,by simp⟩,fun o k ⟨b0,b1,b2,b3⟩=>⟨fun hk=>?_,fun hk=>?_⟩⟩
   ·have e3:(k+(a.length:Int)).toNat - k.toNat=a.length:=by omega
    rw [e3]
    refine ⟨by simp only [In]; omega,by omega,fun _=>by omega,fun q=>by rw [decide_eq_true_eq] at q; simp only [In]; omega,fun q=>by rw [decide_eq_true_eq] at q; omega,fun _=>by omega,fun q=>?_,fun q=>?_⟩
    ·rw [Bool.and_eq_true,decide_eq_true_eq,decide_eq_true_eq] at q
     obtain ⟨t,ht⟩:=drop_take_pre.1 q.2
     refine ⟨by simp only [In]; omega,by omega,by omega,by omega,by simp only [In]; omega,⟨by omega,by omega,by simp only [List.length_append]; omega,?_⟩,by dsimp only; omega⟩
     rw [b3,ht,repl_hit a b t hn1,List.append_assoc]
     have:s.drop (k+(a.length:Int)).toNat=t:=by
      rw [show (k+(a.length:Int)).toNat=k.toNat+a.length by omega,<-List.drop_drop,ht]
      simp
     rw [this]
    ·have hp:a.isPrefixOf (s.drop k.toNat)=false:=by
      rw [<-Bool.not_eq_true,List.isPrefixOf_iff_prefix]
      rintro ⟨t,ht⟩
      have hle:=congrArg List.length ht
      rw [List.length_append,List.length_drop] at hle
      rw [decide_eq_true (show (a.length:Int)<=(s.length:Int) - k by omega),Bool.true_and,decide_eq_false_iff_not] at q
      exact q (drop_take_pre.2 ⟨t,ht.symm⟩)
     have hc:s.drop k.toNat=s.getD k.toNat 0 :: s.drop (k.toNat+1):=by
      rw [List.drop_eq_getElem_cons (show k.toNat<s.length by omega)]
      simp [List.getD,show k.toNat<s.length by omega]
     rw [hc] at hp
     refine ⟨by omega,by simp only [List.length_singleton]; omega,by simp only [In]; omega,⟨by omega,by omega,by simp only [List.length_append,List.length_singleton]; omega,?_⟩,by dsimp only; omega⟩
     rw [b3,hc,repl_miss _ a b _ hn1 hp,show (k+1).toNat=k.toNat+1 by omega,List.append_assoc]
     rfl
   ·rw [List.drop_eq_nil_of_le (by omega),repl_nil _ _ hn1,List.append_nil] at b3
    rw [b3] at a4
    refine ⟨by simp only [In]; omega,⟨by omega,by omega,by omega,by omega,?_⟩,by dsimp only; omega⟩
    rw [show (i+2).toNat=i.toNat+2 by omega]
    exact a4
 ·have:args.drop i.toNat=[]:=List.drop_eq_nil_of_le (by omega)
  rw [this] at a4
  rw [a4] at h
  exact h
def fitC (p:List UInt8 × Bool):List UInt8 × Er:=if p.2=true/\p.1.length<=65536 then (p.1,.ok) else ([],.e 16)
theorem subC_long (args:List (List UInt8)) (s:List UInt8) (h:65536<s.length):fitC (subC args s)=([],.e 16):=by
 match args with
 | a :: b :: r =>
  rw [subC_cons,if_pos (.inr h)]; rfl
 | [a]=>show fitC (s,true)=_; unfold fitC; rw [if_neg (by rintro ⟨_,q⟩; exact absurd q (by dsimp only; omega))]
 | []=>show fitC (s,true)=_; unfold fitC; rw [if_neg (by rintro ⟨_,q⟩; exact absurd q (by dsimp only; omega))]
theorem subC_P:∀ (n:Nat) (args:List (List UInt8)) (s:List UInt8),args.length<=n->s.length<=65536->fitC (subC args s)=subP args s:=by
 intro n
 induction n with
 | zero =>
  intro args s hl hs
  obtain rfl:args=[]:=List.eq_nil_of_length_eq_zero (by omega)
  show fitC (s,true)=(s,.ok)
  unfold fitC
  rw [if_pos ⟨rfl,hs⟩]
 | succ n ih =>
  intro args s hl hs
  match args,hl with
  | a :: b :: r,hl =>
   rw [subC_cons,subP_cons]
   by_cases ha:a=[]
   ·rw [if_pos (.inl ha),if_pos ha]; rfl
   ·rw [if_neg (fun q=>q.elim ha fun q=>by omega),if_neg ha]
    have hal:1<=a.length:=List.length_pos_iff.2 ha
    have hlen:=replAll_len s a b ha
    have h6:((Lib.count s a*b.length:Nat):Int)=(Lib.count s a:Int)*(b.length:Int):=Int.natCast_mul _ _
    have h7:((Lib.count s a*a.length:Nat):Int)=(Lib.count s a:Int)*(a.length:Int):=Int.natCast_mul _ _
    by_cases hc:(0:Int)<(b.length:Int) - (a.length:Int)/\(65536 - (s.length:Int)) / ((b.length:Int) - (a.length:Int))<(Lib.count s a:Int)
    ·rw [if_pos hc]
     refine subC_long r _ ?_
     have h5:=Int.lt_mul_of_ediv_lt hc.1 hc.2
     rw [Int.mul_sub] at h5
     omega
    ·rw [if_neg hc]
     refine ih r _ (by simp at hl; omega) ?_
     by_cases hp:(0:Int)<(b.length:Int) - (a.length:Int)
     ·have h5:(Lib.count s a:Int)*((b.length:Int) - (a.length:Int))<=65536 - (s.length:Int):=(Int.le_ediv_iff_mul_le hp).1 (by
       have:¬ ((65536 - (s.length:Int)) / ((b.length:Int) - (a.length:Int))<(Lib.count s a:Int)):=fun q=>hc ⟨hp,q⟩
       omega)
      rw [Int.mul_sub] at h5
      omega
     ·have:Lib.count s a*b.length<=Lib.count s a*a.length:=Nat.mul_le_mul_left _ (by omega)
      omega
  | [a],_ =>
   show fitC (s,true)=(s,.ok)
   unfold fitC
   rw [if_pos ⟨rfl,hs⟩]
  | [],_ =>
   show fitC (s,true)=(s,.ok)
   unfold fitC
   rw [if_pos ⟨rfl,hs⟩]
theorem subD_P (args inputs:List (List UInt8)):fitC (subD args inputs)=substP args inputs:=by
 unfold subD substP
 by_cases h:(args.length:Int) % 2=0
 ·rw [if_pos h,if_pos h]
  by_cases h2:65536<(jC inputs [] []).length
  ·rw [if_pos h2,subC_long _ _ h2]
  ·rw [if_neg h2,subC_P _ _ _ (Nat.le_refl _) (by omega)]
 ·rw [if_neg h,if_neg h]; rfl
theorem le_insert {out:List Bs} {x:Bs} {k:Nat} (h:out.Pairwise (· <= ·)) (hk:k<=out.length) (h1:∀ j,j<k->out.getD j []<=x) (h2:k<out.length->x<out.getD k []):(out.take k++([x]++out.drop k)).Pairwise (· <= ·):=by
 have hp:=List.pairwise_iff_getElem.1 h
 have h2':∀ b∈out.drop k,x<=b:=fun b hb=>by
  obtain ⟨i,hi,rfl⟩:=List.getElem_of_mem hb
  simp only [List.length_drop] at hi
  rw [List.getElem_drop]
  have hk':k<out.length:=by omega
  have e:out.getD k []=out[k]:=by simp [List.getD,hk']
  have h3:=h2 hk'
  rw [e] at h3
  by_cases h0:i=0
  ·subst h0; exact List.le_of_lt h3
  ·exact List.le_trans (List.le_of_lt h3) (hp k (k+i) hk' (by omega) (by omega))
 have h1':∀ a∈out.take k,a<=x:=fun a ha=>by
  obtain ⟨i,hi,rfl⟩:=List.getElem_of_mem ha
  simp only [List.length_take] at hi
  rw [List.getElem_take]
  have:=h1 i (by omega)
  rwa [show out.getD i []=out[i]'(by omega) by simp [List.getD,show i<out.length by omega]] at this
 refine List.pairwise_append.2 ⟨List.Pairwise.take h,List.pairwise_append.2 ⟨List.pairwise_singleton _ _,List.Pairwise.drop h,fun a ha b hb=>?_⟩,fun a ha b hb=>?_⟩
 ·simp only [List.mem_singleton] at ha
  subst ha
  exact h2' b hb
 ·rcases List.mem_append.1 hb with hb | hb
  ·simp only [List.mem_singleton] at hb
   subst hb
   exact h1' a ha
  ·have h3:=h
   rw [<-List.take_append_drop k out] at h3
   exact (List.pairwise_append.1 h3).2.2 a ha b hb
theorem perm_insert {out l:List Bs} {x:Bs} {k:Nat} (h:out.Perm l):(out.take k++([x]++out.drop k)).Perm (l++[x]):=by
 have h1:(out.take k++([x]++out.drop k)).Perm ([x]++(out.take k++out.drop k)):=by
  rw [<-List.append_assoc,<-List.append_assoc]
  exact List.perm_append_comm.append_right _
 rw [List.take_append_drop] at h1
 exact h1.trans ((h.append_left [x]).trans List.perm_append_comm)
def b2n:Bool->Nat
 | true=>1
 | false=>0
def sc (r u:Bool):List Bs->Option (Bool × Bool)
 | []=>some (r,u)
 | x :: l=>if (decide (x=wRev) && !r)=true then sc true u l else if (decide (x=wUni) && !u)=true then sc r true l else none
theorem sc_le:∀ (l:List Bs) (r u:Bool),b2n (r || l.contains wRev)+b2n (u || l.contains wUni)<=b2n r+b2n u+l.length
 | [],r,u=>by simp
 | x :: l,r,u=>by
  have hne:wRev≠wUni:=by decide
  rw [List.contains_cons,List.contains_cons,List.length_cons]
  by_cases h1:x=wRev
  ·subst h1
   have ih:=sc_le l true u
   have e1:(wRev == wRev)=true:=by decide
   have e2:(wUni == wRev)=false:=by decide
   rw [e1,e2,Bool.true_or,Bool.false_or,Bool.or_true]
   rw [Bool.true_or] at ih
   have:b2n true=1:=rfl
   omega
  ·by_cases h2:x=wUni
   ·subst h2
    have ih:=sc_le l r true
    have e1:(wRev == wUni)=false:=by decide
    have e2:(wUni == wUni)=true:=by decide
    rw [e1,e2,Bool.true_or,Bool.false_or,Bool.or_true]
    rw [Bool.true_or] at ih
    have:b2n true=1:=rfl
    omega
   ·have ih:=sc_le l r u
    have e1:(wRev == x)=false:=by rw [beq_eq_false_iff_ne]; exact Ne.symm h1
    have e2:(wUni == x)=false:=by rw [beq_eq_false_iff_ne]; exact Ne.symm h2
    rw [e1,e2,Bool.false_or,Bool.false_or]
    omega
theorem sc_spec:∀ (l:List Bs) (r u:Bool),sc r u l=if b2n (r || l.contains wRev)+b2n (u || l.contains wUni)=b2n r+b2n u+l.length then some (r || l.contains wRev,u || l.contains wUni) else none
 | [],r,u=>by simp [sc]
 | x :: l,r,u=>by
  have hne:wRev≠wUni:=by decide
  have t1:b2n true=1:=rfl
  have t0:b2n false=0:=rfl
  unfold sc
  rw [List.contains_cons,List.contains_cons,List.length_cons]
  by_cases h1:x=wRev
  ·subst h1
   have e1:(wRev == wRev)=true:=by decide
   have e2:(wUni == wRev)=false:=by decide
   rw [e1,e2,Bool.true_or,Bool.false_or,Bool.or_true,decide_eq_true rfl,decide_eq_false hne]
   have le:=sc_le l true u
   rw [Bool.true_or] at le
   cases r with
   | false =>
    rw [if_pos (show (true && !false)=true from rfl),sc_spec l true u,Bool.true_or]
    by_cases hh:b2n true+b2n (u || l.contains wUni)=b2n true+b2n u+l.length
    ·rw [if_pos hh,if_pos (by omega)]
    ·rw [if_neg hh,if_neg (by omega)]
   | true =>
    rw [if_neg (by simp),if_neg (by simp),if_neg (by omega)]
  ·by_cases h2:x=wUni
   ·subst h2
    have e1:(wRev == wUni)=false:=by decide
    have e2:(wUni == wUni)=true:=by decide
    rw [e1,e2,Bool.true_or,Bool.false_or,Bool.or_true,decide_eq_true rfl,decide_eq_false (Ne.symm hne)]
    have le:=sc_le l r true
    rw [Bool.true_or] at le
    cases u with
    | false =>
     rw [if_neg (by simp),if_pos (show (true && !false)=true from rfl),sc_spec l r true,Bool.true_or]
     by_cases hh:b2n (r || l.contains wRev)+b2n true=b2n r+b2n true+l.length
     ·rw [if_pos hh,if_pos (by omega)]
     ·rw [if_neg hh,if_neg (by omega)]
    | true =>
     rw [if_neg (by simp),if_neg (by simp),if_neg (by omega)]
   ·have e1:(wRev == x)=false:=by rw [beq_eq_false_iff_ne]; exact Ne.symm h1
    have e2:(wUni == x)=false:=by rw [beq_eq_false_iff_ne]; exact Ne.symm h2
    have le:=sc_le l r u
    rw [e1,e2,Bool.false_or,Bool.false_or,decide_eq_false h1,decide_eq_false h2,if_neg (by simp),if_neg (by simp),if_neg (by omega)]
theorem sc_args (args:List Bs):sc false false args=if sortOk args=true then some (args.contains wRev,args.contains wUni) else none:=by
 rw [sc_spec]
 unfold sortOk
 rw [Bool.false_or,Bool.false_or]
 have t0:b2n false=0:=rfl
 have t1:b2n true=1:=rfl
 rw [t0]
 cases args.contains wRev <;> cases args.contains wUni
 all_goals
  simp only [t0,t1,if_true,if_false,Bool.false_eq_true,decide_eq_true_eq]
  by_cases h:args.length=0
  ·by_cases h1:args.length=1
   ·omega
   ·simp [h,h1] <;> omega
  ·split <;> split <;> first | rfl | omega
theorem getD_get {α:Type} {l:List α} {k:Nat} {d:α} (h:k<l.length):l.getD k d=l[k]:=by
 simp [List.getD,h]
theorem ins_M {l:List Bs} {u:Bool} {i2:Int} {out:List Bs} {J2:List Bs->Prop} (hl:l.length<=100000000) (b0:0<=i2) (hlt:i2<l.length) (ho:out.length<=i2) (hs:out.Pairwise (· <= ·)) (h0:u=false->out.Perm (l.take i2.toNat)) (h1:u=true->Strict out/\∀ x,x∈out↔x∈l.take i2.toNat)
  (hJ:∀ o:List Bs,o.length<=i2+1->o.Pairwise (· <= ·)->(u=false->o.Perm (l.take (i2+1).toNat))->(u=true->Strict o/\∀ x,x∈o↔x∈l.take (i2+1).toNat)->J2 o) :
  Lp1 (fun (k:Int) k_3=>((decide (k<(out.length:Int)))=true->(0<=k/\k<(out.length:Nat))) /\
 ((decide (k<(out.length:Int)))=true->(0<=i2/\i2<(l.length:Nat))) /\
 ((((decide (k<(out.length:Int))) && (Op.bytesLess (out.getD k.toNat []) (l.getD i2.toNat []) || decide ((out.getD k.toNat [])=(l.getD i2.toNat []))))=true->(In .i64 (k+(1:Int))) /\
 k_3 (k+(1:Int))) /\
 (((decide (k<(out.length:Int))) && (Op.bytesLess (out.getD k.toNat []) (l.getD i2.toNat []) || decide ((out.getD k.toNat [])=(l.getD i2.toNat []))))=false->((u && (decide ((0:Int)<k)))=true->(In .i64 (k - (1:Int)))) /\
 ((u && (decide ((0:Int)<k)))=true->(0<=k - (1:Int)/\k - (1:Int)<(out.length:Nat))) /\
 ((u && (decide ((0:Int)<k)))=true->(0<=i2/\i2<(l.length:Nat))) /\
 ((((u && (decide ((0:Int)<k))) && (decide ((out.getD ((k - (1:Int)).toNat) [])=(l.getD i2.toNat []))))=true->J2 out) /\
 (((u && (decide ((0:Int)<k))) && (decide ((out.getD ((k - (1:Int)).toNat) [])=(l.getD i2.toNat []))))=false->(In .i64 ((out.length:Int)+(1:Int))) /\
 (0<=(out.length:Int)+(1:Int)/\((out.length:Int)+(1:Int))*16<=140737488355328/\(out.length:Int)+(1:Int)<=140737488355328) /\
 (0<=k/\k<=(out.length:Nat)) /\
 (((([]:List (List UInt8))).length+(out.take k.toNat).length)*16<=140737488355328) /\
 (0<=i2/\i2<(l.length:Nat)) /\
 (((([]:List (List UInt8))++(out.take k.toNat)).length+(([l.getD i2.toNat []]:List (List UInt8))).length)*16<=140737488355328) /\
 (0<=k/\k<=(out.length:Int)/\(out.length:Int)<=(out.length:Nat)) /\
 ((((([]:List (List UInt8))++(out.take k.toNat))++([l.getD i2.toNat []]:List (List UInt8))).length+(out.drop k.toNat).length)*16<=140737488355328) /\
 J2 (((([]:List (List UInt8))++(out.take k.toNat))++([l.getD i2.toNat []]:List (List UInt8)))++(out.drop k.toNat))))))) (0:Int):=by
 have htk:l.take (i2+1).toNat=l.take i2.toNat++[l.getD i2.toNat []]:=by
  rw [show (i2+1).toNat=i2.toNat+1 by omega,List.take_succ_eq_append_getElem (by omega)]
  simp [List.getD,show i2.toNat<l.length by omega]
 rw [htk] at hJ
 generalize l.getD i2.toNat []=x at *
 refine ⟨fun k=>0<=k/\k<=out.length/\∀ j,j<k.toNat->out.getD j []<=x,fun k=>out.length - k.toNat,⟨by omega,by omega,by intro j hj; simp at hj⟩,fun k ⟨c0,c1,c2⟩=>⟨fun hd=>?_,fun hd=>?_,fun hc=>?_,fun hc=>⟨fun hd=>?_,fun hd=>?_,fun hd=>?_,fun he=>?_,fun he=>?_⟩⟩⟩
 ·simp only [decide_eq_true_eq] at hd; omega
 ·omega
 ·rw [Bool.and_eq_true,Bool.or_eq_true,bytesLessF_lt,decide_eq_true_eq,decide_eq_true_eq,decide_eq_true_eq] at hc
  refine ⟨by simp only [In]; omega,⟨by omega,by omega,fun j hj=>?_⟩,by dsimp only; omega⟩
  by_cases e:j=k.toNat
  ·rw [e]
   rcases hc.2 with h | h
   ·exact List.le_of_lt h
   ·rw [h]; exact List.le_refl _
  ·exact c2 j (by omega)
 ·simp only [Bool.and_eq_true,decide_eq_true_eq] at hd; simp only [In]; omega
 ·simp only [Bool.and_eq_true,decide_eq_true_eq] at hd; omega
 ·omega
 ·rw [Bool.and_eq_true,Bool.and_eq_true,decide_eq_true_eq,decide_eq_true_eq] at he
  obtain ⟨⟨hu,hk⟩,hx⟩:=he
  refine hJ out (by omega) hs (fun q=>by rw [hu] at q; cases q) fun _=>⟨(h1 hu).1,fun y=>?_⟩
  rw [List.mem_append,List.mem_singleton,<-(h1 hu).2]
  refine ⟨.inl,fun h=>h.elim id fun h=>?_⟩
  rw [h,<-hx]
  exact jf (by omega)
 ·have hlen:(out.take k.toNat).length=k.toNat:=by simp; omega
  refine ⟨by simp only [In]; omega,by omega,by omega,?_,by omega,?_,by omega,?_,?_⟩
  ·simp only [List.length_nil,hlen]; omega
  ·simp only [List.nil_append,List.length_cons,List.length_nil,hlen]; omega
  ·simp only [List.nil_append,List.length_append,List.length_cons,List.length_nil,List.length_drop,hlen]; omega
  rw [List.nil_append,List.append_assoc]
  have hgt:k.toNat<out.length->x<out.getD k.toNat []:=fun hk=>by
   have hk':k<out.length:=by omega
   rw [bytesLessF_lt,decide_eq_true hk',Bool.true_and,Bool.or_eq_false_iff,decide_eq_false_iff_not,decide_eq_false_iff_not] at hc
   rcases bs_lt_or (out.getD k.toNat []) x with h1 | h1 | h1
   ·exact absurd h1 hc.1
   ·exact absurd h1 hc.2
   ·exact h1
  refine hJ _ (by simp only [List.length_append,List.length_cons,List.length_nil,List.length_drop,hlen]; omega) (le_insert hs (by omega) c2 hgt) (fun q=>perm_insert (h0 q)) fun q=>⟨strict_insert (h1 q).1 (by omega) (fun j hj=>?_) hgt,fun y=>?_⟩
  ·have hk0:(0:Int)<k:=by omega
   rw [q,decide_eq_true hk0,Bool.true_and,Bool.true_and,decide_eq_false_iff_not] at he
   have hl1:out.getD (k - 1).toNat []<x:=bs_lt_of (c2 _ (by omega)) he
   by_cases e:j=(k - 1).toNat
   ·rw [e]; exact hl1
   ·have hp:=List.pairwise_iff_getElem.1 (h1 q).1 j (k - 1).toNat (by omega) (by omega) (by omega)
    have e1:out.getD j []=out[j]'(by omega):=getD_get (by omega)
    have e2:out.getD (k - 1).toNat []=out[(k - 1).toNat]'(by omega):=getD_get (by omega)
    rw [e1]
    rw [e2] at hl1
    exact List.lt_trans hp hl1
  ·rw [List.mem_append (s:=l.take i2.toNat),List.mem_singleton,<-(h1 q).2,List.mem_append,List.mem_append,List.mem_singleton]
   conv=>rhs; lhs; rw [<-List.take_append_drop k.toNat out,List.mem_append]
   constructor
   ·rintro (h | h | h)
    ·exact .inl (.inl h)
    ·exact .inr h
    ·exact .inl (.inr h)
   ·rintro ((h | h) | h)
    ·exact .inl h
    ·exact .inr (.inr h)
    ·exact .inr (.inl h)
theorem sortR_le {args l:List Bs} {x:Bs} (h:x∈sortR args l):x∈l:=by
 unfold sortR at h
 split at h
 ·rw [List.mem_reverse] at h
  split at h
  ·exact sortU_le h
  ·exact (sortB_mem _ _).1 h
 ·split at h
  ·exact sortU_le h
  ·exact (sortB_mem _ _).1 h
theorem sortR_len (args l:List Bs):(sortR args l).length<=l.length:=by
 have h1:=sortU_length l
 have h2:=(sortB_perm l).length_eq
 unfold sortR
 split
 ·rw [List.length_reverse]; split <;> omega
 ·split <;> omega
theorem csorted_M {args inputs:List (List UInt8)} {K:List UInt8->Bool->Prop} (hl:inputs.length<=100) (hx:∀ x∈inputs,x.length<=100000) (h0:sortOk args=false->K [] false) (h1:sortOk args=true->K (jC (sortR args (jE inputs)) [] [10]) true):kn args inputs K:=by
 intro hm _
 simp only [maxLen] at hm
 refine ⟨fun r u i=>0<=i/\i<=args.length/\sc false false args=sc r u (args.drop i.toNat),fun _ _ i=>args.length - i.toNat,⟨by omega,by omega,by simp⟩,fun r u i ⟨a0,a1,a2⟩=>⟨fun hlt=>?_,fun hge=>?_⟩⟩
 ·have hd:args.drop i.toNat=args.getD i.toNat [] :: args.drop (i.toNat+1):=by
   rw [List.drop_eq_getElem_cons (show i.toNat<args.length by omega)]
   simp [List.getD,show i.toNat<args.length by omega]
  rw [hd,sc] at a2
  generalize args.getD i.toNat []=x at *
  refine ⟨fun r2 u2=>sc false false args=sc r2 u2 (args.drop (i.toNat+1)),⟨by omega,fun e=>?_,fun e=>⟨by omega,fun e2=>?_,fun e2=>?_⟩⟩,fun r2 u2 h2=>⟨by simp only [In]; omega,⟨by omega,by omega,by rw [show (i+1).toNat=i.toNat+1 by omega]; exact h2⟩,by dsimp only; omega⟩⟩
  ·rw [if_pos (show (decide (x=wRev) && !r)=true from e)] at a2; exact a2
  ·rw [if_neg (by rw [show (decide (x=wRev) && !r)=false from e]; decide),if_pos (show (decide (x=wUni) && !u)=true from e2)] at a2; exact a2
  ·rw [if_neg (by rw [show (decide (x=wRev) && !r)=false from e]; decide),if_neg (by rw [show (decide (x=wUni) && !u)=false from e2]; decide),sc_args] at a2
   refine h0 ?_
   cases hs:sortOk args with
   | false=>rfl
   | true=>rw [hs,if_pos rfl] at a2; cases a2
 ·rw [List.drop_eq_nil_of_le (by omega),sc,sc_args] at a2
  have hok:sortOk args=true:=by
   cases hs:sortOk args with
   | true=>rfl
   | false=>rw [hs,if_neg (by decide)] at a2; cases a2
  rw [hok,if_pos rfl] at a2
  have er:args.contains wRev=r:=congrArg Prod.fst (Option.some.inj a2)
  have eu:args.contains wUni=u:=congrArg Prod.snd (Option.some.inj a2)
  have hR:=h1 hok
  have hle:=fun x=>sortR_le (args:=args) (l:=jE inputs) (x:=x)
  have hln:=sortR_len args (jE inputs)
  have hll:=linesA_len (l:=inputs) fun x hx'=>by have:=hx x hx'; omega
  unfold sortR at hR hle hln
  rw [er,eu] at hR hle hln
  refine clines_M (by omega) (fun x hx'=>by have:=hx x hx'; omega) ?_
  have hxl:∀ x∈jE inputs,x.length<=100000:=fun x hx'=>linesA_le hx' fun y hy=>by have:=hx y hy; omega
  generalize jE inputs=l at *
  refine ⟨fun out i2=>0<=i2/\i2<=l.length/\(out.length:Int)<=i2/\out.Pairwise (· <= ·)/\(u=false->out.Perm (l.take i2.toNat))/\(u=true->Strict out/\∀ x,x∈out↔x∈l.take i2.toNat),fun _ i2=>l.length - i2.toNat,⟨by omega,by omega,by simp,List.Pairwise.nil,fun _=>by simp,fun _=>⟨List.Pairwise.nil,by simp⟩⟩,fun out i2 ⟨b0,b1,b2,b3,b4,b5⟩=>⟨fun hlt=>?_,fun hge=>?_⟩⟩
  ·obtain ⟨P,hP⟩:∃ P:List Bs->Prop,P=fun o=>(o.length:Int)<=i2+1/\o.Pairwise (· <= ·)/\(u=false->o.Perm (l.take (i2+1).toNat))/\(u=true->Strict o/\∀ x,x∈o↔x∈l.take (i2+1).toNat):=⟨_,rfl⟩
   refine ⟨P,?_,fun o hPo=>?_⟩
   ·exact ins_M (J2:=P) (by omega) b0 hlt b2 b3 b4 b5 fun o d1 d2 d3 d4=>by rw [hP]; exact ⟨d1,d2,d3,d4⟩
   ·rw [hP] at hPo
    obtain ⟨c1,c2,c3,c4⟩:=hPo
    exact ⟨by simp only [In]; omega,⟨by omega,by omega,c1,c2,c3,c4⟩,by dsimp only; omega⟩
  ·have e:i2.toNat=l.length:=by omega
   rw [e,List.take_length] at b4 b5
   have ho:out=if u=true then sortU l else sortB l:=by
    cases u with
    | false=>rw [if_neg (by decide)]; exact sortB_of b3 (b4 rfl)
    | true=>rw [if_pos rfl]; exact sortU_of (b5 rfl).1 (b5 rfl).2
   rw [<-ho] at hR hle hln
   refine ⟨fun o=>o=if r=true then out.reverse else out,⟨fun hr=>⟨by simp only [In]; omega,fun t i3 => -1<=i3/\i3<out.length/\t=(out.drop (i3+1).toNat).reverse,fun _ i3=>(i3+1).toNat,⟨by omega,by omega,by rw [List.drop_eq_nil_of_le (by omega)]; rfl⟩,fun t i3 ⟨d0,d1,d2⟩=>⟨fun hi=>?_,fun hi=>?_⟩⟩,fun hr=>by rw [hr]; rfl⟩,?_⟩
   ·have htl:t.length<=out.length:=by rw [d2,List.length_reverse,List.length_drop]; omega
    refine ⟨by omega,by simp only [List.length_singleton]; omega,by simp only [In]; omega,⟨by omega,by omega,?_⟩,by dsimp only; omega⟩
    rw [d2,show (i3 - 1+1).toNat=i3.toNat by omega,show (i3+1).toNat=i3.toNat+1 by omega,List.drop_eq_getElem_cons (show i3.toNat<out.length by omega),List.reverse_cons]
    simp [List.getD,show i3.toNat<out.length by omega]
   ·show t=_
    rw [if_pos hr,d2,show (i3+1).toNat=0 by omega]
    rfl
   ·rintro o rfl
    exact cjoined_M (by omega) (fun x hx'=>hxl x (hle x hx')) hR
end
 
section
open Go Go.RowKit
def doneP (tool:Int) (args inputs:List (List UInt8)):List UInt8 × Bool :=
 if tool=1 then (jC inputs (if args.length=1 then args.getD 0 [] else []) [],decide ((args.length:Int)<=1))
 else if tool=2 then (if filtOk args=true then (jC ((jE inputs).filter (filtB args)) [] [10],true) else ([],false))
 else if tool=3 then subD args inputs
 else if tool=4 then (if sortOk args=true then (jC (sortR args (jE inputs)) [] [10],true) else ([],false))
 else (jC (Ze inputs) [] [10],decide ((args.length:Int)=0))
theorem cdone_M {tool:Int} {args inputs:List (List UInt8)} {K:List UInt8->Bool->Prop} (ha:∀ x∈args,x.length<=1000) (hl:inputs.length<=100) (hx:∀ x∈inputs,x.length<=100000) (h:K (doneP tool args inputs).1 (doneP tool args inputs).2):kH tool args inputs K:=by
 intro hm _
 unfold doneP at h
 have hxb:∀ x∈inputs,x.length<=100000:=fun x hx'=>by have:=hx x hx'; omega
 refine ⟨fun e=>?_,fun e=>⟨fun e2=>⟨fun _ h2=>by rw [decide_eq_true_eq] at h2; omega,fun e3=>?_,fun e3=>?_⟩,fun e2=>⟨fun e3=>?_,fun e3=>⟨fun e4=>?_,fun e4=>?_⟩⟩⟩⟩
 ·rw [if_pos e] at h
  refine ⟨fun b=>b=(if args.length=1 then args.getD 0 [] else []),⟨fun e1=>⟨by omega,by rw [if_pos (by omega)]⟩,fun e1=>by rw [if_neg (by omega)]⟩,?_⟩
  rintro b rfl
  refine cconcat_M (by omega) ?_ hxb h
  split
  ·have:=ha _ (jf (l:=args) (k:=0) (d:=[]) (by omega)); omega
  ·simp
 ·have hok:filtOk args=false:=by unfold filtOk; rw [show wNot=([110,111,116]:List UInt8) from rfl,e3]; rfl
  rw [if_neg e,if_pos e2,if_neg (by rw [hok]; decide)] at h
  exact h
 ·have hok:filtOk args=true:=by unfold filtOk; rw [show wNot=([110,111,116]:List UInt8) from rfl,e3]; rfl
  rw [if_neg e,if_pos e2,if_pos hok] at h
  have hn:1<=args.length:=by
   rw [Bool.or_eq_false_iff,Bool.or_eq_false_iff,decide_eq_false_iff_not] at e3
   omega
  have h0:=ha _ (jf (l:=args) (k:=0) (d:=[]) (by omega))
  refine clines_M (by omega) hxb ?_
  have hxl:∀ x∈jE inputs,x.length<=100000:=fun x hx'=>linesA_le hx' hxb
  have hll:=linesA_len hxb
  generalize jE inputs=l at *
  refine ⟨fun o i=>0<=i/\i<=l.length/\o=(l.take i.toNat).filter (filtB args),fun _ i=>l.length - i.toNat,⟨by omega,by omega,rfl⟩,fun o i ⟨a0,a1,a2⟩=>⟨fun hlt=>?_,fun hge=>?_⟩⟩
  ·have hol:o.length<=l.length:=by
    rw [a2]
    exact Nat.le_trans (List.length_filter_le _ _) (by rw [List.length_take]; omega)
   have hxl':=hxl _ (jf (l:=l) (k:=i.toNat) (d:=[]) (by omega))
   refine ⟨fun o'=>o'=(l.take (i.toNat+1)).filter (filtB args),⟨by omega,by omega,by omega,find_M (by omega) (by omega) fun t ht=>?_⟩,?_⟩
   ·rw [ht]
    refine ⟨fun e=>⟨by omega,by simp only [List.length_singleton]; omega,?_⟩,fun e=>?_⟩
    ·rw [filter_step _ _ _ (by omega),if_pos (show filtB args (l.getD i.toNat [])=true from e),<-a2]
    ·rw [filter_step _ _ _ (by omega),if_neg (by rw [show filtB args (l.getD i.toNat [])=false from e]; decide),<-a2,List.append_nil]
   ·rintro _ rfl
    exact ⟨by simp only [In]; omega,⟨by omega,by omega,by rw [show (i+1).toNat=i.toNat+1 by omega]⟩,by dsimp only; omega⟩
  ·rw [a2,List.take_of_length_le (by omega)]
   exact cjoined_M (Nat.le_trans (List.length_filter_le _ _) (by omega)) (fun x hx'=>hxl x (List.mem_filter.1 hx').1) h
 ·rw [if_neg e,if_neg e2,if_pos e3] at h
  exact csub_M ha hl (fun x hx'=>by have:=hx x hx'; omega) h
 ·rw [if_neg e,if_neg e2,if_neg e3,if_pos e4] at h
  refine csorted_M hl hx (fun hk=>?_) (fun hk=>?_)
  ·rw [if_neg (by rw [hk]; decide)] at h; exact h
  ·rw [if_pos hk] at h; exact h
 ·rw [if_neg e,if_neg e2,if_neg e3,if_neg e4] at h
  refine ⟨fun o i=>0<=i/\i<=inputs.length/\o=Ze (inputs.take i.toNat),fun _ i=>inputs.length - i.toNat,⟨by omega,by omega,rfl⟩,fun o i ⟨a0,a1,a2⟩=>⟨fun hlt=>?_,fun hge=>?_⟩⟩
  ·have hxl:=hx _ (jf (l:=inputs) (k:=i.toNat) (d:=[]) (by omega))
   have hol:o.length<=1000:=by rw [a2,Ze,List.length_map,List.length_take]; omega
   refine ⟨by omega,sum_M (by omega) (hex_M (shaS_len _) ⟨by simp only [List.length_singleton]; omega,by simp only [In]; omega,⟨by omega,by omega,?_⟩,by dsimp only; omega⟩)⟩
   rw [show (i+1).toNat=i.toNat+1 by omega,a2]
   unfold Ze
   rw [List.take_succ_eq_append_getElem (show i.toNat<inputs.length by omega),List.map_append]
   simp [List.getD,show i.toNat<inputs.length by omega]
  ·rw [a2,List.take_of_length_le (by omega)]
   refine cjoined_M (by unfold Ze; rw [List.length_map]; omega) (fun x hx'=>?_) h
   unfold Ze at hx'
   obtain ⟨y,_,rfl⟩:=List.mem_map.1 hx'
   rw [hexS_len,shaS_len]; omega
theorem fit_C (t:List UInt8) (b:Bool):fitC (t,b)=if b=true then fitP t else ([],.e 16):=by
 unfold fitC fitP
 cases b <;> simp
theorem done_doP {tool:Int} {args inputs:List (List UInt8)} (h0:1<=tool) (h1:tool<=5):fitC (doneP tool args inputs)=doP tool args inputs:=by
 rcases (show tool=1∨tool=2∨tool=3∨tool=4∨tool=5 by omega) with rfl | rfl | rfl | rfl | rfl
 ·show fitC (_,decide ((args.length:Int)<=1))=if 1<args.length then (([]:List UInt8),Er.e 16) else _
  rw [fit_C]
  by_cases h:1<args.length
  ·rw [if_pos h,if_neg (by rw [decide_eq_true_eq]; omega)]
  ·rw [if_neg h,if_pos (by rw [decide_eq_true_eq]; omega)]
 ·show fitC (if filtOk args=true then _ else ([],false))=if (if filtOk args=true then (_,true) else ([],false)).2=true then fitP (jC (if filtOk args=true then ((jE inputs).filter (filtB args),true) else ([],false)).1 [] [10]) else _
  cases filtOk args with
  | false=>rfl
  | true=>exact fit_C _ _
 ·exact subD_P args inputs
 ·show fitC (if sortOk args=true then _ else ([],false))=if (if sortOk args=true then (_,true) else ([],false)).2=true then fitP (jC (if sortOk args=true then (sortR args (jE inputs),true) else ([],false)).1 [] [10]) else _
  cases sortOk args with
  | false=>rfl
  | true=>exact fit_C _ _
 ·exact fit_C _ _
def codeE:Er->Int
 | .ok=>0
 | .e n=>101+n
 | .at_ _ _ => -1
theorem fitC_code (p:List UInt8 × Bool):codeE (fitC p).2=if p.2=true/\p.1.length<=65536 then 0 else 117:=by
 unfold fitC
 split <;> rfl
theorem cDo_M {tool:Int} {args inputs:List (List UInt8)} {K:List UInt8->Int->Prop} (ha:∀ x∈args,x.length<=1000) (hl:inputs.length<=100) (hx:∀ x∈inputs,x.length<=100000) (h:K (doP tool args inputs).1 (codeE (doP tool args inputs).2)):Zi tool args inputs K:=by
 intro _ _
 refine ⟨fun e=>?_,fun e=>?_⟩
 ·rw [Bool.or_eq_true,decide_eq_true_eq,decide_eq_true_eq] at e
  rw [fail_else (by omega)] at h
  exact h
 ·rw [Bool.or_eq_false_iff,decide_eq_false_iff_not,decide_eq_false_iff_not] at e
  rw [<-done_doP (by omega) (by omega)] at h
  refine cdone_M ha hl hx ?_
  generalize doneP tool args inputs=p at *
  rw [fitC_code] at h
  unfold fitC at h
  refine ⟨fun e2=>?_,fun e2=>?_⟩
  ·have:¬ (p.2=true/\p.1.length<=65536):=by
    rintro ⟨q1,q2⟩
    rw [q1,Bool.or_eq_true,decide_eq_true_eq] at e2
    rcases e2 with e2 | e2
    ·cases e2
    ·omega
   rw [if_neg this,if_neg this] at h
   exact h
  ·rw [Bool.or_eq_false_iff,decide_eq_false_iff_not] at e2
   have:p.2=true/\p.1.length<=65536:=⟨by simpa using e2.1,by omega⟩
   rw [if_pos this,if_pos this] at h
   exact h
end
 
section
open Go Go.RowKit
section
variable {P:Program} {T:Tab} {N:Nat} {ops:Array Oper} {Q:Post} {L:qJ} {w:World} {rest:List Oper} {ty:TypeId} {pos:String} {af:Array Edge} {t:TypeId} {x y:Operand} {e:TypeId}
theorem WL.storeP {g off:Nat} {pre mid vs post:List Value} {m:Nat} (hT:T.Ok P) (h1:nk T.agg t=some m) (hx:opv L x=some (.pointer (some ⟨g,off,none⟩))) (hy:opv L y=some (.agg ⟨vs⟩)) (hu:∀ u∈vs,u.oneCell'=true) (hB:Bl w g e (pre++(mid++post))) (ho:pre.length=off) (hm:mid.length=m) (hv:vs.length=m)
  (hk:∀ w',Bl w' g e (pre++(vs++post))->w.grownBy w' (some g)->WL P N ops Q rest L w'):WL P N ops Q (⟨none,.store t x y,ty,pos,af,none⟩ :: rest) L w :=
 WL.eff (R:=fun w'=>Bl w' g e (pre++(vs++post))/\w.grownBy w' (some g)) (fun a w1 hw ha=>by
  have hB1:=jU hw hB
  obtain ⟨_,j,hj,hj1⟩:=hT.agg h1
  have hst:=run_storeCells_at P g off e vs 0 ⟨pre++(mid++post)⟩ w1 hB1 (by simp; omega) hu
  have hrow:(List.take (off+0) (⟨pre++(mid++post)⟩:Array Value).toList++vs++List.drop (off+0+vs.length) (⟨pre++(mid++post)⟩:Array Value).toList).toArray=⟨pre++(vs++post)⟩:=by
   have h2:List.drop (off+0+vs.length) (pre++(mid++post))=post:=by
    rw [show off+0+vs.length=(pre++mid).length by rw [List.length_append]; omega,<-List.append_assoc,List.drop_left]
   have h3:List.take (off+0) (pre++(mid++post))=pre:=by rw [show off+0=pre.length by omega,List.take_left]
   simp only [h2,h3,List.append_assoc]
  rw [hrow] at hst
  refine ⟨w1.setRow g ⟨pre++(vs++post)⟩,?_,setRow_heap w1 g _ _ e _ hB1,jz hw ⟨rfl,rfl,rfl,by simp,fun k _ hk=>setRow_other w1 g k _ (fun e=>hk (by rw [e]))⟩⟩
  unfold execOp
  have hcell:(Value.agg ⟨vs⟩).cells=⟨vs⟩:=rfl
  simp only [ha.ev hx,ha.ev hy,Sem.run_bind,Instr.storeAt,Instr.sureAddr,Sem.run_pure,Result.andThen_ok,storeVar,hcell,sizeOf,typeInfo,program,Sem.run,hj,hj1]
  have hsz:(⟨vs⟩:Array Value).size=m:=hv
  simp only [hsz,ne_eq,not_true_eq_false,if_false,hst,Result.andThen_ok]) (fun w' ⟨hb,hg⟩=>hk w' hb hg)
theorem WL.callvw {d:Nat} {gd:Option (Nat × Bool)} {R:Value->World->Prop} {g:FuncId} {ao:List Operand} {ts:Array TypeId} {vs cs:List Value} (hg:Wants N ops L gd) (hd:Nat.blt d N=true) (hx:opv L x=some (.func (.func g) #[] ⟨cs⟩)) (hv:opvs L ao=some vs) (hf:Fn P g ⟨vs++cs⟩ w R) (hk:∀ v w',R v w'->WL P N ops Q rest ((d,v) :: L) w') :
  WL P N ops Q (⟨some d,.call ⟨.value x,⟨ao⟩,ts⟩,ty,pos,af,gd⟩ :: rest) L w:=fun a w1 e ha =>
 wpList_step fun K hK=>by
  rw [if_pos (Wants.wanted (o:=⟨some d,.call ⟨.value x,⟨ao⟩,ts⟩,ty,pos,af,gd⟩) hg ha)]
  obtain ⟨hgo,hC⟩:=hf
  unfold Oper.wp
  rw [show execOp a.eval (⟨some d,.call ⟨.value x,⟨ao⟩,ts⟩,ty,pos,af,gd⟩:Oper)=execOp a.eval ⟨some d,.call ⟨.value x,⟨ao⟩,ts⟩,ty,pos,af,none⟩ from rfl,run_callv ha hgo hx hv]
  refine (hC w1 e).mono ?_
  rintro en w' ⟨v,w0,rfl,h0,hR⟩
  exact hK _ _ (hk v w0 hR _ w' h0 (ha.put hd v))
end
end
 
section
open Go Go.RowKit
attribute [local irreducible] WL WC WX WQ WK WJ Yld Eff Ef0 Fn
def Zb (a_Path:List UInt8) (a_Text:List UInt8) (b_Path:List UInt8) (b_Text:List UInt8) (K:Bool->Prop):Prop :=
 K ((decide (a_Path=b_Path)) && (decide (a_Text=b_Text)))
def kd (a:List (List UInt8 × List UInt8)) (b:List (List UInt8 × List UInt8)) (K:Bool->Prop):Prop :=
 (a.length<=maxLen ->
 (b.length<=maxLen ->
 ((¬ ((a.length:Int)=(b.length:Int))->K false) /\
 ((a.length:Int)=(b.length:Int)->Lp1 (fun (i:Int) kont1=>((i<(a.length:Int)->(0<=i/\i<(a.length:Nat)) /\
 (0<=i/\i<(b.length:Nat)) /\
 Zb ((a.getD i.toNat ([],[])).1) ((a.getD i.toNat ([],[])).2) ((b.getD i.toNat ([],[])).1) ((b.getD i.toNat ([],[])).2) (fun (same:Bool) =>
 (((!same)=true->K false) /\
 ((!same)=false->(In .i64 (i+(1:Int))) /\
 kont1 (i+(1:Int)))))) /\
 (¬ (i<(a.length:Int))->K true))) (0:Int)))))
def jL (g_L:List (Int × List (List UInt8) × List (List UInt8) × List UInt8)) (files:List (List UInt8 × List UInt8)) (K:(List (Int × List UInt8 × List UInt8))->Prop):Prop :=
 (g_L.length<=maxLen ->
 (files.length<=maxLen ->
 (0<=(g_L.length:Int)/\(g_L.length:Int)*56<=140737488355328/\(g_L.length:Int)<=140737488355328) /\
 jt g_L (fun (order:List Int) =>
 Lp2 (fun (n:Int) (out:List (Int × List UInt8 × List UInt8)) kont1=>(g_L.length:Int).toNat=out.length->((n<(order.length:Int)->(0<=n/\n<(order.length:Nat)) /\
 (0<=order.getD n.toNat 0/\order.getD n.toNat 0<(g_L.length:Nat)) /\
 Lp4 (fun (texts:List (List UInt8)) (sums:List (List UInt8)) (k:Int) (f0:Int) kont2=>((k<(((g_L.getD ((order.getD n.toNat 0).toNat) (0,[],[],[])).2.2.1).length:Int)->(0<=k/\k<(((g_L.getD ((order.getD n.toNat 0).toNat) (0,[],[],[])).2.2.1).length:Nat)) /\
 qZ g_L (((g_L.getD ((order.getD n.toNat 0).toNat) (0,[],[],[])).2.2.1).getD k.toNat []) (fun (m:Int) =>
 ∃ J1:(List UInt8)->Bool->Int->Prop,((((0:Int)<=m->∃ J4:Int->Prop,((0<=m/\m<((g_L.length:Int).toNat:Nat)) /\
 ((¬ (((out.getD m.toNat (0,[],[])).1)=(1:Int))->J4 (3:Int)) /\
 (((out.getD m.toNat (0,[],[])).1)=(1:Int)->J4 f0))) /\
 (∀ f04:Int,J4 f04->(0<=m/\m<((g_L.length:Int).toNat:Nat)) /\
 J1 ((out.getD m.toNat (0,[],[])).2.1) true f04)) /\
 (¬ ((0:Int)<=m)->J1 ([]:List UInt8) false f0))) /\
 (∀ s:List UInt8,∀ there:Bool,∀ f02:Int,J1 s there f02->Lp3 (fun (s2:List UInt8) (there2:Bool) (j:Int) kont3=>((((decide (j<(files.length:Int))) && (decide (m<(0:Int))))=true->∃ J2:(List UInt8)->Bool->Prop,((0<=j/\j<(files.length:Nat)) /\
 (0<=k/\k<(((g_L.getD ((order.getD n.toNat 0).toNat) (0,[],[],[])).2.2.1).length:Nat)) /\
 ((((files.getD j.toNat ([],[])).1)=(((g_L.getD ((order.getD n.toNat 0).toNat) (0,[],[],[])).2.2.1).getD k.toNat [])->(0<=j/\j<(files.length:Nat)) /\
 J2 ((files.getD j.toNat ([],[])).2) true) /\
 (¬ (((files.getD j.toNat ([],[])).1)=(((g_L.getD ((order.getD n.toNat 0).toNat) (0,[],[],[])).2.2.1).getD k.toNat []))->J2 s2 there2))) /\
 (∀ s3:List UInt8,∀ there3:Bool,J2 s3 there3->(In .i64 (j+(1:Int))) /\
 kont3 s3 there3 (j+(1:Int)))) /\
 (((decide (j<(files.length:Int))) && (decide (m<(0:Int))))=false->∃ J3:Int->Prop,(((((!there2) && (decide (f02=(1:Int))))=true->J3 (2:Int)) /\
 (((!there2) && (decide (f02=(1:Int))))=false->J3 f02))) /\
 (∀ f03:Int,J3 f03->((texts.length+(([s2]:List (List UInt8))).length)*16<=140737488355328) /\
 jV s2 (fun (t116:List UInt8) =>
 ((sums.length+(([t116]:List (List UInt8))).length)*32<=140737488355328) /\
 (In .i64 (k+(1:Int))) /\
 kont2 (texts++([s2]:List (List UInt8))) (sums++([t116]:List (List UInt8))) (k+(1:Int)) f03))))) s there (0:Int)))) /\
 (¬ (k<(((g_L.getD ((order.getD n.toNat 0).toNat) (0,[],[],[])).2.2.1).length:Int))->qU g_L (order.getD n.toNat 0) (fun (b:List Int) =>
 Lp2 (fun (k_2:Int) (f05:Int) kont4=>((k_2<(b.length:Int)->∃ J5:Int->Prop,((0<=k_2/\k_2<(b.length:Nat)) /\
 (0<=b.getD k_2.toNat 0/\b.getD k_2.toNat 0<((g_L.length:Int).toNat:Nat)) /\
 ((¬ (((out.getD ((b.getD k_2.toNat 0).toNat) (0,[],[])).1)=(1:Int))->J5 (3:Int)) /\
 (((out.getD ((b.getD k_2.toNat 0).toNat) (0,[],[])).1)=(1:Int)->J5 f05))) /\
 (∀ f06:Int,J5 f06->(In .i64 (k_2+(1:Int))) /\
 kont4 (k_2+(1:Int)) f06)) /\
 (¬ (k_2<(b.length:Int))->∃ J6:Int->(List UInt8)->(List UInt8)->Prop,(((f05=(1:Int)->kU ((g_L.getD ((order.getD n.toNat 0).toNat) (0,[],[],[])).1) ((g_L.getD ((order.getD n.toNat 0).toNat) (0,[],[],[])).2.1) sums (fun (t146:List UInt8) =>
 Zi ((g_L.getD ((order.getD n.toNat 0).toNat) (0,[],[],[])).1) ((g_L.getD ((order.getD n.toNat 0).toNat) (0,[],[],[])).2.1) texts (fun (t1540:List UInt8) (t1541:Int) =>
 ((t1541=(0:Int)->J6 f05 t1540 t146) /\
 (¬ (t1541=(0:Int))->J6 (2:Int) ([]:List UInt8) t146))))) /\
 (¬ (f05=(1:Int))->J6 f05 ([]:List UInt8) (List.replicate 32 0:List UInt8)))) /\
 (∀ f07:Int,∀ f1:List UInt8,∀ f2:List UInt8,J6 f07 f1 f2->(0<=order.getD n.toNat 0/\order.getD n.toNat 0<((g_L.length:Int).toNat:Nat)) /\
 (In .i64 (n+(1:Int))) /\
 kont1 (n+(1:Int)) (out.set ((order.getD n.toNat 0).toNat) (f07,f1,f2)))))) (0:Int) f0)))) [] [] (0:Int) (1:Int)) /\
 (¬ (n<(order.length:Int))->K out))) (0:Int) (List.replicate (g_L.length:Int).toNat (0,[],[])))))
def kb (g_L:List (Int × List (List UInt8) × List (List UInt8) × List UInt8)) (files:List (List UInt8 × List UInt8)) (K:(List (List UInt8 × List UInt8))->Prop):Prop :=
 (g_L.length<=maxLen ->
 (files.length<=maxLen ->
 jL g_L files (fun (f:List (Int × List UInt8 × List UInt8)) =>
 Lp2 (fun (paths:List (List UInt8)) (i:Int) kont1=>((i<(f.length:Int)->∃ J1:(List (List UInt8))->Prop,((0<=i/\i<(f.length:Nat)) /\
 ((((f.getD i.toNat (0,[],[])).1)=(1:Int)->(0<=i/\i<(g_L.length:Nat)) /\
 ((paths.length+(([(g_L.getD i.toNat (0,[],[],[])).2.2.2]:List (List UInt8))).length)*16<=140737488355328) /\
 J1 (paths++([(g_L.getD i.toNat (0,[],[],[])).2.2.2]:List (List UInt8)))) /\
 (¬ (((f.getD i.toNat (0,[],[])).1)=(1:Int))->J1 paths))) /\
 (∀ paths2:List (List UInt8),J1 paths2->(In .i64 (i+(1:Int))) /\
 kont1 paths2 (i+(1:Int)))) /\
 (¬ (i<(f.length:Int))->jH paths (fun (paths3:List (List UInt8)) =>
 Lp2 (fun (out:List (List UInt8 × List UInt8)) (i2:Int) kont2=>((i2<(paths3.length:Int)->(0<=i2/\i2<(paths3.length:Nat)) /\
 (0<=i2/\i2<(paths3.length:Nat)) /\
 qZ g_L (paths3.getD i2.toNat []) (fun (t55:Int) =>
 (0<=t55/\t55<(f.length:Nat)) /\
 ((out.length+(([(paths3.getD i2.toNat [],(f.getD t55.toNat (0,[],[])).2.1)]:List (List UInt8 × List UInt8))).length)*32<=140737488355328) /\
 (In .i64 (i2+(1:Int))) /\
 kont2 (out++([(paths3.getD i2.toNat [],(f.getD t55.toNat (0,[],[])).2.1)]:List (List UInt8 × List UInt8))) (i2+(1:Int)))) /\
 (¬ (i2<(paths3.length:Int))->K out))) [] (0:Int))))) [] (0:Int))))
def Zm (g_L:List (Int × List (List UInt8) × List (List UInt8) × List UInt8)) (K:Int->Prop):Prop :=
 (g_L.length<=maxLen ->
 (In .i64 ((4:Int)*(g_L.length:Int))) /\
 (In .i64 (((4:Int)*(g_L.length:Int))+(1:Int))) /\
 K (((4:Int)*(g_L.length:Int))+(1:Int)))
set_option maxHeartbeats 8000000 in
theorem W_smithyref_SameFile {w:World} {a_Path:List UInt8} {a_Text:List UInt8} {b_Path:List UInt8} {b_Text:List UInt8} {K:Bool->Prop} (H:Zb a_Path a_Text b_Path b_Text K):Fn Tryz.prog 50 ⟨[.agg ⟨[vs a_Path,vs a_Text]⟩,.agg ⟨[vs b_Path,vs b_Text]⟩]⟩ w (fun v w'=>w.grownBy w' none/\∃ (r:Bool),v=.bool r/\K r):=by
 unfold Zb at H
 refine Fn.enter (by kernel_rfl) Tryz.func50 rfl Tryz.ntmps50 rfl ?_
 refine zc (zb (WL.box (us:=[vs a_Path,vs a_Text]) rfl rfl rfl (fun g1 w1 hB1 hg1 hl1=>WL.box (us:=[vs b_Path,vs b_Text]) rfl rfl rfl (fun g2 w2 hB2 hg2 hl2=>?_))))
 have k1:=hB1.g0 hg2
 refine yp (h:=(zd (za (zc (zb (yp (h:=(zi rfl (zt qD k1 rfl rfl rfl) (yp (h:=(zi rfl (zt qD hB2 rfl rfl rfl) (yp (h:=(yp (h:=(zD 6 (fun L' w'=>∃ q1:Bool,L'=[(16,.bool q1)]/\((decide (a_Path=b_Path)) && (decide (a_Text=b_Text)))=q1/\w2=w') ?_ (fun hQ=>?_)))))))))))))))))
 ·rintro _ _ ⟨q1,rfl,rfl,rfl⟩
  exact yp (h:=(zd (za (zq (zx rfl rfl ⟨(qE hg1 hg2),(decide (a_Path=b_Path)) && (decide (a_Text=b_Text)),rfl,H⟩)))))
 ·clear H
  rcases Bool.eq_false_or_eq_true (decide (a_Path=b_Path)) with b1 | b1
  ·exact gp b1 (h:=(zC rfl rfl (okb b1) rfl (zt qD k1 rfl rfl rfl) (gp b1 (h:=(zC rfl rfl (okb b1) rfl (zt qD hB2 rfl rfl rfl) (gp b1 (h:=(zi rfl (zy (okb b1) rfl) (wk (hQ _ _ ⟨decide (a_Text=b_Text),rfl,by rw [b1] <;> rfl,rfl⟩))))))))))
  ·exact gn b1 (h:=(gn b1 (h:=(gn b1 (h:=(gn b1 (h:=(gn b1 (h:=(zi rfl (zv (okb b1) rfl) (wk (hQ _ _ ⟨false,rfl,by rw [b1] <;> rfl,rfl⟩))))))))))))
set_option maxHeartbeats 8000000 in
theorem W_smithyref_SameFiles {w:World} {a:List (List UInt8 × List UInt8)} {A_a:Option Addr} {c_a:Nat} {b:List (List UInt8 × List UInt8)} {A_b:Option Addr} {c_b:Nat} {n_a:Nat} {n_b:Nat} {K:Bool->Prop} (ha:RdK 2 enc67 w A_a c_a a) (g6:n_a=a.length) (hb:RdK 2 enc67 w A_b c_b b) (g7:n_b=b.length) (H:kd a b K):Fn Tryz.prog 19 ⟨[.slice A_a n_a c_a,.slice A_b n_b c_b]⟩ w (fun v w'=>w.grownBy w' none/\∃ (r:Bool),v=.bool r/\K r):=by
 subst g6
 subst g7
 unfold kd at H
 refine Fn.enter (by kernel_rfl) Tryz.func19 rfl Tryz.ntmps19 rfl ?_
 replace H:=H (Nat.le_trans ha.cap ha.max)
 replace H:=H (Nat.le_trans hb.cap hb.max)
 refine zc (zb (yp (h:=(zd (za (zc (zc (zb (yp (h:=(yp (h:=(yp (h:=(yp (h:=(yp (h:=(zd (za (zk rfl (fun b1=>?_) (fun b1=>?_))))))))))))))))))))))
 ·replace H:=H.1 (kN b1)
  exact zc (zb (yp (h:=(zd (za (zq (zh (zx rfl rfl ⟨(qK _ _),false,rfl,H⟩))))))))
 ·replace H:=H.2 (j9 b1)
  refine zm (za (zc (zc (zb (yp (h:=(zd (za (WC.block ?_)))))))))
  obtain ⟨I1,mu1,e1,HR1⟩:=H
  refine zA (fun n' L' w'=>∃ (i:Int),n'=mu1 i/\L'=[(0,.slice A_a a.length c_a),(1,.slice A_b b.length c_b),(5,.int .i64 i)]/\I1 i/\w.grownBy w' none) _ _ ⟨(0:Int),rfl,rfl,e1,(qK _ _)⟩ sb ?_
  clear e1
  rintro _ _ w1 ⟨i,rfl,rfl,hI1,gr1⟩
  have H:=HR1 i hI1
  refine zc (zc (zb (yp (h:=(yp (h:=(yp (h:=(yp (h:=(zd (za (zk rfl (fun b2=>?_) (fun b2=>?_))))))))))))))
  ·replace H:=H.1 (of_decide_eq_true b2)
   refine zm (za (zc (WC.block (zc (zO (fun k => !(Nat.beq k 8)) (LD [3,7] (fun w'=>RdK 2 enc67 w' A_a c_a a/\RdK 2 enc67 w' A_b c_b b)) mixed (by kernel_rfl) (fun k w' h _=>⟨(RdK.eqv h (ha.grown gr1)),(RdK.eqv h (hb.grown gr1))⟩) (zu rfl rfl (fun w' hw'=>ze qD rfl) (zu rfl rfl (fun w' hw'=>ze qD rfl) ?_)))))))
   obtain ⟨h1,H⟩:=H
   refine zu rfl rfl (fun w' hw'=>zE qD (ha.grown gr1) rfl rfl rfl rfl h1.1 h1.2) (zu rfl rfl (fun w' hw'=>zU ([],[]) qD (hw' rfl).1 rfl rfl (iltN h1 rfl)) (zu rfl rfl (fun w' hw'=>ze qD rfl) (zu rfl rfl (fun w' hw'=>ze qD rfl) ?_)))
   obtain ⟨h2,H⟩:=H
   refine zu rfl rfl (fun w' hw'=>zE qD (hb.grown gr1) rfl rfl rfl rfl h2.1 h2.2) (zu rfl rfl (fun w' hw'=>zU ([],[]) qD (hw' rfl).2 rfl rfl (iltN h2 rfl)) (zT rfl (qI) rfl rfl (W_smithyref_SameFile H) (fun v w' h w2 e=>DD.keep (⟨(RdK.grown (ha.grown gr1) (qQ h.1 e)),(RdK.grown (hb.grown gr1) (qQ h.1 e))⟩)) ?_))
   rintro _ w2 ⟨hg1,same,rfl,H⟩
   have gr2:=qE gr1 hg1
   refine zu rfl rfl (fun w' hw'=>ze qD rfl) (zX (za (zc (zb (yp (h:=(yp (h:=(zd (za (zk rfl (fun b3=>?_) (fun b3=>?_))))))))))))
   ·replace H:=H.1 (b3)
    exact zc (zb (yp (h:=(zd (za (zq (zp (zh (zh (zp (zh (zx rfl rfl ⟨gr2,false,rfl,H⟩))))))))))))
   ·replace H:=H.2 (b3)
    refine zm (zg (za (zb (yp (h:=?_)))))
    obtain ⟨h3,H⟩:=H
    exact zi rfl (Yld.add rfl rfl h3) (yp (h:=(zd (zw _ ⟨i+(1:Int),rfl,rfl,H.1,gr2⟩ sb H.2))))
  ·replace H:=H.2 (of_decide_eq_false b2)
   exact zz (zf (zf (zj (za (zc (zb (yp (h:=(zd (za (zq (zx rfl rfl ⟨gr1,true,rfl,H⟩))))))))))))
set_option maxHeartbeats 8000000 in
theorem W_smithyref17_Fates {S:List Nat} {w:World} {g_g:Nat} {g_L:List (Int × List (List UInt8) × List (List UInt8) × List UInt8)} {c8:Option Addr} {c9:Nat} {c1:List (Int × Hdr × Hdr × List UInt8)} {files:List (List UInt8 × List UInt8)} {a4:Option Addr} {a5:Nat} {d0:Nat} {c7:Nat} {K:(List (Int × List UInt8 × List UInt8))->Prop} (hG:GOK S w) (hS101:101∈S) (b0:RdK 4 qP w c8 c9 c1) (d4:d0=g_L.length) (a7:RelD de64 w c1 g_L) (hg:Bl w g_g 89 [.slice c8 d0 c9]) (hfiles:RdK 2 enc67 w a4 a5 files) (d3:c7=files.length) (H:jL g_L files K):Fn Tryz.prog 10 ⟨[.pointer (some ⟨g_g,0,none⟩),.slice a4 c7 a5]⟩ w (fun v w'=>w.grownBy w' none/\∃ (r:List (Int × List UInt8 × List UInt8)),∃ (A_r:Option Addr),∃ (c_r:Nat),v=.slice A_r r.length c_r/\OwnK 34 enc49 w' w.heap.size 49 A_r c_r r/\K r):=by
 subst d4
 subst d3
 unfold jL at H
 refine Fn.enter (by kernel_rfl) Tryz.func10 rfl Tryz.ntmps10 rfl ?_
 replace H:=H (by rw [<-a7.1]; exact Nat.le_trans b0.cap b0.max)
 replace H:=H (Nat.le_trans hfiles.cap hfiles.max)
 refine zc (zb (yp (h:=(zd (za (zc (zb (yp (h:=(yp (h:=(yp (h:=(zi rfl (zt qD hg rfl rfl rfl) (yp (h:=?_))))))))))))))))
 obtain ⟨h1,H⟩:=H
 refine WL.makeZK (f:=enc49) (B:=w.heap.size) (0,[],[]) enc49_ok rfl ow40 zero49 rfl rfl h1.1 h1.2.1 h1.2.2 (Nat.le_refl _) (fun g1 w1 hO1 hg1 hl1=>?_)
 have gr1:=hg1
 refine yp (h:=(zd (za (zc (zb (yp (h:=(zr rfl rfl (W_psmithyref17_Graph_Order (b0.grown gr1) rfl (a7.grown gr1) (hg.g0 gr1) H) ?_))))))))
 rintro _ w2 ⟨hg2,order,a0,a2,rfl,horder,H⟩
 have hb1:=horder.ge'
 refine yp (h:=(zd (za (zc (zc (zb (yp (h:=(zd (za (WC.block ?_)))))))))))
 obtain ⟨I1,mu1,e1,HR1⟩:=H
 refine zA (fun n' L' w'=>∃ (n:Int),∃ (out:List (Int × List UInt8 × List UInt8)),n'=mu1 n out/\L'=[(0,.pointer (some ⟨g_g,0,none⟩)),(1,.slice a4 files.length a5),(5,.slice (some ⟨g1,0,none⟩) ((g_L.length:Int).toNat) ((g_L.length:Int).toNat)),(6,.slice a0 order.length a2),(7,.int .i64 n)]/\I1 n out/\(g_L.length:Int).toNat=out.length/\w.grownBy w' none/\OwnK 34 enc49 w' w.heap.size 49 (some ⟨g1,0,none⟩) ((g_L.length:Int).toNat) out/\Own vi w' w.heap.size 3 a0 a2 order) _ _ ⟨(0:Int),(List.replicate (g_L.length:Int).toNat (0,[],[])),rfl,rfl,e1,(List.length_replicate).symm,(qE gr1 hg2),(hO1.grown hg2),(horder.base (fun g hg=>Nat.le_trans (qF gr1) (hb1 g hg)))⟩ sb ?_
 clear e1
 rintro _ _ w3 ⟨n,out,rfl,rfl,hI1,a9,gr3,k3,k4⟩
 have H:=HR1 n out hI1
 replace H:=H a9
 refine zc (zc (zb (yp (h:=(yp (h:=(yp (h:=(yp (h:=(zd (za (zk rfl (fun b1=>?_) (fun b1=>?_))))))))))))))
 ·replace H:=H.1 (of_decide_eq_true b1)
  refine zm (za (zc (WC.block (zc (zb (yp (h:=(yp (h:=?_)))))))))
  obtain ⟨h2,H⟩:=H
  refine zi rfl (zn qD k4.rd rfl rfl rfl rfl h2.1 h2.2) (zi rfl (zo 0 qD k4.rd rfl rfl (iltN h2 rfl)) (yp (h:=(zd (za (zc (zb (yp (h:=(yp (h:=(yp (h:=(zi rfl (zt qD (hg.g0 gr3) rfl rfl rfl) (yp (h:=?_))))))))))))))))
  obtain ⟨h3,H⟩:=H
  refine zi rfl (zE qD (b0.grown gr3) rfl rfl a7.1.symm rfl h3.1 h3.2) ?_
  obtain ⟨⟨f1,⟨d7,n1,d8⟩,⟨c2,n2,c5⟩,f2⟩,eh1,⟨en1,⟨en2,hR1⟩,⟨en3,hR2⟩,en4⟩⟩:=RelD.at a7 (0,hd0,hd0,[]) (0,[],[],[]) (j:=(order.getD n.toNat 0).toNat) (Nat.lt_of_lt_of_eq (iltN h3 a7.1.symm) a7.1)
  have en1:f1=(g_L.getD ((order.getD n.toNat 0).toNat) (0,[],[],[])).1:=en1
  subst en1
  have en2:n1=((g_L.getD ((order.getD n.toNat 0).toNat) (0,[],[],[])).2.1).length:=en2
  subst en2
  have en3:n2=((g_L.getD ((order.getD n.toNat 0).toNat) (0,[],[],[])).2.2.1).length:=en3
  subst en3
  have en4:f2=(g_L.getD ((order.getD n.toNat 0).toNat) (0,[],[],[])).2.2.2:=en4
  subst en4
  refine zi rfl (qk (v:=.agg ⟨[.int .i64 ((g_L.getD ((order.getD n.toNat 0).toNat) (0,[],[],[])).1),.slice d7 (((g_L.getD ((order.getD n.toNat 0).toNat) (0,[],[],[])).2.1).length) d8,.slice c2 (((g_L.getD ((order.getD n.toNat 0).toNat) (0,[],[],[])).2.2.1).length) c5,vs ((g_L.getD ((order.getD n.toNat 0).toNat) (0,[],[],[])).2.2.2)]⟩) (zU (0,hd0,hd0,[]) qD (b0.grown gr3) rfl rfl (iltN h3 a7.1.symm)) (by rw [eh1]; rfl)) (WL.alloc rfl zero64 (fun g2 w4 hB1 hg3 hl2=>zH (vs:=[.int .i64 ((g_L.getD ((order.getD n.toNat 0).toNat) (0,[],[],[])).1),.slice d7 (((g_L.getD ((order.getD n.toNat 0).toNat) (0,[],[],[])).2.1).length) d8,.slice c2 (((g_L.getD ((order.getD n.toNat 0).toNat) (0,[],[],[])).2.2.1).length) c5,vs ((g_L.getD ((order.getD n.toNat 0).toNat) (0,[],[],[])).2.2.2)]) qD rfl rfl rfl (qG rfl (qG rfl (qG rfl (qG rfl qR)))) hB1 rfl rfl (fun w5 hB2 hg4=>?_)))
  have gr5:=qH (qE gr3 hg3) hg4 (Ge.le (Ge.box hl2) (qF gr3))
  have k7:=(k3.grown hg3).go hg4 (Dj.new k3.lt' (Ge.box hl2))
  have k8:=(k4.grown hg3).go hg4 (Dj.new k4.lt' (Ge.box hl2))
  refine zd (za (zc (zb (zi rfl (zS (us:=([.int .i64 (1:Int),vs ([]:List UInt8)]++a32 (List.replicate 32 0:List UInt8))) zero49 places49 rfl rfl) (WL.alloc rfl zero49 (fun g3 w6 hB3 hg5 hl3=>zH (vs:=([.int .i64 (1:Int),vs ([]:List UInt8)]++a32 (List.replicate 32 0:List UInt8))) qD rfl rfl rfl (qG rfl (qG rfl (kt _))) hB3 rfl rfl (fun w7 hB4 hg6=>zd (za (zc (zb (yp (h:=(zd (za (zc (zb (yp (h:=(zd (za (zc (zc (zb (yp (h:=(zd (za (WC.block ?_))))))))))))))))))))))))))))
  obtain ⟨I2,mu2,e8,HR2⟩:=H
  refine zA (fun n' L' w'=>∃ (texts:List (List UInt8)),∃ (a1:Option Addr),∃ (a6:Nat),∃ (e0:Nat),∃ (sums:List (List UInt8)),∃ (a3:Option Addr),∃ (a8:Nat),∃ (e2:Nat),∃ (k:Int),∃ (f0:Int),n'=mu2 texts sums k f0/\L'=[(0,.pointer (some ⟨g_g,0,none⟩)),(1,.slice a4 files.length a5),(5,.slice (some ⟨g1,0,none⟩) ((g_L.length:Int).toNat) ((g_L.length:Int).toNat)),(6,.slice a0 order.length a2),(7,.int .i64 n),(8,.int .i64 (order.getD n.toNat 0)),(9,.pointer (some ⟨g2,0,none⟩)),(10,.pointer (some ⟨g3,0,none⟩)),(11,.slice a1 e0 a6),(12,.slice a3 e2 a8),(13,.int .i64 k)]/\I2 texts sums k f0/\e0=texts.length/\e2=sums.length/\w.grownBy w' none/\OwnK 34 enc49 w' w.heap.size 49 (some ⟨g1,0,none⟩) ((g_L.length:Int).toNat) out/\Own vi w' w.heap.size 3 a0 a2 order/\Bl w' g2 64 [.int .i64 ((g_L.getD ((order.getD n.toNat 0).toNat) (0,[],[],[])).1),.slice d7 (((g_L.getD ((order.getD n.toNat 0).toNat) (0,[],[],[])).2.1).length) d8,.slice c2 (((g_L.getD ((order.getD n.toNat 0).toNat) (0,[],[],[])).2.2.1).length) c5,vs ((g_L.getD ((order.getD n.toNat 0).toNat) (0,[],[],[])).2.2.2)]/\Bl w' g3 49 ([.int .i64 f0,vs ([]:List UInt8)]++a32 (List.replicate 32 0:List UInt8))/\Own vs w' w.heap.size 9 a1 a6 texts/\OwnK 32 a32 w' w.heap.size 44 a3 a8 sums/\Dj (blk (some ⟨g1,0,none⟩)) (blk a1)/\Dj (blk (some ⟨g1,0,none⟩)) (blk a3)/\Dj (blk a0) (blk a1)/\Dj (blk a0) (blk a3)/\Dj (some g2) (blk a1)/\Dj (some g2) (blk a3)/\Dj (some g3) (blk a1)/\Dj (some g3) (blk a3)/\Dj (blk a1) (blk a3)) _ _ ⟨[],none,0,0,[],none,0,0,(0:Int),(1:Int),rfl,rfl,e8,rfl,rfl,(qH (qE gr5 hg5) hg6 (Ge.le (Ge.box hl3) (qF gr5))),((k7.grown hg5).go hg6 (Dj.new k7.lt' (Ge.box hl3))),((k8.grown hg5).go hg6 (Dj.new k8.lt' (Ge.box hl3))),((hB2.g0 hg5).go hg6 (Dj.new hB2.lt' (Ge.box hl3))),hB4,(Own.nil vs w7 w.heap.size 9),(OwnK.nil a32_ok w7 w.heap.size 44),Dj.nr,Dj.nr,Dj.nr,Dj.nr,Dj.nr,Dj.nr,Dj.nr,Dj.nr,Dj.nl⟩ sb ?_
  clear e8
  rintro _ _ w8 ⟨texts,a1,a6,e0,sums,a3,a8,e2,k,f0,rfl,rfl,hI2,rfl,rfl,gr8,k15,k16,k17,k18,k19,k20,dj1,dj2,dj3,dj4,dj5,dj6,dj7,dj8,dj9⟩
  have H:=HR2 texts sums k f0 hI2
  refine zc (zc (zb (yp (h:=(yp (h:=(zi rfl (zt qD k17 rfl rfl rfl) (yp (h:=(yp (h:=(zd (za (zk rfl (fun b2=>?_) (fun b2=>?_)))))))))))))))
  ·replace H:=H.1 (of_decide_eq_true b2)
   refine zm (za (zc (WC.block (zc (zb (yp (h:=(yp (h:=(zi rfl (zt qD k17 rfl rfl rfl) (yp (h:=?_))))))))))))
   obtain ⟨h4,H⟩:=H
   refine zi rfl (zn qD (hR2.grown gr8) rfl rfl rfl rfl h4.1 h4.2) (zi rfl (zo [] qD (hR2.grown gr8) rfl rfl (iltN h4 rfl)) (zr rfl rfl (j6 (b0.grown gr8) rfl (a7.grown gr8) (hg.g0 gr8) H) ?_))
   rintro _ _ ⟨rfl,m,rfl,H⟩
   refine yp (h:=(zd (za (zc (zb (yp (h:=(zd (za (zc (zb (yp (h:=(zd (za (zc ?_))))))))))))))))
   obtain ⟨J1,H,hJ1⟩:=H
   refine zL (fun L' w'=>∃ (s:List UInt8),∃ (there:Bool),∃ (f02:Int),L'=[(0,.pointer (some ⟨g_g,0,none⟩)),(1,.slice a4 files.length a5),(5,.slice (some ⟨g1,0,none⟩) ((g_L.length:Int).toNat) ((g_L.length:Int).toNat)),(6,.slice a0 order.length a2),(7,.int .i64 n),(8,.int .i64 (order.getD n.toNat 0)),(9,.pointer (some ⟨g2,0,none⟩)),(10,.pointer (some ⟨g3,0,none⟩)),(11,.slice a1 texts.length a6),(12,.slice a3 sums.length a8),(13,.int .i64 k),(14,.int .i64 m),(15,vs s),(16,.bool there)]/\J1 s there f02/\w.grownBy w' none/\OwnK 34 enc49 w' w.heap.size 49 (some ⟨g1,0,none⟩) ((g_L.length:Int).toNat) out/\Own vi w' w.heap.size 3 a0 a2 order/\Bl w' g2 64 [.int .i64 ((g_L.getD ((order.getD n.toNat 0).toNat) (0,[],[],[])).1),.slice d7 (((g_L.getD ((order.getD n.toNat 0).toNat) (0,[],[],[])).2.1).length) d8,.slice c2 (((g_L.getD ((order.getD n.toNat 0).toNat) (0,[],[],[])).2.2.1).length) c5,vs ((g_L.getD ((order.getD n.toNat 0).toNat) (0,[],[],[])).2.2.2)]/\Bl w' g3 49 ([.int .i64 f02,vs ([]:List UInt8)]++a32 (List.replicate 32 0:List UInt8))/\Own vs w' w.heap.size 9 a1 a6 texts/\OwnK 32 a32 w' w.heap.size 44 a3 a8 sums) ?_ (fun hQ=>?_)
   ·clear H
    rintro _ w9 ⟨s,there,f02,rfl,H,gr9,k21,k22,k23,k24,k25,k26⟩
    replace H:=hJ1 s there f02 H
    refine za (zc (zc (zb (yp (h:=(zd (za (WC.block ?_))))))))
    obtain ⟨I3,mu3,f8,HR3⟩:=H
    refine zA (fun n' L' w'=>∃ (s2:List UInt8),∃ (there2:Bool),∃ (j:Int),n'=mu3 s2 there2 j/\L'=[(0,.pointer (some ⟨g_g,0,none⟩)),(1,.slice a4 files.length a5),(5,.slice (some ⟨g1,0,none⟩) ((g_L.length:Int).toNat) ((g_L.length:Int).toNat)),(6,.slice a0 order.length a2),(7,.int .i64 n),(8,.int .i64 (order.getD n.toNat 0)),(9,.pointer (some ⟨g2,0,none⟩)),(10,.pointer (some ⟨g3,0,none⟩)),(11,.slice a1 texts.length a6),(12,.slice a3 sums.length a8),(13,.int .i64 k),(14,.int .i64 m),(15,vs s2),(16,.bool there2),(17,.int .i64 j)]/\I3 s2 there2 j/\w9=w') _ _ ⟨s,there,(0:Int),rfl,rfl,f8,rfl⟩ sb ?_
    clear f8
    rintro _ _ _ ⟨s2,there2,j,rfl,rfl,hI3,rfl⟩
    have H:=HR3 s2 there2 j hI3
    refine zc (zc (zb (yp (h:=(yp (h:=(yp (h:=(yp (h:=(yp (h:=(zD 3 (fun L' w'=>∃ q1:Bool,L'=[(83,.bool q1),(0,.pointer (some ⟨g_g,0,none⟩)),(1,.slice a4 files.length a5),(5,.slice (some ⟨g1,0,none⟩) ((g_L.length:Int).toNat) ((g_L.length:Int).toNat)),(6,.slice a0 order.length a2),(7,.int .i64 n),(8,.int .i64 (order.getD n.toNat 0)),(9,.pointer (some ⟨g2,0,none⟩)),(10,.pointer (some ⟨g3,0,none⟩)),(11,.slice a1 texts.length a6),(12,.slice a3 sums.length a8),(13,.int .i64 k),(14,.int .i64 m),(15,vs s2),(16,.bool there2),(17,.int .i64 j)]/\((decide (j<(files.length:Int))) && (decide (m<(0:Int))))=q1/\w9=w') ?_ (fun hQ=>?_))))))))))))))
    ·rintro _ _ ⟨q1,rfl,rfl,rfl⟩
     refine zd (za (zk rfl (fun b3=>?_) (fun b3=>?_)))
     ·replace H:=H.1 (b3)
      refine zm (za (zc ?_))
      obtain ⟨J2,H,hJ2⟩:=H
      refine zL (fun L' w'=>∃ (s3:List UInt8),∃ (there3:Bool),L'=[(0,.pointer (some ⟨g_g,0,none⟩)),(1,.slice a4 files.length a5),(5,.slice (some ⟨g1,0,none⟩) ((g_L.length:Int).toNat) ((g_L.length:Int).toNat)),(6,.slice a0 order.length a2),(7,.int .i64 n),(8,.int .i64 (order.getD n.toNat 0)),(9,.pointer (some ⟨g2,0,none⟩)),(10,.pointer (some ⟨g3,0,none⟩)),(11,.slice a1 texts.length a6),(12,.slice a3 sums.length a8),(13,.int .i64 k),(14,.int .i64 m),(15,vs s3),(16,.bool there3),(17,.int .i64 j)]/\J2 s3 there3/\w9=w') ?_ (fun hQ=>?_)
      ·clear H
       rintro _ _ ⟨s3,there3,rfl,H,rfl⟩
       replace H:=hJ2 s3 there3 H
       refine za (zb (yp (h:=?_)))
       obtain ⟨h5,H⟩:=H
       exact zi rfl (Yld.add rfl rfl h5) (yp (h:=(zd (zw _ ⟨s3,there3,j+(1:Int),rfl,rfl,H.1,rfl⟩ sb H.2))))
      ·clear hJ2
       refine WC.block (zc (zQ mixed (by kernel_rfl) (zB rfl (ze qD rfl) (zB rfl (ze qD rfl) ?_))))
       obtain ⟨h6,H⟩:=H
       refine zB rfl (zE qD (hfiles.grown gr9) rfl rfl rfl rfl h6.1 h6.2) (zB rfl (zK qD (hfiles.grown gr9) (iltN h6 rfl) rfl rfl rfl) (zB rfl (zN ([],[]) qD (hfiles.grown gr9) rfl rfl (iltN h6 rfl) rfl) (zB rfl (ze qD rfl) (zB rfl (zt qD k23 rfl rfl rfl) (zB rfl (ze qD rfl) ?_)))))
       obtain ⟨h7,H⟩:=H
       refine zB rfl (zn qD (hR2.grown gr9) rfl rfl rfl rfl h7.1 h7.2) (zB rfl (zo [] qD (hR2.grown gr9) rfl rfl (iltN h7 rfl)) (zB rfl (ze qD rfl) (zW (za (zk rfl (fun b4=>?_) (fun b4=>?_))))))
       ·replace H:=H.1 (of_decide_eq_true b4)
        refine zc (zb (yp (h:=(yp (h:=?_)))))
        obtain ⟨h8,H⟩:=H
        exact zi rfl (zE qD (hfiles.grown gr9) rfl rfl rfl rfl h8.1 h8.2) (zi rfl (zK qD (hfiles.grown gr9) (iltN h8 rfl) rfl rfl rfl) (zi rfl (zN ([],[]) qD (hfiles.grown gr9) rfl rfl (iltN h8 rfl) rfl) (yp (h:=(zd (za (zb (yp (h:=(zd (zg (WX.weaken sb (hQ _ _ ⟨(files.getD j.toNat ([],[])).2,true,rfl,H,rfl⟩)))))))))))))
       ·replace H:=H.2 (of_decide_eq_false b4)
        exact zm (zg (WX.weaken sb (hQ _ _ ⟨s2,there2,rfl,H,rfl⟩)))
     ·replace H:=H.2 (b3)
      refine zz (zf (zf (zj (za (zc ?_)))))
      obtain ⟨J3,H,hJ3⟩:=H
      refine zL (fun L' w'=>∃ (f03:Int),L'=[(0,.pointer (some ⟨g_g,0,none⟩)),(1,.slice a4 files.length a5),(5,.slice (some ⟨g1,0,none⟩) ((g_L.length:Int).toNat) ((g_L.length:Int).toNat)),(6,.slice a0 order.length a2),(7,.int .i64 n),(8,.int .i64 (order.getD n.toNat 0)),(9,.pointer (some ⟨g2,0,none⟩)),(10,.pointer (some ⟨g3,0,none⟩)),(11,.slice a1 texts.length a6),(12,.slice a3 sums.length a8),(13,.int .i64 k),(15,vs s2)]/\J3 f03/\w.grownBy w' none/\OwnK 34 enc49 w' w.heap.size 49 (some ⟨g1,0,none⟩) ((g_L.length:Int).toNat) out/\Own vi w' w.heap.size 3 a0 a2 order/\Bl w' g2 64 [.int .i64 ((g_L.getD ((order.getD n.toNat 0).toNat) (0,[],[],[])).1),.slice d7 (((g_L.getD ((order.getD n.toNat 0).toNat) (0,[],[],[])).2.1).length) d8,.slice c2 (((g_L.getD ((order.getD n.toNat 0).toNat) (0,[],[],[])).2.2.1).length) c5,vs ((g_L.getD ((order.getD n.toNat 0).toNat) (0,[],[],[])).2.2.2)]/\Bl w' g3 49 ([.int .i64 f03,vs ([]:List UInt8)]++a32 (List.replicate 32 0:List UInt8))/\Own vs w' w.heap.size 9 a1 a6 texts/\OwnK 32 a32 w' w.heap.size 44 a3 a8 sums) ?_ (fun hQ=>?_)
      ·clear H
       rintro _ w10 ⟨f03,rfl,H,gr10,k27,k28,k29,k30,k31,k32⟩
       replace H:=hJ3 f03 H
       refine za (zc (zb (yp (h:=(yp (h:=(zP qD rfl rfl rfl (qG rfl qR) rfl (by omega) (fun g4 w11 hB5 hg7 hl4=>?_))))))))
       have hO2:Own vs w11 w.heap.size 9 (some ⟨g4,0,none⟩) 1 ([s2]:List (List UInt8)):=Own.ofBl hB5 (Nat.le_trans (qF gr10) hl4) (by simp [maxLen]) rfl
       have gr11:=qE gr10 hg7
       have k33:=k27.grown hg7
       have k34:=k28.grown hg7
       have k35:=k29.g0 hg7
       have k36:=k30.g0 hg7
       have k37:=k31.grown hg7
       have k38:=k32.grown hg7
       obtain ⟨h9,H⟩:=H
       refine zG qD rfl rfl One.s k37 rfl rfl hO2.rd rfl rfl h9 (qN h9) (qF gr11) (fun e5 e7 w12 hO3 hg8 hk1=>yp (h:=(zd (za (zb (yp (h:=(yp (h:=(zr rfl rfl (W_smithyref1_Sum H) ?_))))))))))
       rintro _ w13 ⟨hg9,t116,rfl,H⟩
       have gr13:=qE (qH gr11 hg8 k37.ge') hg9
       refine WL.litK (f:=a32) ([t116]:List (List UInt8)) a32_ok rfl ow99 rfl rfl rfl (fun g5 w14 hB6 hg10 hl5=>?_)
       have hO4:OwnK 32 a32 w14 w.heap.size 44 (some ⟨g5,0,none⟩) 1 ([t116]:List (List UInt8)):=OwnK.ofBl a32_ok hB6 (Nat.le_trans (qF gr13) hl5) (by simp [maxLen]) rfl
       have gr14:=qE gr13 hg10
       have k50:=((k33.go hg8 dj1).grown hg9).grown hg10
       have k51:=((k34.go hg8 dj3).grown hg9).grown hg10
       have k52:=((k35.go hg8 dj5).g0 hg9).g0 hg10
       have k53:=((k36.go hg8 dj7).g0 hg9).g0 hg10
       have k54:=((k38.go hg8 dj9.symm).grown hg9).grown hg10
       have k55:=(hO3.grown hg9).grown hg10
       obtain ⟨h10,H⟩:=H
       refine qy rfl ow99 k54 rfl rfl hO4.rd rfl rfl h10 (qN h10) (qF gr14) (fun f3 f4 w15 hO5 hg11 hk2=>yp (h:=(zd (zg (za (zb (yp (h:=?_))))))))
       obtain ⟨h11,H⟩:=H
       exact zi rfl (Yld.add rfl rfl h11) (yp (h:=(zd (zw _ ⟨texts++([s2]:List (List UInt8)),e5,e7,(texts++([s2]:List (List UInt8))).length,sums++([t116]:List (List UInt8)),f3,f4,(sums++([t116]:List (List UInt8))).length,k+(1:Int),f03,rfl,rfl,H.1,rfl,rfl,(qH gr14 hg11 k54.ge'),(k50.go hg11 dj2),(k51.go hg11 dj4),(k52.go hg11 dj6),(k53.go hg11 dj8),(k55.go hg11 (Dj.app dj9 k38.lt' hk1)),hO5,(Dj.app dj1.symm k33.lt' hk1).symm,(Dj.app dj2.symm k50.lt' hk2).symm,(Dj.app dj3.symm k34.lt' hk1).symm,(Dj.app dj4.symm k51.lt' hk2).symm,(Dj.app dj5.symm k35.lt' hk1).symm,(Dj.app dj6.symm k52.lt' hk2).symm,(Dj.app dj7.symm k36.lt' hk1).symm,(Dj.app dj8.symm k53.lt' hk2).symm,(Dj.app (Dj.app dj9 k38.lt' hk1).symm k55.lt' hk2).symm⟩ sb H.2))))
      ·clear hJ3
       refine zc (zb (yp (h:=(yp (h:=(yp (h:=(zD 4 (fun L' w'=>∃ q2:Bool,L'=[(108,.bool q2),(0,.pointer (some ⟨g_g,0,none⟩)),(1,.slice a4 files.length a5),(5,.slice (some ⟨g1,0,none⟩) ((g_L.length:Int).toNat) ((g_L.length:Int).toNat)),(6,.slice a0 order.length a2),(7,.int .i64 n),(8,.int .i64 (order.getD n.toNat 0)),(9,.pointer (some ⟨g2,0,none⟩)),(10,.pointer (some ⟨g3,0,none⟩)),(11,.slice a1 texts.length a6),(12,.slice a3 sums.length a8),(13,.int .i64 k),(15,vs s2)]/\((!there2) && (decide (f02=(1:Int))))=q2/\w9=w') ?_ (fun hQ=>?_)))))))))
       ·rintro _ _ ⟨q2,rfl,rfl,rfl⟩
        refine zd (za (zk rfl (fun b5=>?_) (fun b5=>?_)))
        ·replace H:=H.1 (b5)
         refine zb (yp (h:=(zV one3 rfl rfl rfl k24 (by simp) (fun w16 hB8 hg12=>?_))))
         have hB7:Bl w16 g3 49 ([.int .i64 (2:Int),vs ([]:List UInt8)]++a32 (List.replicate 32 0:List UInt8)):=hB8
         exact zd (WX.weaken sb (hQ _ _ ⟨(2:Int),rfl,H,(qH gr9 hg12 (Ge.le (Ge.box hl3) (qF gr5))),(k21.go hg12 (Dj.new k7.lt' (Ge.box hl3))),(k22.go hg12 (Dj.new k8.lt' (Ge.box hl3))),(k23.go hg12 (Dj.new hB2.lt' (Ge.box hl3))),hB7,(k25.go hg12 dj7.symm),(k26.go hg12 dj8.symm)⟩))
        ·replace H:=H.2 (b5)
         exact zm (WX.weaken sb (hQ _ _ ⟨f02,rfl,H,gr9,k21,k22,k23,k24,k25,k26⟩))
       ·clear H
        rcases Bool.eq_false_or_eq_true (!there2) with b6 | b6
        ·exact gp b6 (h:=(zC rfl rfl (okb b6) rfl (zt qD k24 rfl rfl rfl) (gp b6 (h:=(zi rfl (zy (okb b6) rfl) (wk (hQ _ _ ⟨decide (f02=(1:Int)),rfl,by rw [b6] <;> rfl,rfl⟩)))))))
        ·exact gn b6 (h:=(gn b6 (h:=(gn b6 (h:=(zi rfl (zv (okb b6) rfl) (wk (hQ _ _ ⟨false,rfl,by rw [b6] <;> rfl,rfl⟩))))))))
    ·clear H
     rcases Bool.eq_false_or_eq_true (decide (j<(files.length:Int))) with b7 | b7
     ·exact gp b7 (h:=(gp b7 (h:=(zi rfl (zy (okb b7) rfl) (wk (hQ _ _ ⟨decide (m<(0:Int)),rfl,by rw [b7] <;> rfl,rfl⟩))))))
     ·exact gn b7 (h:=(gn b7 (h:=(zi rfl (zv (okb b7) rfl) (wk (hQ _ _ ⟨false,rfl,by rw [b7] <;> rfl,rfl⟩))))))
   ·clear hJ1
    refine zc (zb (yp (h:=(yp (h:=(zd (za (zk rfl (fun b8=>?_) (fun b8=>?_)))))))))
    ·replace H:=H.1 (of_decide_eq_true b8)
     refine zc ?_
     obtain ⟨J4,H,hJ4⟩:=H
     refine zL (fun L' w'=>∃ (f04:Int),L'=[(0,.pointer (some ⟨g_g,0,none⟩)),(1,.slice a4 files.length a5),(5,.slice (some ⟨g1,0,none⟩) ((g_L.length:Int).toNat) ((g_L.length:Int).toNat)),(6,.slice a0 order.length a2),(7,.int .i64 n),(8,.int .i64 (order.getD n.toNat 0)),(9,.pointer (some ⟨g2,0,none⟩)),(10,.pointer (some ⟨g3,0,none⟩)),(11,.slice a1 texts.length a6),(12,.slice a3 sums.length a8),(13,.int .i64 k),(14,.int .i64 m)]/\J4 f04/\w.grownBy w' none/\OwnK 34 enc49 w' w.heap.size 49 (some ⟨g1,0,none⟩) ((g_L.length:Int).toNat) out/\Own vi w' w.heap.size 3 a0 a2 order/\Bl w' g2 64 [.int .i64 ((g_L.getD ((order.getD n.toNat 0).toNat) (0,[],[],[])).1),.slice d7 (((g_L.getD ((order.getD n.toNat 0).toNat) (0,[],[],[])).2.1).length) d8,.slice c2 (((g_L.getD ((order.getD n.toNat 0).toNat) (0,[],[],[])).2.2.1).length) c5,vs ((g_L.getD ((order.getD n.toNat 0).toNat) (0,[],[],[])).2.2.2)]/\Bl w' g3 49 ([.int .i64 f04,vs ([]:List UInt8)]++a32 (List.replicate 32 0:List UInt8))/\Own vs w' w.heap.size 9 a1 a6 texts/\OwnK 32 a32 w' w.heap.size 44 a3 a8 sums) ?_ (fun hQ1=>?_)
     ·clear H
      rintro _ w17 ⟨f04,rfl,H,gr17,k66,k67,k68,k69,k70,k71⟩
      replace H:=hJ4 f04 H
      refine za (zc (zb (yp (h:=(yp (h:=?_))))))
      obtain ⟨h12,H⟩:=H
      exact zi rfl (zE qD k66.rd rfl rfl a9 rfl h12.1 h12.2) (zi rfl (zK qD k66.rd (iltN h12 a9) rfl rfl rfl) (zi rfl (zN (0,[],[]) qD k66.rd rfl rfl (iltN h12 a9) rfl) (yp (h:=(zd (za (zb (yp (h:=(zd (WX.weaken sb (hQ _ _ ⟨(out.getD m.toNat (0,[],[])).2.1,true,f04,rfl,H,gr17,k66,k67,k68,k69,k70,k71⟩))))))))))))
     ·clear hJ4
      refine zc (zb (yp (h:=(yp (h:=?_)))))
      obtain ⟨h13,H⟩:=H
      refine zi rfl (zE qD k15.rd rfl rfl a9 rfl h13.1 h13.2) (zi rfl (zK qD k15.rd (iltN h13 a9) rfl rfl rfl) (zi rfl (zN (0,[],[]) qD k15.rd rfl rfl (iltN h13 a9) rfl) (yp (h:=(zd (za (zk rfl (fun b9=>?_) (fun b9=>?_))))))))
      ·replace H:=H.1 (kN b9)
       refine zb (yp (h:=(zV one3 rfl rfl rfl k18 (by simp) (fun w18 hB10 hg13=>?_))))
       have hB9:Bl w18 g3 49 ([.int .i64 (3:Int),vs ([]:List UInt8)]++a32 (List.replicate 32 0:List UInt8)):=hB10
       exact zd (WX.weaken sb (hQ1 _ _ ⟨(3:Int),rfl,H,(qH gr8 hg13 (Ge.le (Ge.box hl3) (qF gr5))),(k15.go hg13 (Dj.new k7.lt' (Ge.box hl3))),(k16.go hg13 (Dj.new k8.lt' (Ge.box hl3))),(k17.go hg13 (Dj.new hB2.lt' (Ge.box hl3))),hB9,(k19.go hg13 dj7.symm),(k20.go hg13 dj8.symm)⟩))
      ·replace H:=H.2 (j9 b9)
       exact zm (WX.weaken sb (hQ1 _ _ ⟨f0,rfl,H,gr8,k15,k16,k17,k18,k19,k20⟩))
    ·replace H:=H.2 (of_decide_eq_false b8)
     exact zm (WX.weaken sb (hQ _ _ ⟨([]:List UInt8),false,f0,rfl,H,gr8,k15,k16,k17,k18,k19,k20⟩))
  ·replace H:=H.2 (of_decide_eq_false b2)
   refine zz (zf (zf (zj (za (zc (zb (yp (h:=(yp (h:=(zr rfl rfl (jp (b0.grown gr8) rfl (a7.grown gr8) (hg.g0 gr8) H) ?_)))))))))))
   rintro _ w19 ⟨hg14,b,A_b,c_b,rfl,hb,H⟩
   have hb2:=hb.ge'
   refine yp (h:=(zd (za (zc (zc (zb (yp (h:=(zd (za (WC.block ?_)))))))))))
   obtain ⟨I4,mu4,f9,HR4⟩:=H
   refine zA (fun n' L' w'=>∃ (k_2:Int),∃ (f05:Int),n'=mu4 k_2 f05/\L'=[(0,.pointer (some ⟨g_g,0,none⟩)),(1,.slice a4 files.length a5),(5,.slice (some ⟨g1,0,none⟩) ((g_L.length:Int).toNat) ((g_L.length:Int).toNat)),(6,.slice a0 order.length a2),(7,.int .i64 n),(8,.int .i64 (order.getD n.toNat 0)),(9,.pointer (some ⟨g2,0,none⟩)),(10,.pointer (some ⟨g3,0,none⟩)),(11,.slice a1 texts.length a6),(12,.slice a3 sums.length a8),(18,.slice A_b b.length c_b),(19,.int .i64 k_2)]/\I4 k_2 f05/\w.grownBy w' none/\OwnK 34 enc49 w' w.heap.size 49 (some ⟨g1,0,none⟩) ((g_L.length:Int).toNat) out/\Own vi w' w.heap.size 3 a0 a2 order/\Bl w' g2 64 [.int .i64 ((g_L.getD ((order.getD n.toNat 0).toNat) (0,[],[],[])).1),.slice d7 (((g_L.getD ((order.getD n.toNat 0).toNat) (0,[],[],[])).2.1).length) d8,.slice c2 (((g_L.getD ((order.getD n.toNat 0).toNat) (0,[],[],[])).2.2.1).length) c5,vs ((g_L.getD ((order.getD n.toNat 0).toNat) (0,[],[],[])).2.2.2)]/\Bl w' g3 49 ([.int .i64 f05,vs ([]:List UInt8)]++a32 (List.replicate 32 0:List UInt8))/\Own vs w' w.heap.size 9 a1 a6 texts/\OwnK 32 a32 w' w.heap.size 44 a3 a8 sums/\Own vi w' w.heap.size 3 A_b c_b b) _ _ ⟨(0:Int),f0,rfl,rfl,f9,(qE gr8 hg14),(k15.grown hg14),(k16.grown hg14),(k17.g0 hg14),(k18.g0 hg14),(k19.grown hg14),(k20.grown hg14),(hb.base (fun g hg=>Nat.le_trans (qF gr8) (hb2 g hg)))⟩ sb ?_
   clear f9
   rintro _ _ w20 ⟨k_2,f05,rfl,rfl,hI4,gr20,k84,k85,k86,k87,k88,k89,k90⟩
   have H:=HR4 k_2 f05 hI4
   refine zc (zc (zb (yp (h:=(yp (h:=(yp (h:=(yp (h:=(zd (za (zk rfl (fun b10=>?_) (fun b10=>?_))))))))))))))
   ·replace H:=H.1 (of_decide_eq_true b10)
    refine zm (za (zc ?_))
    obtain ⟨J5,H,hJ5⟩:=H
    refine zL (fun L' w'=>∃ (f06:Int),L'=[(0,.pointer (some ⟨g_g,0,none⟩)),(1,.slice a4 files.length a5),(5,.slice (some ⟨g1,0,none⟩) ((g_L.length:Int).toNat) ((g_L.length:Int).toNat)),(6,.slice a0 order.length a2),(7,.int .i64 n),(8,.int .i64 (order.getD n.toNat 0)),(9,.pointer (some ⟨g2,0,none⟩)),(10,.pointer (some ⟨g3,0,none⟩)),(11,.slice a1 texts.length a6),(12,.slice a3 sums.length a8),(18,.slice A_b b.length c_b),(19,.int .i64 k_2)]/\J5 f06/\w.grownBy w' none/\OwnK 34 enc49 w' w.heap.size 49 (some ⟨g1,0,none⟩) ((g_L.length:Int).toNat) out/\Own vi w' w.heap.size 3 a0 a2 order/\Bl w' g2 64 [.int .i64 ((g_L.getD ((order.getD n.toNat 0).toNat) (0,[],[],[])).1),.slice d7 (((g_L.getD ((order.getD n.toNat 0).toNat) (0,[],[],[])).2.1).length) d8,.slice c2 (((g_L.getD ((order.getD n.toNat 0).toNat) (0,[],[],[])).2.2.1).length) c5,vs ((g_L.getD ((order.getD n.toNat 0).toNat) (0,[],[],[])).2.2.2)]/\Bl w' g3 49 ([.int .i64 f06,vs ([]:List UInt8)]++a32 (List.replicate 32 0:List UInt8))/\Own vs w' w.heap.size 9 a1 a6 texts/\OwnK 32 a32 w' w.heap.size 44 a3 a8 sums/\Own vi w' w.heap.size 3 A_b c_b b) ?_ (fun hQ=>?_)
    ·clear H
     rintro _ w21 ⟨f06,rfl,H,gr21,k91,k92,k93,k94,k95,k96,k97⟩
     replace H:=hJ5 f06 H
     refine za (zb (yp (h:=?_)))
     obtain ⟨h14,H⟩:=H
     exact zi rfl (Yld.add rfl rfl h14) (yp (h:=(zd (zw _ ⟨k_2+(1:Int),f06,rfl,rfl,H.1,gr21,k91,k92,k93,k94,k95,k96,k97⟩ sb H.2))))
    ·clear hJ5
     refine WC.block (zc (zb (yp (h:=(yp (h:=(yp (h:=?_))))))))
     obtain ⟨h15,H⟩:=H
     refine zi rfl (zn qD k90.rd rfl rfl rfl rfl h15.1 h15.2) (zi rfl (zo 0 qD k90.rd rfl rfl (iltN h15 rfl)) ?_)
     obtain ⟨h16,H⟩:=H
     refine zi rfl (zE qD k84.rd rfl rfl a9 rfl h16.1 h16.2) (zi rfl (zK qD k84.rd (iltN h16 a9) rfl rfl rfl) (zi rfl (zN (0,[],[]) qD k84.rd rfl rfl (iltN h16 a9) rfl) (yp (h:=(zd (za (zk rfl (fun b11=>?_) (fun b11=>?_))))))))
     ·replace H:=H.1 (kN b11)
      refine zb (yp (h:=(zV one3 rfl rfl rfl k87 (by simp) (fun w22 hB12 hg15=>?_))))
      have hB11:Bl w22 g3 49 ([.int .i64 (3:Int),vs ([]:List UInt8)]++a32 (List.replicate 32 0:List UInt8)):=hB12
      exact zd (zg (WX.weaken sb (hQ _ _ ⟨(3:Int),rfl,H,(qH gr20 hg15 (Ge.le (Ge.box hl3) (qF gr5))),(k84.go hg15 (Dj.new k7.lt' (Ge.box hl3))),(k85.go hg15 (Dj.new k8.lt' (Ge.box hl3))),(k86.go hg15 (Dj.new hB2.lt' (Ge.box hl3))),hB11,(k88.go hg15 dj7.symm),(k89.go hg15 dj8.symm),(k90.go hg15 ((Dj.new k18.lt' hb2).symm))⟩)))
     ·replace H:=H.2 (j9 b11)
      exact zm (zg (WX.weaken sb (hQ _ _ ⟨f05,rfl,H,gr20,k84,k85,k86,k87,k88,k89,k90⟩)))
   ·replace H:=H.2 (of_decide_eq_false b10)
    refine zz (zf (zf (zj (za (zc ?_)))))
    obtain ⟨J6,H,hJ6⟩:=H
    refine zL (fun L' w'=>∃ (f07:Int),∃ (f1:List UInt8),∃ (f2:List UInt8),L'=[(0,.pointer (some ⟨g_g,0,none⟩)),(1,.slice a4 files.length a5),(5,.slice (some ⟨g1,0,none⟩) ((g_L.length:Int).toNat) ((g_L.length:Int).toNat)),(6,.slice a0 order.length a2),(7,.int .i64 n),(8,.int .i64 (order.getD n.toNat 0)),(10,.pointer (some ⟨g3,0,none⟩))]/\J6 f07 f1 f2/\w.grownBy w' none/\OwnK 34 enc49 w' w.heap.size 49 (some ⟨g1,0,none⟩) ((g_L.length:Int).toNat) out/\Own vi w' w.heap.size 3 a0 a2 order/\Bl w' g3 49 ([.int .i64 f07,vs f1]++a32 f2)) ?_ (fun hQ=>?_)
    ·clear H
     rintro _ w23 ⟨f07,f1,f2,rfl,H,gr23,k104,k105,k106⟩
     replace H:=hJ6 f07 f1 f2 H
     refine za (zb (yp (h:=(yp (h:=(zi rfl (zY (vs:=([.int .i64 f07,vs f1]++a32 f2)) qD k106 rfl rfl rfl rfl) ?_))))))
     obtain ⟨h17,H⟩:=H
     refine zi rfl (zE qD k104.rd rfl rfl a9 rfl h17.1 h17.2) (WL.ostoreK (v:=(f07,f1,f2)) qD rfl k104 rfl rfl (iltN h17 a9) (fun w24 hO6 hg16=>zd (zg (za (zb (yp (h:=?_)))))))
     obtain ⟨h18,H⟩:=H
     exact zi rfl (Yld.add rfl rfl h18) (yp (h:=(zd (zw _ ⟨n+(1:Int),out.set ((order.getD n.toNat 0).toNat) (f07,f1,f2),rfl,rfl,H.1,(a9.trans List.length_set.symm),(qH gr23 hg16 k104.ge'),hO6,(k105.go hg16 ((Dj.new hO1.lt' hb1).symm))⟩ sb H.2))))
    ·clear hJ6
     refine zc (zb (yp (h:=(zi rfl (zt qD k87 rfl rfl rfl) (yp (h:=(zd (za (zk rfl (fun b12=>?_) (fun b12=>?_))))))))))
     ·replace H:=H.1 (of_decide_eq_true b12)
      refine zc (zb (yp (h:=(zi rfl (zt qD k86 rfl rfl rfl) (yp (h:=(zi rfl (zt qD k86 rfl rfl rfl) (yp (h:=(zr rfl rfl (W_smithyref17_Key (hG.grown gr20) hS101 (hR1.grown gr20) rfl k89.rd rfl H) ?_))))))))))
      rintro _ w25 ⟨hg17,t146,rfl,H⟩
      refine yp (h:=?_)
      have hB15:Bl w25 g3 49 ([.int .i64 f05,vs ([]:List UInt8)]++((a32 (List.replicate 32 0:List UInt8))++[])):=by simpa only [List.append_assoc,List.append_nil] using (k87.g0 hg17)
      refine WL.storeP (vs:=(a32 t146)) qD rfl rfl rfl (kt _) hB15 rfl rfl rfl (fun w26 hB14 hg18=>?_)
      have hB13:Bl w26 g3 49 ([.int .i64 f05,vs ([]:List UInt8)]++a32 t146):=by simpa only [List.append_assoc,List.append_nil] using hB14
      have gr26:=qH (qE gr20 hg17) hg18 (Ge.le (Ge.box hl3) (qF gr5))
      have k115:=(k86.g0 hg17).go hg18 (Dj.new hB2.lt' (Ge.box hl3))
      refine zd (za (zc (zb (yp (h:=(zi rfl (zt qD k115 rfl rfl rfl) (yp (h:=(zi rfl (zt qD k115 rfl rfl rfl) (yp (h:=(zr rfl rfl (W_smithyref17_Do (hR1.grown gr26) rfl ((k88.grown hg17).go hg18 dj7.symm).rd rfl H) ?_))))))))))))
      rintro _ w27 ⟨hg19,t1540,t1541,rfl,H⟩
      have gr27:=qE gr26 hg19
      have k117:=((k84.grown hg17).go hg18 (Dj.new k7.lt' (Ge.box hl3))).grown hg19
      have k118:=((k85.grown hg17).go hg18 (Dj.new k8.lt' (Ge.box hl3))).grown hg19
      have k119:=hB13.g0 hg19
      refine yp (h:=(yp (h:=(yp (h:=(yp (h:=(yp (h:=(zd (za (zc (zb (yp (h:=(yp (h:=(zd (za (zk rfl (fun b13=>?_) (fun b13=>?_)))))))))))))))))))))
      ·replace H:=H.1 (of_decide_eq_true b13)
       refine zb (yp (h:=(yp (h:=(zV one9 rfl rfl rfl k119 (by simp) (fun w28 hB17 hg20=>?_))))))
       have hB16:Bl w28 g3 49 ([.int .i64 f05,vs t1540]++a32 t146):=hB17
       exact zd (WX.weaken sb (hQ _ _ ⟨f05,t1540,t146,rfl,H,(qH gr27 hg20 (Ge.le (Ge.box hl3) (qF gr5))),(k117.go hg20 (Dj.new k7.lt' (Ge.box hl3))),(k118.go hg20 (Dj.new k8.lt' (Ge.box hl3))),hB16⟩))
      ·replace H:=H.2 (of_decide_eq_false b13)
       refine zb (yp (h:=(zV one3 rfl rfl rfl k119 (by simp) (fun w29 hB19 hg21=>?_))))
       have hB18:Bl w29 g3 49 ([.int .i64 (2:Int),vs ([]:List UInt8)]++a32 t146):=hB19
       exact zd (WX.weaken sb (hQ _ _ ⟨(2:Int),([]:List UInt8),t146,rfl,H,(qH gr27 hg21 (Ge.le (Ge.box hl3) (qF gr5))),(k117.go hg21 (Dj.new k7.lt' (Ge.box hl3))),(k118.go hg21 (Dj.new k8.lt' (Ge.box hl3))),hB18⟩))
     ·replace H:=H.2 (of_decide_eq_false b12)
      exact zm (WX.weaken sb (hQ _ _ ⟨f05,([]:List UInt8),(List.replicate 32 0:List UInt8),rfl,H,gr20,k84,k85,k87⟩))
 ·replace H:=H.2 (of_decide_eq_false b1)
  exact zz (zf (zf (zj (za (zc (zb (yp (h:=(yp (h:=(zd (za (zq (zx rfl rfl ⟨gr3,out,(some ⟨g1,0,none⟩),(g_L.length:Int).toNat,(by rw [a9]),k3,H⟩))))))))))))))
set_option maxHeartbeats 8000000 in
theorem W_smithyref17_Outputs {S:List Nat} {w:World} {g_g:Nat} {g_L:List (Int × List (List UInt8) × List (List UInt8) × List UInt8)} {c8:Option Addr} {c9:Nat} {c1:List (Int × Hdr × Hdr × List UInt8)} {files:List (List UInt8 × List UInt8)} {a4:Option Addr} {a5:Nat} {d0:Nat} {c7:Nat} {K:(List (List UInt8 × List UInt8))->Prop} (hG:GOK S w) (hS101:101∈S) (b0:RdK 4 qP w c8 c9 c1) (d4:d0=g_L.length) (a7:RelD de64 w c1 g_L) (hg:Bl w g_g 89 [.slice c8 d0 c9]) (hfiles:RdK 2 enc67 w a4 a5 files) (d3:c7=files.length) (H:kb g_L files K):Fn Tryz.prog 21 ⟨[.pointer (some ⟨g_g,0,none⟩),.slice a4 c7 a5]⟩ w (fun v w'=>w.grownBy w' none/\∃ (r:List (List UInt8 × List UInt8)),∃ (A_r:Option Addr),∃ (c_r:Nat),v=.slice A_r r.length c_r/\OwnK 2 enc67 w' w.heap.size 67 A_r c_r r/\K r):=by
 subst d4
 subst d3
 unfold kb at H
 refine Fn.enter (by kernel_rfl) Tryz.func21 rfl Tryz.ntmps21 rfl ?_
 replace H:=H (by rw [<-a7.1]; exact Nat.le_trans b0.cap b0.max)
 replace H:=H (Nat.le_trans hfiles.cap hfiles.max)
 refine zc (zb (yp (h:=(zd (za (zc (zb (yp (h:=(yp (h:=(zr rfl rfl (W_smithyref17_Fates hG hS101 b0 rfl a7 hg hfiles rfl H) ?_))))))))))))
 rintro _ w1 ⟨hg1,f,A_f,c_f,rfl,hf,H⟩
 have hb1:=hf.ge'
 refine yp (h:=(zd (za (zc (zb (yp (h:=(zd (za (zc (zc (zb (yp (h:=(zd (za (WC.block ?_)))))))))))))))))
 obtain ⟨I1,mu1,e1,HR1⟩:=H
 refine zA (fun n' L' w'=>∃ (paths:List (List UInt8)),∃ (c3:Option Addr),∃ (d1:Nat),∃ (d9:Nat),∃ (i:Int),n'=mu1 paths i/\L'=[(0,.pointer (some ⟨g_g,0,none⟩)),(5,.slice A_f f.length c_f),(6,.slice c3 d9 d1),(7,.int .i64 i)]/\I1 paths i/\d9=paths.length/\w.grownBy w' none/\OwnK 34 enc49 w' w.heap.size 49 A_f c_f f/\Own vs w' w.heap.size 9 c3 d1 paths/\Dj (blk A_f) (blk c3)) _ _ ⟨[],none,0,0,(0:Int),rfl,rfl,e1,rfl,hg1,(hf.base (fun g hg=>Nat.le_trans (Nat.le_refl _) (hb1 g hg))),(Own.nil vs w1 w.heap.size 9),Dj.nr⟩ sb ?_
 clear e1
 rintro _ _ w2 ⟨paths,c3,d1,d9,i,rfl,rfl,hI1,rfl,gr2,k2,k3,dj1⟩
 have H:=HR1 paths i hI1
 refine zc (zc (zb (yp (h:=(yp (h:=(yp (h:=(yp (h:=(zd (za (zk rfl (fun b1=>?_) (fun b1=>?_))))))))))))))
 ·replace H:=H.1 (of_decide_eq_true b1)
  refine zm (za (zc ?_))
  obtain ⟨J1,H,hJ1⟩:=H
  refine zL (fun L' w'=>∃ (paths2:List (List UInt8)),∃ (c0:Option Addr),∃ (c6:Nat),∃ (d5:Nat),L'=[(0,.pointer (some ⟨g_g,0,none⟩)),(5,.slice A_f f.length c_f),(6,.slice c0 d5 c6),(7,.int .i64 i)]/\J1 paths2/\d5=paths2.length/\w.grownBy w' none/\OwnK 34 enc49 w' w.heap.size 49 A_f c_f f/\Own vs w' w.heap.size 9 c0 c6 paths2/\Dj (blk A_f) (blk c0)) ?_ (fun hQ=>?_)
  ·clear H
   rintro _ w3 ⟨paths2,c0,c6,d5,rfl,H,rfl,gr3,k4,k5,dj2⟩
   replace H:=hJ1 paths2 H
   refine za (zb (yp (h:=?_)))
   obtain ⟨h1,H⟩:=H
   exact zi rfl (Yld.add rfl rfl h1) (yp (h:=(zd (zw _ ⟨paths2,c0,c6,paths2.length,i+(1:Int),rfl,rfl,H.1,rfl,gr3,k4,k5,dj2⟩ sb H.2))))
  ·clear hJ1
   refine WC.block (zc (zb (yp (h:=(yp (h:=?_))))))
   obtain ⟨h2,H⟩:=H
   refine zi rfl (zE qD k2.rd rfl rfl rfl rfl h2.1 h2.2) (zi rfl (zK qD k2.rd (iltN h2 rfl) rfl rfl rfl) (zi rfl (zN (0,[],[]) qD k2.rd rfl rfl (iltN h2 rfl) rfl) (yp (h:=(zd (za (zk rfl (fun b2=>?_) (fun b2=>?_))))))))
   ·replace H:=H.1 (of_decide_eq_true b2)
    refine zb (yp (h:=(yp (h:=(yp (h:=(yp (h:=(zi rfl (zt qD (hg.g0 gr2) rfl rfl rfl) (yp (h:=?_)))))))))))
    obtain ⟨h3,H⟩:=H
    refine zi rfl (zE qD (b0.grown gr2) rfl rfl a7.1.symm rfl h3.1 h3.2) (zi rfl (zK qD (b0.grown gr2) (iltN h3 a7.1.symm) rfl rfl rfl) ?_)
    obtain ⟨⟨f1,⟨d7,n1,d8⟩,⟨c2,n2,c5⟩,f2⟩,eh1,⟨en1,⟨en2,hR1⟩,⟨en3,hR2⟩,en4⟩⟩:=RelD.at a7 (0,hd0,hd0,[]) (0,[],[],[]) (j:=i.toNat) (Nat.lt_of_lt_of_eq (iltN h3 a7.1.symm) a7.1)
    have en1:f1=(g_L.getD i.toNat (0,[],[],[])).1:=en1
    subst en1
    have en2:n1=((g_L.getD i.toNat (0,[],[],[])).2.1).length:=en2
    subst en2
    have en3:n2=((g_L.getD i.toNat (0,[],[],[])).2.2.1).length:=en3
    subst en3
    have en4:f2=(g_L.getD i.toNat (0,[],[],[])).2.2.2:=en4
    subst en4
    refine zi rfl (zN (v:=vs ((g_L.getD i.toNat (0,[],[],[])).2.2.2)) (0,hd0,hd0,[]) qD (b0.grown gr2) rfl rfl (iltN h3 a7.1.symm) (by rw [eh1]; rfl)) (zP qD rfl rfl rfl (qG rfl qR) rfl (by omega) (fun g1 w4 hB1 hg2 hl1=>?_))
    have hO1:Own vs w4 w.heap.size 9 (some ⟨g1,0,none⟩) 1 ([(g_L.getD i.toNat (0,[],[],[])).2.2.2]:List (List UInt8)):=Own.ofBl hB1 (Nat.le_trans (qF gr2) hl1) (by simp [maxLen]) rfl
    have gr4:=qE gr2 hg2
    have k6:=k2.grown hg2
    have k7:=k3.grown hg2
    obtain ⟨h4,H⟩:=H
    exact zG qD rfl rfl One.s k7 rfl rfl hO1.rd rfl rfl h4 (qN h4) (qF gr4) (fun e4 e6 w5 hO2 hg3 hk1=>yp (h:=(zd (zg (WX.weaken sb (hQ _ _ ⟨paths++([(g_L.getD i.toNat (0,[],[],[])).2.2.2]:List (List UInt8)),e4,e6,(paths++([(g_L.getD i.toNat (0,[],[],[])).2.2.2]:List (List UInt8))).length,rfl,H,rfl,(qH gr4 hg3 k7.ge'),(k6.go hg3 dj1),hO2,(Dj.app dj1.symm k6.lt' hk1).symm⟩))))))
   ·replace H:=H.2 (of_decide_eq_false b2)
    exact zm (zg (WX.weaken sb (hQ _ _ ⟨paths,c3,d1,paths.length,rfl,H,rfl,gr2,k2,k3,dj1⟩)))
 ·replace H:=H.2 (of_decide_eq_false b1)
  refine zz (zf (zf (zj (za (zc (zb (yp (h:=(zr rfl rfl (W_smithyref_SortedTexts k3.rd rfl H) ?_)))))))))
  rintro _ w6 ⟨hg4,paths3,c4,d2,rfl,hpaths3,H⟩
  have hb2:=hpaths3.ge'
  refine yp (h:=(zd (za (zc (zb (yp (h:=(zd (za (zc (zc (zb (yp (h:=(zd (za (WC.block ?_)))))))))))))))))
  obtain ⟨I2,mu2,e8,HR2⟩:=H
  refine zA (fun n' L' w'=>∃ (out:List (List UInt8 × List UInt8)),∃ (d6:Option Addr),∃ (e3:Nat),∃ (e9:Nat),∃ (i2:Int),n'=mu2 out i2/\L'=[(0,.pointer (some ⟨g_g,0,none⟩)),(5,.slice A_f f.length c_f),(6,.slice c4 paths3.length d2),(8,.slice d6 e9 e3),(9,.int .i64 i2)]/\I2 out i2/\e9=out.length/\w.grownBy w' none/\OwnK 34 enc49 w' w.heap.size 49 A_f c_f f/\Own vs w' w.heap.size 9 c4 d2 paths3/\OwnK 2 enc67 w' w.heap.size 67 d6 e3 out/\Dj (blk A_f) (blk d6)/\Dj (blk c4) (blk d6)) _ _ ⟨[],none,0,0,(0:Int),rfl,rfl,e8,rfl,(qE gr2 hg4),(k2.grown hg4),(hpaths3.base (fun g hg=>Nat.le_trans (qF gr2) (hb2 g hg))),(OwnK.nil enc67_ok w6 w.heap.size 67),Dj.nr,Dj.nr⟩ sb ?_
  clear e8
  rintro _ _ w7 ⟨out,d6,e3,e9,i2,rfl,rfl,hI2,rfl,gr7,k11,k12,k13,dj3,dj4⟩
  have H:=HR2 out i2 hI2
  refine zc (zc (zb (yp (h:=(yp (h:=(yp (h:=(yp (h:=(zd (za (zk rfl (fun b3=>?_) (fun b3=>?_))))))))))))))
  ·replace H:=H.1 (of_decide_eq_true b3)
   refine zm (za (zc (WC.block (zO (fun k => !(Nat.beq k 11 || Nat.beq k 16 || Nat.beq k 17)) (LD [4,10,14] (fun w'=>Rd vs w' c4 d2 paths3/\RdK 34 enc49 w' A_f c_f f)) mixed (by kernel_rfl) (fun k w' h _=>⟨(jA h k12.rd),(RdK.eqv h k11.rd)⟩) (zu rfl rfl (fun w' hw'=>ze qD rfl) (zu rfl rfl (fun w' hw'=>ze qD rfl) (zu rfl rfl (fun w' hw'=>ze qD rfl) ?_)))))))
   obtain ⟨h5,H⟩:=H
   refine zu rfl rfl (fun w' hw'=>zn qD k12.rd rfl rfl rfl rfl h5.1 h5.2) (zu rfl rfl (fun w' hw'=>zo [] qD (hw' rfl).1 rfl rfl (iltN h5 rfl)) (zu rfl rfl (fun w' hw'=>ze qD rfl) (zu rfl rfl (fun w' hw'=>ze qD rfl) (zu rfl rfl (fun w' hw'=>ze qD rfl) (zu rfl rfl (fun w' hw'=>ze qD rfl) ?_)))))
   obtain ⟨h6,H⟩:=H
   refine zu rfl rfl (fun w' hw'=>zn qD k12.rd rfl rfl rfl rfl h6.1 h6.2) (zu rfl rfl (fun w' hw'=>zo [] qD (hw' rfl).1 rfl rfl (iltN h6 rfl)) (zT rfl (qI) rfl rfl (j6 (b0.grown gr7) rfl (a7.grown gr7) (hg.g0 gr7) H) (fun v w' h w2 e=>DD.keep (⟨(jA (eqvL h.1 e) k12.rd),(RdK.eqv (eqvL h.1 e) k11.rd)⟩)) ?_))
   rintro _ _ ⟨rfl,t55,rfl,H⟩
   obtain ⟨h7,H⟩:=H
   refine zu rfl rfl (fun w' hw'=>zE qD k11.rd rfl rfl rfl rfl h7.1 h7.2) (zu rfl rfl (fun w' hw'=>zK qD k11.rd (iltN h7 rfl) rfl rfl rfl) (zu rfl rfl (fun w' hw'=>zN (0,[],[]) qD (hw' rfl).2 rfl rfl (iltN h7 rfl) rfl) (zu rfl rfl (fun w' hw'=>zS (us:=[vs (paths3.getD i2.toNat []),vs ((f.getD t55.toNat (0,[],[])).2.1)]) zero67 places67 rfl rfl) (z6 rfl (qI) rfl (Eff.litK (f:=enc67) (xs:=([(paths3.getD i2.toNat [],(f.getD t55.toNat (0,[],[])).2.1)]:List (List UInt8 × List UInt8))) enc67_ok ow23 rfl rfl rfl) (fun v w' ⟨_,_,h⟩=>DD.keep (⟨(Rd.grown k12.rd (qQ h (Eqv.refl _))),(RdK.grown k11.rd (qQ h (Eqv.refl _)))⟩)) ?_))))
   rintro _ w8 ⟨rfl,hB2,hg5⟩
   obtain ⟨f7,hl2⟩:∃ g,g=w7.heap.size:=⟨_,rfl⟩
   rw [<-hl2] at hB2
   rw [<-hl2]
   have hO3:OwnK 2 enc67 w8 w.heap.size 67 (some ⟨f7,0,none⟩) 1 ([(paths3.getD i2.toNat [],(f.getD t55.toNat (0,[],[])).2.1)]:List (List UInt8 × List UInt8)):=OwnK.ofBl enc67_ok hB2 (Nat.le_trans (qF gr7) (Nat.le_of_eq hl2.symm)) (by simp [maxLen]) rfl
   have gr8:=qE gr7 hg5
   have k14:=k11.grown hg5
   have k15:=k12.grown hg5
   have k16:=k13.grown hg5
   obtain ⟨h8,H⟩:=H
   refine z6 rfl (qI) rfl (Eff.appendK ow23 k16 rfl rfl hO3.rd rfl rfl h8 (qN h8) (qF gr8)) (fun v w' ⟨_,_,_,_,h,_⟩=>DD.keep (⟨(Rd.go k15.rd (qQ h (Eqv.refl _)) (Dn.of dj4)),(RdK.go k14.rd (qQ h (Eqv.refl _)) (Dn.of dj3))⟩)) ?_
   rintro _ w9 ⟨f5,f6,rfl,hO4,hg6,hk2⟩
   refine zu rfl rfl (fun w' hw'=>ze qD rfl) (zX (zg (za (zb (yp (h:=?_))))))
   obtain ⟨h9,H⟩:=H
   exact zi rfl (Yld.add rfl rfl h9) (yp (h:=(zd (zw _ ⟨out++([(paths3.getD i2.toNat [],(f.getD t55.toNat (0,[],[])).2.1)]:List (List UInt8 × List UInt8)),f5,f6,(out++([(paths3.getD i2.toNat [],(f.getD t55.toNat (0,[],[])).2.1)]:List (List UInt8 × List UInt8))).length,i2+(1:Int),rfl,rfl,H.1,rfl,(qH gr8 hg6 k16.ge'),(k14.go hg6 dj3),(k15.go hg6 dj4),hO4,(Dj.app dj3.symm k14.lt' hk2).symm,(Dj.app dj4.symm k15.lt' hk2).symm⟩ sb H.2))))
  ·replace H:=H.2 (of_decide_eq_false b3)
   exact zz (zf (zf (zj (za (zc (zb (yp (h:=(yp (h:=(zd (za (zq (zx rfl rfl ⟨gr7,out,d6,e3,rfl,k13,H⟩))))))))))))))
set_option maxHeartbeats 8000000 in
theorem W_smithyref17_Steps {w:World} {g_g:Nat} {g_L:List (Int × List (List UInt8) × List (List UInt8) × List UInt8)} {c8:Option Addr} {c9:Nat} {c1:List (Int × Hdr × Hdr × List UInt8)} {d0:Nat} {K:Int->Prop} (b0:RdK 4 qP w c8 c9 c1) (d4:d0=g_L.length) (a7:RelD de64 w c1 g_L) (hg:Bl w g_g 89 [.slice c8 d0 c9]) (H:Zm g_L K):Fn Tryz.prog 23 ⟨[.pointer (some ⟨g_g,0,none⟩)]⟩ w (fun v w'=>w=w'/\∃ (r:Int),v=.int .i64 r/\K r):=by
 subst d4
 unfold Zm at H
 refine Fn.enter (by kernel_rfl) Tryz.func23 rfl Tryz.ntmps23 rfl ?_
 replace H:=H (by rw [<-a7.1]; exact Nat.le_trans b0.cap b0.max)
 refine zc (zb (yp (h:=(zd (za (zc (zb (yp (h:=(yp (h:=(yp (h:=(zi rfl (zt qD hg rfl rfl rfl) (yp (h:=?_))))))))))))))))
 obtain ⟨h1,H⟩:=H
 refine zi rfl (qg rfl rfl h1) ?_
 obtain ⟨h2,H⟩:=H
 exact zi rfl (Yld.add rfl rfl h2) (yp (h:=(zd (za (zq (zx rfl rfl ⟨rfl,((4:Int)*(g_L.length:Int))+(1:Int),rfl,H⟩))))))
end
 end Go.Proofs.YtjobklaengaamaaGreatDoor
