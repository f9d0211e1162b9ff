/- Texts of this claim, joined by a program: Lw, Enc, EncD, GLv, See, LsC, LsD, GLx, LsE. -/
import Derived.Test.YtjoepdjeekadcaaDoorJ4
/- Values that are made (by hand). -/
namespace Go.Proofs.YtjoepdjeekadcaaDoor
open Go Go.RowKit
attribute [local irreducible] WL WC WX WQ WK WJ Yld Eff Ef0 Fn
def M_smithylaw12_small (n : Int) (K : PV → Prop) : Prop := (-9223372036854775808 ≤ n ∧ n ≤ 9223372036854775807) ∧ K (.int n)
def M_val_Tuple (l : List PV) (K : PV → Prop) : Prop := l.length ≤ 1000000 ∧ ∃ zs : List Int, l = zs.map .int ∧ K (.tup zs)
theorem clone_MV {l : List PV} {K : List PV → Prop} (hl : l.length ≤ 1000000) (h : K l) : M_slices_Clone_val_Value_val_Value l K := by
  unfold M_slices_Clone_val_Value_val_Value
  intro _
  exact ⟨fun e => e ▸ h, by simp; omega, by simpa using h⟩
theorem W_smithylaw12_small {w : World} {n : Int} {K : PV → Prop} (H : M_smithylaw12_small n K) : Fn Tryd.prog 16 ⟨[.int .i64 n]⟩ w (fun v w' => w.grownBy w' none ∧ ∃ (v_r : OV), ∃ (F_r : Nat → Prop), ∃ (r : PV), v = v_r.1 ∧ RelD deV w' [(v_r, F_r)] [r] ∧ (∀ p : Option Nat, Lt p w.heap.size → DnD deV [(v_r, F_r)] [r] p) ∧ K r) := by
  obtain ⟨⟨h1, h2⟩, hK⟩ := H
  refine Fn.enter (by kernel_rfl) Tryd.func16 rfl Tryd.ntmps16 rfl ?_
  repeat (first | refine WC.seq ?_ | refine WC.block ?_ | refine WC.region ?_ | refine WL.nil ?_ | refine WX.then_normal ?_ | refine WC.skip ?_ | refine WC.exit ?_ | refine WC.ret ?_ | refine WX.then_exit ?_ | refine WX.then_ret ?_ | refine WX.block_normal ?_ | refine WX.block_ret ?_ | refine WX.block_same ?_ | refine WX.block_other rfl ?_ | refine WC.label ?_ | refine WC.scope ?_ | refine WX.scope_normal ?_ | refine WX.scope_ret ?_ | refine WX.scope_exit ?_ | refine WL.y rfl (Yld.add rfl rfl (by simp only [In]; omega)) ?_ | refine WL.y rfl (Yld.sub rfl rfl (by simp only [In]; omega)) ?_ | refine WL.y rfl (Yld.mul rfl rfl (by simp only [In]; omega)) ?_ | refine WL.y rfl (Yld.convB tab_ok rfl rfl rfl rfl) ?_ | refine WL.y rfl (Yld.conv tab_ok rfl rfl rfl (by simp only [In]; omega)) ?_ | refine WL.y rfl (Yld.quo rfl rfl (by omega) (by omega) (by simp only [In]; omega)) ?_ | refine WL.y rfl (Yld.rem rfl rfl (by omega) (by omega)) ?_ | refine WL.y rfl (Yld.shl rfl rfl (by omega)) ?_ | refine WL.y rfl (Yld.shr rfl rfl (by omega)) ?_ | refine WL.y rfl (Yld.pure tab_ok rfl) ?_ | refine WL.y rfl (Yld.fld flds_ok rfl rfl rfl) ?_ | refine WL.y rfl (Yld.max2 rfl rfl) ?_ | refine WL.y rfl (Yld.min2 rfl rfl) ?_ | refine WL.y rfl (Yld.pickV rfl rfl rfl) ?_ | refine WL.gno rfl rfl rfl rfl ?_ | refine WL.gyes rfl rfl rfl rfl (Yld.add rfl rfl (by simp only [In]; omega)) ?_ | refine WL.gyes rfl rfl rfl rfl (Yld.sub rfl rfl (by simp only [In]; omega)) ?_ | refine WL.gyes rfl rfl rfl rfl (Yld.mul rfl rfl (by simp only [In]; omega)) ?_ | refine WL.gyes rfl rfl rfl rfl (Yld.convB tab_ok rfl rfl rfl rfl) ?_ | refine WL.gyes rfl rfl rfl rfl (Yld.conv tab_ok rfl rfl rfl (by simp only [In]; omega)) ?_ | refine WL.gyes rfl rfl rfl rfl (Yld.quo rfl rfl (by omega) (by omega) (by simp only [In]; omega)) ?_ | refine WL.gyes rfl rfl rfl rfl (Yld.rem rfl rfl (by omega) (by omega)) ?_ | refine WL.gyes rfl rfl rfl rfl (Yld.shl rfl rfl (by omega)) ?_ | refine WL.gyes rfl rfl rfl rfl (Yld.shr rfl rfl (by omega)) ?_ | refine WL.gyes rfl rfl rfl rfl (Yld.pure tab_ok rfl) ?_ | refine WL.gyes rfl rfl rfl rfl (Yld.fld flds_ok rfl rfl rfl) ?_ | refine WL.gyes rfl rfl rfl rfl (Yld.max2 rfl rfl) ?_ | refine WL.gyes rfl rfl rfl rfl (Yld.min2 rfl rfl) ?_ | refine WL.gyes rfl rfl rfl rfl (Yld.pickV rfl rfl rfl) ?_)
  refine WL.call rfl rfl (of_fn' n w h1 h2) ?_
  rintro u w1 ⟨hN, hg, hL⟩
  obtain ⟨a, b, rfl, ha, hb⟩ := hN.agg
  have hint : Fn Tryd.prog 36 ⟨[.agg ⟨[a, b]⟩]⟩ w1 fun v w' => v = .iface 116 (.agg ⟨[a, b]⟩) ∧ w1.grownBy w' none := by
    refine Fn.enter (by kernel_rfl) Tryd.func36 rfl Tryd.ntmps36 rfl ?_
    repeat (first | refine WC.seq ?_ | refine WC.block ?_ | refine WC.region ?_ | refine WL.nil ?_ | refine WX.then_normal ?_ | refine WC.skip ?_ | refine WC.exit ?_ | refine WC.ret ?_ | refine WX.then_exit ?_ | refine WX.then_ret ?_ | refine WX.block_normal ?_ | refine WX.block_ret ?_ | refine WX.block_same ?_ | refine WX.block_other rfl ?_ | refine WC.label ?_ | refine WC.scope ?_ | refine WX.scope_normal ?_ | refine WX.scope_ret ?_ | refine WX.scope_exit ?_ | refine WL.y rfl (Yld.add rfl rfl (by simp only [In]; omega)) ?_ | refine WL.y rfl (Yld.sub rfl rfl (by simp only [In]; omega)) ?_ | refine WL.y rfl (Yld.mul rfl rfl (by simp only [In]; omega)) ?_ | refine WL.y rfl (Yld.convB tab_ok rfl rfl rfl rfl) ?_ | refine WL.y rfl (Yld.conv tab_ok rfl rfl rfl (by simp only [In]; omega)) ?_ | refine WL.y rfl (Yld.quo rfl rfl (by omega) (by omega) (by simp only [In]; omega)) ?_ | refine WL.y rfl (Yld.rem rfl rfl (by omega) (by omega)) ?_ | refine WL.y rfl (Yld.shl rfl rfl (by omega)) ?_ | refine WL.y rfl (Yld.shr rfl rfl (by omega)) ?_ | refine WL.y rfl (Yld.pure tab_ok rfl) ?_ | refine WL.y rfl (Yld.fld flds_ok rfl rfl rfl) ?_ | refine WL.y rfl (Yld.max2 rfl rfl) ?_ | refine WL.y rfl (Yld.min2 rfl rfl) ?_ | refine WL.y rfl (Yld.pickV rfl rfl rfl) ?_ | refine WL.gno rfl rfl rfl rfl ?_ | refine WL.gyes rfl rfl rfl rfl (Yld.add rfl rfl (by simp only [In]; omega)) ?_ | refine WL.gyes rfl rfl rfl rfl (Yld.sub rfl rfl (by simp only [In]; omega)) ?_ | refine WL.gyes rfl rfl rfl rfl (Yld.mul rfl rfl (by simp only [In]; omega)) ?_ | refine WL.gyes rfl rfl rfl rfl (Yld.convB tab_ok rfl rfl rfl rfl) ?_ | refine WL.gyes rfl rfl rfl rfl (Yld.conv tab_ok rfl rfl rfl (by simp only [In]; omega)) ?_ | refine WL.gyes rfl rfl rfl rfl (Yld.quo rfl rfl (by omega) (by omega) (by simp only [In]; omega)) ?_ | refine WL.gyes rfl rfl rfl rfl (Yld.rem rfl rfl (by omega) (by omega)) ?_ | refine WL.gyes rfl rfl rfl rfl (Yld.shl rfl rfl (by omega)) ?_ | refine WL.gyes rfl rfl rfl rfl (Yld.shr rfl rfl (by omega)) ?_ | refine WL.gyes rfl rfl rfl rfl (Yld.pure tab_ok rfl) ?_ | refine WL.gyes rfl rfl rfl rfl (Yld.fld flds_ok rfl rfl rfl) ?_ | refine WL.gyes rfl rfl rfl rfl (Yld.max2 rfl rfl) ?_ | refine WL.gyes rfl rfl rfl rfl (Yld.min2 rfl rfl) ?_ | refine WL.gyes rfl rfl rfl rfl (Yld.pickV rfl rfl rfl) ?_)
    refine WL.box (us := [a, b]) rfl rfl rfl (fun g w2 hB hg hl => ?_)
    repeat (first | refine WC.seq ?_ | refine WC.block ?_ | refine WC.region ?_ | refine WL.nil ?_ | refine WX.then_normal ?_ | refine WC.skip ?_ | refine WC.exit ?_ | refine WC.ret ?_ | refine WX.then_exit ?_ | refine WX.then_ret ?_ | refine WX.block_normal ?_ | refine WX.block_ret ?_ | refine WX.block_same ?_ | refine WX.block_other rfl ?_ | refine WC.label ?_ | refine WC.scope ?_ | refine WX.scope_normal ?_ | refine WX.scope_ret ?_ | refine WX.scope_exit ?_ | refine WL.y rfl (Yld.add rfl rfl (by simp only [In]; omega)) ?_ | refine WL.y rfl (Yld.sub rfl rfl (by simp only [In]; omega)) ?_ | refine WL.y rfl (Yld.mul rfl rfl (by simp only [In]; omega)) ?_ | refine WL.y rfl (Yld.convB tab_ok rfl rfl rfl rfl) ?_ | refine WL.y rfl (Yld.conv tab_ok rfl rfl rfl (by simp only [In]; omega)) ?_ | refine WL.y rfl (Yld.quo rfl rfl (by omega) (by omega) (by simp only [In]; omega)) ?_ | refine WL.y rfl (Yld.rem rfl rfl (by omega) (by omega)) ?_ | refine WL.y rfl (Yld.shl rfl rfl (by omega)) ?_ | refine WL.y rfl (Yld.shr rfl rfl (by omega)) ?_ | refine WL.y rfl (Yld.pure tab_ok rfl) ?_ | refine WL.y rfl (Yld.fld flds_ok rfl rfl rfl) ?_ | refine WL.y rfl (Yld.max2 rfl rfl) ?_ | refine WL.y rfl (Yld.min2 rfl rfl) ?_ | refine WL.y rfl (Yld.pickV rfl rfl rfl) ?_ | refine WL.gno rfl rfl rfl rfl ?_ | refine WL.gyes rfl rfl rfl rfl (Yld.add rfl rfl (by simp only [In]; omega)) ?_ | refine WL.gyes rfl rfl rfl rfl (Yld.sub rfl rfl (by simp only [In]; omega)) ?_ | refine WL.gyes rfl rfl rfl rfl (Yld.mul rfl rfl (by simp only [In]; omega)) ?_ | refine WL.gyes rfl rfl rfl rfl (Yld.convB tab_ok rfl rfl rfl rfl) ?_ | refine WL.gyes rfl rfl rfl rfl (Yld.conv tab_ok rfl rfl rfl (by simp only [In]; omega)) ?_ | refine WL.gyes rfl rfl rfl rfl (Yld.quo rfl rfl (by omega) (by omega) (by simp only [In]; omega)) ?_ | refine WL.gyes rfl rfl rfl rfl (Yld.rem rfl rfl (by omega) (by omega)) ?_ | refine WL.gyes rfl rfl rfl rfl (Yld.shl rfl rfl (by omega)) ?_ | refine WL.gyes rfl rfl rfl rfl (Yld.shr rfl rfl (by omega)) ?_ | refine WL.gyes rfl rfl rfl rfl (Yld.pure tab_ok rfl) ?_ | refine WL.gyes rfl rfl rfl rfl (Yld.fld flds_ok rfl rfl rfl) ?_ | refine WL.gyes rfl rfl rfl rfl (Yld.max2 rfl rfl) ?_ | refine WL.gyes rfl rfl rfl rfl (Yld.min2 rfl rfl) ?_ | refine WL.gyes rfl rfl rfl rfl (Yld.pickV rfl rfl rfl) ?_)
    refine WL.y rfl (Yld.bagg (vs := [a, b]) tab_ok hB rfl rfl rfl rfl) ?_
    refine WL.y rfl (Yld.struct (us := [a, b]) (vs := [(1, .agg ⟨[a, b]⟩)]) zero116 places116 rfl rfl) ?_
    refine WL.y rfl (Yld.mki Tryd.underlying116 rfl rfl) ?_
    repeat (first | refine WC.seq ?_ | refine WC.block ?_ | refine WC.region ?_ | refine WL.nil ?_ | refine WX.then_normal ?_ | refine WC.skip ?_ | refine WC.exit ?_ | refine WC.ret ?_ | refine WX.then_exit ?_ | refine WX.then_ret ?_ | refine WX.block_normal ?_ | refine WX.block_ret ?_ | refine WX.block_same ?_ | refine WX.block_other rfl ?_ | refine WC.label ?_ | refine WC.scope ?_ | refine WX.scope_normal ?_ | refine WX.scope_ret ?_ | refine WX.scope_exit ?_ | refine WL.y rfl (Yld.add rfl rfl (by simp only [In]; omega)) ?_ | refine WL.y rfl (Yld.sub rfl rfl (by simp only [In]; omega)) ?_ | refine WL.y rfl (Yld.mul rfl rfl (by simp only [In]; omega)) ?_ | refine WL.y rfl (Yld.convB tab_ok rfl rfl rfl rfl) ?_ | refine WL.y rfl (Yld.conv tab_ok rfl rfl rfl (by simp only [In]; omega)) ?_ | refine WL.y rfl (Yld.quo rfl rfl (by omega) (by omega) (by simp only [In]; omega)) ?_ | refine WL.y rfl (Yld.rem rfl rfl (by omega) (by omega)) ?_ | refine WL.y rfl (Yld.shl rfl rfl (by omega)) ?_ | refine WL.y rfl (Yld.shr rfl rfl (by omega)) ?_ | refine WL.y rfl (Yld.pure tab_ok rfl) ?_ | refine WL.y rfl (Yld.fld flds_ok rfl rfl rfl) ?_ | refine WL.y rfl (Yld.max2 rfl rfl) ?_ | refine WL.y rfl (Yld.min2 rfl rfl) ?_ | refine WL.y rfl (Yld.pickV rfl rfl rfl) ?_ | refine WL.gno rfl rfl rfl rfl ?_ | refine WL.gyes rfl rfl rfl rfl (Yld.add rfl rfl (by simp only [In]; omega)) ?_ | refine WL.gyes rfl rfl rfl rfl (Yld.sub rfl rfl (by simp only [In]; omega)) ?_ | refine WL.gyes rfl rfl rfl rfl (Yld.mul rfl rfl (by simp only [In]; omega)) ?_ | refine WL.gyes rfl rfl rfl rfl (Yld.convB tab_ok rfl rfl rfl rfl) ?_ | refine WL.gyes rfl rfl rfl rfl (Yld.conv tab_ok rfl rfl rfl (by simp only [In]; omega)) ?_ | refine WL.gyes rfl rfl rfl rfl (Yld.quo rfl rfl (by omega) (by omega) (by simp only [In]; omega)) ?_ | refine WL.gyes rfl rfl rfl rfl (Yld.rem rfl rfl (by omega) (by omega)) ?_ | refine WL.gyes rfl rfl rfl rfl (Yld.shl rfl rfl (by omega)) ?_ | refine WL.gyes rfl rfl rfl rfl (Yld.shr rfl rfl (by omega)) ?_ | refine WL.gyes rfl rfl rfl rfl (Yld.pure tab_ok rfl) ?_ | refine WL.gyes rfl rfl rfl rfl (Yld.fld flds_ok rfl rfl rfl) ?_ | refine WL.gyes rfl rfl rfl rfl (Yld.max2 rfl rfl) ?_ | refine WL.gyes rfl rfl rfl rfl (Yld.min2 rfl rfl) ?_ | refine WL.gyes rfl rfl rfl rfl (Yld.pickV rfl rfl rfl) ?_)
    exact WX.ret1 rfl rfl ⟨rfl, hg⟩
  refine WL.call rfl rfl hint ?_
  rintro v w2 ⟨rfl, hg2⟩
  repeat (first | refine WC.seq ?_ | refine WC.block ?_ | refine WC.region ?_ | refine WL.nil ?_ | refine WX.then_normal ?_ | refine WC.skip ?_ | refine WC.exit ?_ | refine WC.ret ?_ | refine WX.then_exit ?_ | refine WX.then_ret ?_ | refine WX.block_normal ?_ | refine WX.block_ret ?_ | refine WX.block_same ?_ | refine WX.block_other rfl ?_ | refine WC.label ?_ | refine WC.scope ?_ | refine WX.scope_normal ?_ | refine WX.scope_ret ?_ | refine WX.scope_exit ?_ | refine WL.y rfl (Yld.add rfl rfl (by simp only [In]; omega)) ?_ | refine WL.y rfl (Yld.sub rfl rfl (by simp only [In]; omega)) ?_ | refine WL.y rfl (Yld.mul rfl rfl (by simp only [In]; omega)) ?_ | refine WL.y rfl (Yld.convB tab_ok rfl rfl rfl rfl) ?_ | refine WL.y rfl (Yld.conv tab_ok rfl rfl rfl (by simp only [In]; omega)) ?_ | refine WL.y rfl (Yld.quo rfl rfl (by omega) (by omega) (by simp only [In]; omega)) ?_ | refine WL.y rfl (Yld.rem rfl rfl (by omega) (by omega)) ?_ | refine WL.y rfl (Yld.shl rfl rfl (by omega)) ?_ | refine WL.y rfl (Yld.shr rfl rfl (by omega)) ?_ | refine WL.y rfl (Yld.pure tab_ok rfl) ?_ | refine WL.y rfl (Yld.fld flds_ok rfl rfl rfl) ?_ | refine WL.y rfl (Yld.max2 rfl rfl) ?_ | refine WL.y rfl (Yld.min2 rfl rfl) ?_ | refine WL.y rfl (Yld.pickV rfl rfl rfl) ?_ | refine WL.gno rfl rfl rfl rfl ?_ | refine WL.gyes rfl rfl rfl rfl (Yld.add rfl rfl (by simp only [In]; omega)) ?_ | refine WL.gyes rfl rfl rfl rfl (Yld.sub rfl rfl (by simp only [In]; omega)) ?_ | refine WL.gyes rfl rfl rfl rfl (Yld.mul rfl rfl (by simp only [In]; omega)) ?_ | refine WL.gyes rfl rfl rfl rfl (Yld.convB tab_ok rfl rfl rfl rfl) ?_ | refine WL.gyes rfl rfl rfl rfl (Yld.conv tab_ok rfl rfl rfl (by simp only [In]; omega)) ?_ | refine WL.gyes rfl rfl rfl rfl (Yld.quo rfl rfl (by omega) (by omega) (by simp only [In]; omega)) ?_ | refine WL.gyes rfl rfl rfl rfl (Yld.rem rfl rfl (by omega) (by omega)) ?_ | refine WL.gyes rfl rfl rfl rfl (Yld.shl rfl rfl (by omega)) ?_ | refine WL.gyes rfl rfl rfl rfl (Yld.shr rfl rfl (by omega)) ?_ | refine WL.gyes rfl rfl rfl rfl (Yld.pure tab_ok rfl) ?_ | refine WL.gyes rfl rfl rfl rfl (Yld.fld flds_ok rfl rfl rfl) ?_ | refine WL.gyes rfl rfl rfl rfl (Yld.max2 rfl rfl) ?_ | refine WL.gyes rfl rfl rfl rfl (Yld.min2 rfl rfl) ?_ | refine WL.gyes rfl rfl rfl rfl (Yld.pickV rfl rfl rfl) ?_)
  have hN2 := hN.grown hg2
  refine WX.ret1 rfl rfl ⟨gr_trans hg hg2, ⟨.iface 116 (.agg ⟨[a, b]⟩), rfl⟩, fun q => w.heap.size ≤ q ∧ q < w2.heap.size, .int n, rfl, RelD.cons ⟨⟨a, b, rfl, hN2, ?_⟩, fun q hq => hq.2⟩ RelD.nil, fun p hp => DnD.cons (fun q e hq => ?_) DnD.nil, hK⟩
  · intro neg A m c e q hq
    have := hL neg A m c e q hq
    have := hg2.size
    omega
  · have := hp q e
    omega
theorem W_val_Tuple {w : World} {l : List PV} {A_l : Option Addr} {c_l : Nat} {hs_l : List VH} {n_l : Nat} {K : PV → Prop} (hl : Rd vv w A_l c_l hs_l) (hn_l : n_l = l.length) (hr_l : RelD deV w hs_l l) (H : M_val_Tuple l K) : Fn Tryd.prog 15 ⟨[.slice A_l n_l c_l]⟩ w
    (fun v w' => w.grownBy w' none ∧ ∃ (v_r : OV), ∃ (F_r : Nat → Prop), ∃ (r : PV), v = v_r.1 ∧ RelD deV w' [(v_r, F_r)] [r] ∧ (∀ p : Option Nat, Lt p w.heap.size → DnD deV hs_l l p → DnD deV [(v_r, F_r)] [r] p) ∧ K r) := by
  obtain ⟨hlen, zs, rfl, hK⟩ := H
  refine Fn.enter (by kernel_rfl) Tryd.func15 rfl Tryd.ntmps15 rfl ?_
  repeat (first | refine WC.seq ?_ | refine WC.block ?_ | refine WC.region ?_ | refine WL.nil ?_ | refine WX.then_normal ?_ | refine WC.skip ?_ | refine WC.exit ?_ | refine WC.ret ?_ | refine WX.then_exit ?_ | refine WX.then_ret ?_ | refine WX.block_normal ?_ | refine WX.block_ret ?_ | refine WX.block_same ?_ | refine WX.block_other rfl ?_ | refine WC.label ?_ | refine WC.scope ?_ | refine WX.scope_normal ?_ | refine WX.scope_ret ?_ | refine WX.scope_exit ?_ | refine WL.y rfl (Yld.add rfl rfl (by simp only [In]; omega)) ?_ | refine WL.y rfl (Yld.sub rfl rfl (by simp only [In]; omega)) ?_ | refine WL.y rfl (Yld.mul rfl rfl (by simp only [In]; omega)) ?_ | refine WL.y rfl (Yld.convB tab_ok rfl rfl rfl rfl) ?_ | refine WL.y rfl (Yld.conv tab_ok rfl rfl rfl (by simp only [In]; omega)) ?_ | refine WL.y rfl (Yld.quo rfl rfl (by omega) (by omega) (by simp only [In]; omega)) ?_ | refine WL.y rfl (Yld.rem rfl rfl (by omega) (by omega)) ?_ | refine WL.y rfl (Yld.shl rfl rfl (by omega)) ?_ | refine WL.y rfl (Yld.shr rfl rfl (by omega)) ?_ | refine WL.y rfl (Yld.pure tab_ok rfl) ?_ | refine WL.y rfl (Yld.fld flds_ok rfl rfl rfl) ?_ | refine WL.y rfl (Yld.max2 rfl rfl) ?_ | refine WL.y rfl (Yld.min2 rfl rfl) ?_ | refine WL.y rfl (Yld.pickV rfl rfl rfl) ?_ | refine WL.gno rfl rfl rfl rfl ?_ | refine WL.gyes rfl rfl rfl rfl (Yld.add rfl rfl (by simp only [In]; omega)) ?_ | refine WL.gyes rfl rfl rfl rfl (Yld.sub rfl rfl (by simp only [In]; omega)) ?_ | refine WL.gyes rfl rfl rfl rfl (Yld.mul rfl rfl (by simp only [In]; omega)) ?_ | refine WL.gyes rfl rfl rfl rfl (Yld.convB tab_ok rfl rfl rfl rfl) ?_ | refine WL.gyes rfl rfl rfl rfl (Yld.conv tab_ok rfl rfl rfl (by simp only [In]; omega)) ?_ | refine WL.gyes rfl rfl rfl rfl (Yld.quo rfl rfl (by omega) (by omega) (by simp only [In]; omega)) ?_ | refine WL.gyes rfl rfl rfl rfl (Yld.rem rfl rfl (by omega) (by omega)) ?_ | refine WL.gyes rfl rfl rfl rfl (Yld.shl rfl rfl (by omega)) ?_ | refine WL.gyes rfl rfl rfl rfl (Yld.shr rfl rfl (by omega)) ?_ | refine WL.gyes rfl rfl rfl rfl (Yld.pure tab_ok rfl) ?_ | refine WL.gyes rfl rfl rfl rfl (Yld.fld flds_ok rfl rfl rfl) ?_ | refine WL.gyes rfl rfl rfl rfl (Yld.max2 rfl rfl) ?_ | refine WL.gyes rfl rfl rfl rfl (Yld.min2 rfl rfl) ?_ | refine WL.gyes rfl rfl rfl rfl (Yld.pickV rfl rfl rfl) ?_)
  refine WL.call rfl rfl (W_slices_Clone_val_Value_val_Value (K := fun r => r = zs.map .int) hl hn_l hr_l (clone_MV hlen rfl)) ?_
  rintro _ w1 ⟨hg1, r, A, c, hs, rfl, hO, hr, ho, hc, hrn⟩
  subst hrn
  refine WL.y rfl (Yld.struct (us := [.slice A (zs.map PV.int).length c]) (vs := [(1, .slice A (zs.map PV.int).length c)]) zero95 places95 rfl rfl) ?_
  refine WL.box (us := [.slice A (zs.map PV.int).length c]) rfl rfl rfl (fun g w2 hB hg2 hl2 => ?_)
  repeat (first | refine WC.seq ?_ | refine WC.block ?_ | refine WC.region ?_ | refine WL.nil ?_ | refine WX.then_normal ?_ | refine WC.skip ?_ | refine WC.exit ?_ | refine WC.ret ?_ | refine WX.then_exit ?_ | refine WX.then_ret ?_ | refine WX.block_normal ?_ | refine WX.block_ret ?_ | refine WX.block_same ?_ | refine WX.block_other rfl ?_ | refine WC.label ?_ | refine WC.scope ?_ | refine WX.scope_normal ?_ | refine WX.scope_ret ?_ | refine WX.scope_exit ?_ | refine WL.y rfl (Yld.add rfl rfl (by simp only [In]; omega)) ?_ | refine WL.y rfl (Yld.sub rfl rfl (by simp only [In]; omega)) ?_ | refine WL.y rfl (Yld.mul rfl rfl (by simp only [In]; omega)) ?_ | refine WL.y rfl (Yld.convB tab_ok rfl rfl rfl rfl) ?_ | refine WL.y rfl (Yld.conv tab_ok rfl rfl rfl (by simp only [In]; omega)) ?_ | refine WL.y rfl (Yld.quo rfl rfl (by omega) (by omega) (by simp only [In]; omega)) ?_ | refine WL.y rfl (Yld.rem rfl rfl (by omega) (by omega)) ?_ | refine WL.y rfl (Yld.shl rfl rfl (by omega)) ?_ | refine WL.y rfl (Yld.shr rfl rfl (by omega)) ?_ | refine WL.y rfl (Yld.pure tab_ok rfl) ?_ | refine WL.y rfl (Yld.fld flds_ok rfl rfl rfl) ?_ | refine WL.y rfl (Yld.max2 rfl rfl) ?_ | refine WL.y rfl (Yld.min2 rfl rfl) ?_ | refine WL.y rfl (Yld.pickV rfl rfl rfl) ?_ | refine WL.gno rfl rfl rfl rfl ?_ | refine WL.gyes rfl rfl rfl rfl (Yld.add rfl rfl (by simp only [In]; omega)) ?_ | refine WL.gyes rfl rfl rfl rfl (Yld.sub rfl rfl (by simp only [In]; omega)) ?_ | refine WL.gyes rfl rfl rfl rfl (Yld.mul rfl rfl (by simp only [In]; omega)) ?_ | refine WL.gyes rfl rfl rfl rfl (Yld.convB tab_ok rfl rfl rfl rfl) ?_ | refine WL.gyes rfl rfl rfl rfl (Yld.conv tab_ok rfl rfl rfl (by simp only [In]; omega)) ?_ | refine WL.gyes rfl rfl rfl rfl (Yld.quo rfl rfl (by omega) (by omega) (by simp only [In]; omega)) ?_ | refine WL.gyes rfl rfl rfl rfl (Yld.rem rfl rfl (by omega) (by omega)) ?_ | refine WL.gyes rfl rfl rfl rfl (Yld.shl rfl rfl (by omega)) ?_ | refine WL.gyes rfl rfl rfl rfl (Yld.shr rfl rfl (by omega)) ?_ | refine WL.gyes rfl rfl rfl rfl (Yld.pure tab_ok rfl) ?_ | refine WL.gyes rfl rfl rfl rfl (Yld.fld flds_ok rfl rfl rfl) ?_ | refine WL.gyes rfl rfl rfl rfl (Yld.max2 rfl rfl) ?_ | refine WL.gyes rfl rfl rfl rfl (Yld.min2 rfl rfl) ?_ | refine WL.gyes rfl rfl rfl rfl (Yld.pickV rfl rfl rfl) ?_)
  refine WL.y rfl (Yld.mki Tryd.underlying92 rfl rfl) ?_
  repeat (first | refine WC.seq ?_ | refine WC.block ?_ | refine WC.region ?_ | refine WL.nil ?_ | refine WX.then_normal ?_ | refine WC.skip ?_ | refine WC.exit ?_ | refine WC.ret ?_ | refine WX.then_exit ?_ | refine WX.then_ret ?_ | refine WX.block_normal ?_ | refine WX.block_ret ?_ | refine WX.block_same ?_ | refine WX.block_other rfl ?_ | refine WC.label ?_ | refine WC.scope ?_ | refine WX.scope_normal ?_ | refine WX.scope_ret ?_ | refine WX.scope_exit ?_ | refine WL.y rfl (Yld.add rfl rfl (by simp only [In]; omega)) ?_ | refine WL.y rfl (Yld.sub rfl rfl (by simp only [In]; omega)) ?_ | refine WL.y rfl (Yld.mul rfl rfl (by simp only [In]; omega)) ?_ | refine WL.y rfl (Yld.convB tab_ok rfl rfl rfl rfl) ?_ | refine WL.y rfl (Yld.conv tab_ok rfl rfl rfl (by simp only [In]; omega)) ?_ | refine WL.y rfl (Yld.quo rfl rfl (by omega) (by omega) (by simp only [In]; omega)) ?_ | refine WL.y rfl (Yld.rem rfl rfl (by omega) (by omega)) ?_ | refine WL.y rfl (Yld.shl rfl rfl (by omega)) ?_ | refine WL.y rfl (Yld.shr rfl rfl (by omega)) ?_ | refine WL.y rfl (Yld.pure tab_ok rfl) ?_ | refine WL.y rfl (Yld.fld flds_ok rfl rfl rfl) ?_ | refine WL.y rfl (Yld.max2 rfl rfl) ?_ | refine WL.y rfl (Yld.min2 rfl rfl) ?_ | refine WL.y rfl (Yld.pickV rfl rfl rfl) ?_ | refine WL.gno rfl rfl rfl rfl ?_ | refine WL.gyes rfl rfl rfl rfl (Yld.add rfl rfl (by simp only [In]; omega)) ?_ | refine WL.gyes rfl rfl rfl rfl (Yld.sub rfl rfl (by simp only [In]; omega)) ?_ | refine WL.gyes rfl rfl rfl rfl (Yld.mul rfl rfl (by simp only [In]; omega)) ?_ | refine WL.gyes rfl rfl rfl rfl (Yld.convB tab_ok rfl rfl rfl rfl) ?_ | refine WL.gyes rfl rfl rfl rfl (Yld.conv tab_ok rfl rfl rfl (by simp only [In]; omega)) ?_ | refine WL.gyes rfl rfl rfl rfl (Yld.quo rfl rfl (by omega) (by omega) (by simp only [In]; omega)) ?_ | refine WL.gyes rfl rfl rfl rfl (Yld.rem rfl rfl (by omega) (by omega)) ?_ | refine WL.gyes rfl rfl rfl rfl (Yld.shl rfl rfl (by omega)) ?_ | refine WL.gyes rfl rfl rfl rfl (Yld.shr rfl rfl (by omega)) ?_ | refine WL.gyes rfl rfl rfl rfl (Yld.pure tab_ok rfl) ?_ | refine WL.gyes rfl rfl rfl rfl (Yld.fld flds_ok rfl rfl rfl) ?_ | refine WL.gyes rfl rfl rfl rfl (Yld.max2 rfl rfl) ?_ | refine WL.gyes rfl rfl rfl rfl (Yld.min2 rfl rfl) ?_ | refine WL.gyes rfl rfl rfl rfl (Yld.pickV rfl rfl rfl) ?_)
  have h0 := hg1.size
  have hO2 := hO.grown hg2
  have hr2 := hr.grown hg2
  have at1 : ∀ h ∈ hs, ∃ i x, hs[i]? = some h ∧ (zs.map PV.int)[i]? = some x := fun h hh => by
    obtain ⟨i, hi, rfl⟩ := List.getElem_of_mem hh
    exact ⟨i, _, List.getElem?_eq_getElem hi, List.getElem?_eq_getElem (by rw [← hr.1]; exact hi)⟩
  refine WX.ret1 rfl rfl ⟨gr_trans hg1 hg2, ⟨.iface 92 (.pointer (some ⟨g, 0, none⟩)), rfl⟩, fun q => q = g ∨ blk A = some q ∨ ∃ h, h ∈ hs ∧ h.2 q, .tup zs, rfl, RelD.cons ⟨⟨g, A, c, hs, rfl, by rw [List.length_map] at hB; exact hB, hO2.rd, by rw [hr.1, List.length_map], fun q hq => .inr (.inl hq), .inl rfl, fun i h z hh hz => ?_⟩, fun q hq => ?_⟩ RelD.nil, fun p hp hd => DnD.cons (fun q e hq => ?_) DnD.nil, hK⟩
  · have := hr2.2 i h (.int z) hh (by rw [List.getElem?_map, hz]; rfl)
    exact AI.mono this.1 fun q hq => .inr (.inr ⟨h, List.mem_of_getElem? hh, hq⟩)
  · rcases hq with rfl | hq | ⟨h, hh, hq⟩
    · exact hB.lt
    · exact (hO2.lt hq).2
    · obtain ⟨i, x, a, b⟩ := at1 h hh; exact (hr2.2 i h x a b).2 q hq
  · have hpq := hp q e
    rcases hq with rfl | hq | ⟨h, hh, hq⟩
    · omega
    · have := (hO.lt hq).1; omega
    · obtain ⟨i, x, a, b⟩ := at1 h hh
      exact ho p hp hd i h x a b q e hq
end Go.Proofs.YtjoepdjeekadcaaDoor


 /- Printed by a program (wip/vg): elements of several cells. -/
namespace Go.Proofs.YtjoepdjeekadcaaDoor
open Go Go.RowKit

end Go.Proofs.YtjoepdjeekadcaaDoor

 /- Printed by a program (wip/vg): elements that hold slices. -/
namespace Go.Proofs.YtjoepdjeekadcaaDoor
open Go Go.RowKit
end Go.Proofs.YtjoepdjeekadcaaDoor

 /- Printed by a program (wip/vg): what the functions mean, plainly, and their walks. -/
namespace Go.Proofs.YtjoepdjeekadcaaDoor
open Go Go.RowKit
attribute [local irreducible] WL WC WX WQ WK WJ Yld Eff Ef0 Fn
def M_val_NewList (l : List PV) (K0 : Prop) (K : (List PV) → Bool → Int → Prop) : Prop :=
 (l.length ≤ maxLen →
 M_slices_Clone_val_Value_val_Value l (fun (t4 : List PV) =>
 K t4 false (0 : Int)))

def M_pval_List_Loose (l_l : List PV) (l_frozen : Bool) (l_over : Int) (K : Bool → Prop) : Prop :=
 (l_l.length ≤ maxLen →
 K ((!l_frozen) && (decide (l_over = (0 : Int)))))

def M_pval_List_Len (l_l : List PV) (l_frozen : Bool) (l_over : Int) (K : Int → Prop) : Prop :=
 (l_l.length ≤ maxLen →
 K (l_l.length : Int))

def M_pval_List_Kind (p0_l : List PV) (p0_frozen : Bool) (p0_over : Int) (K : Int → Prop) : Prop :=
 (p0_l.length ≤ maxLen →
 K (5 : Int))

def M_pval_List_Add (l_l : List PV) (l_frozen : Bool) (l_over : Int) (items : List PV) (K : (List PV) → Bool → Int → Prop) : Prop :=
 (l_l.length ≤ maxLen →
 (items.length ≤ maxLen →
 ((l_l.length + items.length) * 16 ≤ 140737488355328) ∧
 K (l_l ++ items) l_frozen l_over))

def M_val_items_List0 (v_l : List PV) (v_frozen : Bool) (v_over : Int) (K : (List PV) → Bool → Prop) : Prop :=
 (v_l.length ≤ maxLen →
 M_slices_Clone_val_Value_val_Value v_l (fun (t2 : List PV) =>
 K t2 true))

def M_val_Items_List0 (v_l : List PV) (v_frozen : Bool) (v_over : Int) (K : (List PV) → Bool → Prop) : Prop :=
 (v_l.length ≤ maxLen →
 M_val_items_List0 v_l v_frozen v_over (fun (t50 : List PV) (t51 : Bool) =>
 K t50 t51))

def M_val_hold_List0 (v_l : List PV) (v_frozen : Bool) (v_over : Int) (by_ : Int) (K : (List PV) → Bool → Int → Prop) : Prop :=
 (v_l.length ≤ maxLen →
 (In .i64 (v_over + by_)) ∧
 K v_l v_frozen (v_over + by_))

def M_val_Hold_List0 (v_l : List PV) (v_frozen : Bool) (v_over : Int) (by_ : Int) (K : (List PV) → Bool → Int → Prop) : Prop :=
 (v_l.length ≤ maxLen →
 M_val_hold_List0 v_l v_frozen v_over by_ (fun (v_ : List PV) (v_2 : Bool) (v_3 : Int) =>
 K v_ v_2 v_3))

def M_list_Each_List0 (v_l : List PV) (v_frozen : Bool) (v_over : Int) (K0 : Er → (List PV) → Bool → Int → Prop) (K : (List PV) → Int → Bool → Bool → Er → (List PV) → Bool → Int → Prop) : Prop :=
 (v_l.length ≤ maxLen →
 ∃ J1 : (List PV) → Prop, (M_pval_List_Kind v_l v_frozen v_over (fun (t9 : Int) =>
 ∃ J2 : Bool → Prop, (((t9 = (5 : Int) → J2 (decide (t9 = (5 : Int)))) ∧
 (¬ (t9 = (5 : Int)) → ((t9 = (6 : Int) → J2 (decide (t9 = (6 : Int)))) ∧
 (¬ (t9 = (6 : Int)) → J2 (decide (t9 = (7 : Int)))))))) ∧
 (∀ t11 : Bool, J2 t11 → ((t11 = true → M_val_Items_List0 v_l v_frozen v_over (fun (t180 : List PV) (t181 : Bool) =>
 J1 t180)) ∧
 (t11 = false → ((t9 = (11 : Int) → J1 []) ∧
 (¬ (t9 = (11 : Int)) → K0 (Er.e 3) v_l v_frozen v_over))))))) ∧
 (∀ t71 : List PV, J1 t71 → M_val_Hold_List0 v_l v_frozen v_over (1 : Int) (fun (v_ : List PV) (v_2 : Bool) (v_3 : Int) =>
 K t71 (0 : Int) false false Er.ok v_ v_2 v_3)))

def M_plist_Over_End_List0 (o_v_l : List PV) (o_v_frozen : Bool) (o_v_over : Int) (o_l : List PV) (o_at : Int) (o_ended : Bool) (o_Paid : Bool) (K : Int → Bool → Bool → (List PV) → Bool → Int → Prop) : Prop :=
 (o_v_l.length ≤ maxLen →
 (o_l.length ≤ maxLen →
 (((!o_ended) = true → M_val_Hold_List0 o_v_l o_v_frozen o_v_over (-1 : Int) (fun (o_v_ : List PV) (o_v_2 : Bool) (o_v_3 : Int) =>
 K o_at true o_Paid o_v_ o_v_2 o_v_3)) ∧
 ((!o_ended) = false → K o_at o_ended o_Paid o_v_l o_v_frozen o_v_over))))

def M_list_Extend (l_l : List PV) (l_frozen : Bool) (l_over : Int) (x : List PV) (K : Er → (List PV) → Bool → Int → Prop) : Prop :=
 (l_l.length ≤ maxLen →
 (x.length ≤ maxLen →
 M_pval_List_Loose l_l l_frozen l_over (fun (t6 : Bool) =>
 (((!t6) = true → K (Er.e 3) l_l l_frozen l_over) ∧
 ((!t6) = false → M_pval_List_Len l_l l_frozen l_over (fun (t12 : Int) =>
 (In .i64 ((1024 : Int) - t12)) ∧
 ((((1024 : Int) - t12) < (x.length : Int) → K (Er.e 7) l_l l_frozen l_over) ∧
 (¬ (((1024 : Int) - t12) < (x.length : Int)) → M_pval_List_Add l_l l_frozen l_over x (fun (l_ : List PV) (l_2 : Bool) (l_3 : Int) =>
 K Er.ok l_ l_2 l_3)))))))))

def M_list_Append (l_l : List PV) (l_frozen : Bool) (l_over : Int) (x : PV) (K : Er → (List PV) → Bool → Int → Prop) : Prop :=
 (l_l.length ≤ maxLen →
 M_list_Extend l_l l_frozen l_over ([x] : List PV) (fun (t4 : Er) (l_ : List PV) (l_2 : Bool) (l_3 : Int) =>
 K t4 l_ l_2 l_3))

def M_smithylaw12_first (K : Bool → Prop) : Prop :=
 M_smithylaw12_small (3 : Int) (fun (t8 : PV) =>
 M_smithylaw12_small (1 : Int) (fun (t9 : PV) =>
 M_smithylaw12_small (2 : Int) (fun (t10 : PV) =>
 M_list_Sorted ([t8, t9, t10] : List PV) true (fun (t120 : List PV) (t121 : Er) =>
 ∃ J1 : Bool → Prop, (((((!decide (t121 = Er.ok)) || (!decide ((t120.length : Int) = (3 : Int)))) = true → J1 true) ∧
 (((!decide (t121 = Er.ok)) || (!decide ((t120.length : Int) = (3 : Int)))) = false → (0 ≤ (0 : Int) ∧ (0 : Int) < (t120.length : Nat)) ∧
 M_val_Repr (t120.getD 0 PV.nil) (fun (t26 : List UInt8) =>
 J1 (!decide (t26 = ([51] : List UInt8))))))) ∧
 (∀ q2 : Bool, J1 q2 → ∃ J2 : Bool → Prop, (((q2 = true → J2 true) ∧
 (q2 = false → (0 ≤ (2 : Int) ∧ (2 : Int) < (t120.length : Nat)) ∧
 M_val_Repr (t120.getD 2 PV.nil) (fun (t33 : List UInt8) =>
 J2 (!decide (t33 = ([49] : List UInt8))))))) ∧
 (∀ q3 : Bool, J2 q3 → ((q3 = true → K false) ∧
 (q3 = false → M_smithylaw12_small (1 : Int) (fun (t36 : PV) =>
 M_val_NewList ([t36] : List PV) (
 K false) (fun (a_l : List PV) (a_frozen : Bool) (a_over : Int) =>
 M_list_Each_List0 a_l a_frozen a_over (fun (t441 : Er) (a_ : List PV) (a_2 : Bool) (a_3 : Int) =>
 K false) (fun (t440_l : List PV) (t440_at : Int) (t440_ended : Bool) (t440_Paid : Bool) (t4412 : Er) (a_4 : List PV) (a_5 : Bool) (a_6 : Int) =>
 ((¬ (t4412 = Er.ok) → K false) ∧
 (t4412 = Er.ok → M_smithylaw12_small (2 : Int) (fun (t54 : PV) =>
 M_list_Append a_4 a_5 a_6 t54 (fun (g : Er) (a_7 : List PV) (a_8 : Bool) (a_9 : Int) =>
 M_plist_Over_End_List0 a_7 a_8 a_9 t440_l t440_at t440_ended t440_Paid (fun (t440_ : Int) (t440_2 : Bool) (t440_3 : Bool) (a_10 : List PV) (a_11 : Bool) (a_12 : Int) =>
 M_smithysee_Is g (104 : Int) (fun (t59 : Bool) =>
 ∃ J3 : Bool → Prop, (((t59 = true → M_smithylaw12_small (2 : Int) (fun (t62 : PV) =>
 M_list_Append a_10 a_11 a_12 t62 (fun (t63 : Er) (a_13 : List PV) (a_14 : Bool) (a_15 : Int) =>
 J3 (decide (t63 = Er.ok))))) ∧
 (t59 = false → J3 false))) ∧
 (∀ q6 : Bool, J3 q6 → K q6))))))))))))))))))

set_option maxHeartbeats 8000000 in
theorem W_val_NewList {w : World} {l : List PV} {A_l : Option Addr} {c_l : Nat} {hs_l : List VH} {n_l : Nat} {K0 : Prop} {K : (List PV) → Bool → Int → Prop} (hl : Rd vv w A_l c_l hs_l) (hn_l : n_l = l.length) (hr_l : RelD deV w hs_l l) (H : M_val_NewList l K0 K) : Fn Tryd.prog 30 ⟨[.slice A_l n_l c_l]⟩ w (fun v w' => w.grownBy w' none ∧ ((v = .pointer none ∧ K0 ) ∨ (∃ (g_r : Nat), ∃ (r_l : List PV), ∃ (A_r_l : Option Addr), ∃ (c_r_l : Nat), ∃ (hs_r_l : List VH), ∃ (r_frozen : Bool), ∃ (r_over : Int), v = .pointer (some ⟨g_r, 0, none⟩) ∧ Own vv w' w.heap.size 41 A_r_l c_r_l hs_r_l ∧ RelD deV w' hs_r_l r_l ∧ (∀ p : Option Nat, Lt p w.heap.size → DnD deV hs_l l p → DnD deV hs_r_l r_l p) ∧ DnD deV hs_r_l r_l (blk A_r_l) ∧ Bl w' g_r 128 [.slice A_r_l r_l.length c_r_l, .bool r_frozen, .int .i64 r_over] ∧ Ge (some g_r) w.heap.size ∧ DnD deV hs_r_l r_l (blk A_r_l) ∧ DnD deV hs_r_l r_l (some g_r) ∧ Dj (blk A_r_l) (some g_r) ∧ K r_l r_frozen r_over))) := by
  subst hn_l
  unfold M_val_NewList at H
  refine Fn.enter (by kernel_rfl) Tryd.func30 rfl Tryd.ntmps30 rfl ?_
  replace H := H (by rw [← hr_l.1]; exact Nat.le_trans hl.cap hl.max)
  refine WC.seq ?_
  refine WC.region ?_
  refine WL.y rfl (Yld.pure tab_ok rfl) ?_
  refine WL.nil (WX.then_normal ?_)
  refine WC.seq ?_
  refine WC.region ?_
  refine WL.y rfl (Yld.pure tab_ok rfl) ?_
  refine WL.call rfl rfl (W_slices_Clone_val_Value_val_Value hl rfl hr_l H) ?_
  rintro _ w1 ⟨hg1, t4, A_t4, c_t4, hs_t4, rfl, ht4, hr_t4, ho1, dj1, H⟩
  have hb1 := ht4.ge'
  have k1 := ht4.base (fun g hg => Nat.le_trans (Nat.le_refl _) (hb1 g hg))
  have gr1 := hg1
  refine WL.y rfl (Yld.struct (us := [.slice A_t4 t4.length c_t4, .bool false, .int .i64 (0 : Int)]) zero128 places128 rfl rfl) ?_
  refine WL.box (us := [.slice A_t4 t4.length c_t4, .bool false, .int .i64 (0 : Int)]) rfl rfl rfl (fun g1 w2 hB1 hg2 hl1 => ?_)
  have gr2 := gr_trans gr1 hg2
  have k2 := k1.grown hg2
  have k3 := hr_t4.grown hg2
  refine WL.y rfl (Yld.pure tab_ok rfl) ?_
  refine WL.nil (WX.then_normal ?_)
  refine WC.ret ?_
  exact WX.ret1 rfl rfl ⟨gr2, Or.inr ⟨g1, t4, A_t4, c_t4, hs_t4, false, (0 : Int), rfl, k2, k3, (fun p_ hp_ v0_ => have q_ := v0_; ho1 p_ (fun g_ e_ => Nat.lt_of_lt_of_le (hp_ g_ e_) (Nat.le_refl _)) (q_)), dj1, hB1, (Ge.le (Ge.box hl1) (size_le gr1)), dj1, (hr_t4.new (Ge.box hl1)), (Dj.new k1.lt' (Ge.box hl1)), H⟩⟩

set_option maxHeartbeats 8000000 in
theorem W_pval_List_Loose {w : World} {g_l : Nat} {l_l : List PV} {A_l_l : Option Addr} {c_l_l : Nat} {hs_l_l : List VH} {l_frozen : Bool} {l_over : Int} {n_l_l : Nat} {K : Bool → Prop} (hl_l : Rd vv w A_l_l c_l_l hs_l_l) (hn_l_l : n_l_l = l_l.length) (hr_l_l : RelD deV w hs_l_l l_l) (hl : Bl w g_l 128 [.slice A_l_l n_l_l c_l_l, .bool l_frozen, .int .i64 l_over]) (H : M_pval_List_Loose l_l l_frozen l_over K) : Fn Tryd.prog 67 ⟨[.pointer (some ⟨g_l, 0, none⟩)]⟩ w (fun v w' => w = w' ∧ ∃ (r : Bool), v = .bool r ∧ K r) := by
  subst hn_l_l
  unfold M_pval_List_Loose at H
  refine Fn.enter (by kernel_rfl) Tryd.func67 rfl Tryd.ntmps67 rfl ?_
  replace H := H (by rw [← hr_l_l.1]; exact Nat.le_trans hl_l.cap hl_l.max)
  refine WC.seq ?_
  refine WC.region ?_
  refine WL.y rfl (Yld.pure tab_ok rfl) ?_
  refine WL.nil (WX.then_normal ?_)
  refine WC.seq ?_
  refine WC.region ?_
  refine WL.y rfl (Yld.pure tab_ok rfl) ?_
  refine WL.y rfl (Yld.pure tab_ok rfl) ?_
  refine WL.y rfl (Yld.fa0 (o := 1) (by kernel_rfl) rfl) ?_
  refine WL.y rfl (Yld.bload tab_ok hl rfl rfl rfl) ?_
  refine WL.y rfl (Yld.pure tab_ok rfl) ?_
  refine WL.y rfl (Yld.pure tab_ok rfl) ?_
  refine WL.midF 6 (fun L' w' => ∃ q1 : Bool, L' = [(14, .bool q1)] ∧ ((!l_frozen) && (decide (l_over = (0 : Int)))) = q1 ∧ w = w') ?_ (fun hQ => ?_)
  · rintro _ _ ⟨q1, rfl, rfl, rfl⟩
    refine WL.y rfl (Yld.pure tab_ok rfl) ?_
    refine WL.nil (WX.then_normal ?_)
    refine WC.ret ?_
    exact WX.ret1 rfl rfl ⟨rfl, (!l_frozen) && (decide (l_over = (0 : Int))), rfl, H⟩
  · clear H
    rcases Bool.eq_false_or_eq_true (!l_frozen) with b1 | b1
    · refine WL.gyes rfl rfl (okb b1) rfl (Yld.pure tab_ok rfl) ?_
      refine WL.gyes rfl rfl (okb b1) rfl (Yld.pure tab_ok rfl) ?_
      refine WL.gyes rfl rfl (okb b1) rfl (Yld.fa0 (o := 2) (by kernel_rfl) rfl) ?_
      refine WL.gyes rfl rfl (okb b1) rfl (Yld.bload tab_ok hl rfl rfl rfl) ?_
      refine WL.gyes rfl rfl (okb b1) rfl (Yld.pure tab_ok rfl) ?_
      refine WL.y rfl (Yld.pickT (okb b1) rfl) ?_
      exact WL.weaken (by repeat (first | exact Sub.nil | refine Sub.cons rfl ?_)) (hQ _ _ ⟨decide (l_over = (0 : Int)), rfl, by rw [b1] <;> rfl, rfl⟩)
    · refine WL.gno rfl rfl (okb b1) rfl ?_
      refine WL.gno rfl rfl (okb b1) rfl ?_
      refine WL.gno rfl rfl (okb b1) rfl ?_
      refine WL.gno rfl rfl (okb b1) rfl ?_
      refine WL.gno rfl rfl (okb b1) rfl ?_
      refine WL.y rfl (Yld.pickF (okb b1) rfl) ?_
      exact WL.weaken (by repeat (first | exact Sub.nil | refine Sub.cons rfl ?_)) (hQ _ _ ⟨false, rfl, by rw [b1] <;> rfl, rfl⟩)

set_option maxHeartbeats 8000000 in
theorem W_pval_List_Len {w : World} {g_l : Nat} {l_l : List PV} {A_l_l : Option Addr} {c_l_l : Nat} {hs_l_l : List VH} {l_frozen : Bool} {l_over : Int} {n_l_l : Nat} {K : Int → Prop} (hl_l : Rd vv w A_l_l c_l_l hs_l_l) (hn_l_l : n_l_l = l_l.length) (hr_l_l : RelD deV w hs_l_l l_l) (hl : Bl w g_l 128 [.slice A_l_l n_l_l c_l_l, .bool l_frozen, .int .i64 l_over]) (H : M_pval_List_Len l_l l_frozen l_over K) : Fn Tryd.prog 68 ⟨[.pointer (some ⟨g_l, 0, none⟩)]⟩ w (fun v w' => w = w' ∧ ∃ (r : Int), v = .int .i64 r ∧ K r) := by
  subst hn_l_l
  unfold M_pval_List_Len at H
  refine Fn.enter (by kernel_rfl) Tryd.func68 rfl Tryd.ntmps68 rfl ?_
  replace H := H (by rw [← hr_l_l.1]; exact Nat.le_trans hl_l.cap hl_l.max)
  refine WC.seq ?_
  refine WC.region ?_
  refine WL.y rfl (Yld.pure tab_ok rfl) ?_
  refine WL.nil (WX.then_normal ?_)
  refine WC.seq ?_
  refine WC.region ?_
  refine WL.y rfl (Yld.pure tab_ok rfl) ?_
  refine WL.y rfl (Yld.pure tab_ok rfl) ?_
  refine WL.y rfl (Yld.fa0 (o := 0) (by kernel_rfl) rfl) ?_
  refine WL.y rfl (Yld.bload tab_ok hl rfl rfl rfl) ?_
  refine WL.y rfl (Yld.pure tab_ok rfl) ?_
  refine WL.y rfl (Yld.pure tab_ok rfl) ?_
  refine WL.nil (WX.then_normal ?_)
  refine WC.ret ?_
  exact WX.ret1 rfl rfl ⟨rfl, (l_l.length : Int), rfl, H⟩

set_option maxHeartbeats 8000000 in
theorem W_pval_List_Kind {w : World} {g_p0 : Nat} {p0_l : List PV} {A_p0_l : Option Addr} {c_p0_l : Nat} {hs_p0_l : List VH} {p0_frozen : Bool} {p0_over : Int} {n_p0_l : Nat} {K : Int → Prop} (hp0_l : Rd vv w A_p0_l c_p0_l hs_p0_l) (hn_p0_l : n_p0_l = p0_l.length) (hr_p0_l : RelD deV w hs_p0_l p0_l) (hp0 : Bl w g_p0 128 [.slice A_p0_l n_p0_l c_p0_l, .bool p0_frozen, .int .i64 p0_over]) (H : M_pval_List_Kind p0_l p0_frozen p0_over K) : Fn Tryd.prog 123 ⟨[.pointer (some ⟨g_p0, 0, none⟩)]⟩ w (fun v w' => w = w' ∧ ∃ (r : Int), v = .int .i64 r ∧ K r) := by
  subst hn_p0_l
  unfold M_pval_List_Kind at H
  refine Fn.enter (by kernel_rfl) Tryd.func123 rfl Tryd.ntmps123 rfl ?_
  replace H := H (by rw [← hr_p0_l.1]; exact Nat.le_trans hp0_l.cap hp0_l.max)
  refine WC.seq ?_
  refine WC.region ?_
  refine WL.y rfl (Yld.pure tab_ok rfl) ?_
  refine WL.nil (WX.then_normal ?_)
  refine WC.seq ?_
  refine WC.region ?_
  refine WL.y rfl (Yld.pure tab_ok rfl) ?_
  refine WL.nil (WX.then_normal ?_)
  refine WC.ret ?_
  exact WX.ret1 rfl rfl ⟨rfl, (5 : Int), rfl, H⟩

set_option maxHeartbeats 8000000 in
theorem W_pval_List_Add {w : World} {g_l : Nat} {l_l : List PV} {A_l_l : Option Addr} {c_l_l : Nat} {hs_l_l : List VH} {l_frozen : Bool} {l_over : Int} {items : List PV} {A_items : Option Addr} {c_items : Nat} {hs_items : List VH} {n_l_l : Nat} {n_items : Nat} {K : (List PV) → Bool → Int → Prop} (hl_l : Own vv w 0 41 A_l_l c_l_l hs_l_l) (hn_l_l : n_l_l = l_l.length) (hr_l_l : RelD deV w hs_l_l l_l) (hl : Bl w g_l 128 [.slice A_l_l n_l_l c_l_l, .bool l_frozen, .int .i64 l_over]) (hitems : Rd vv w A_items c_items hs_items) (hn_items : n_items = items.length) (hr_items : RelD deV w hs_items items) (hdj0_1 : Dj (some g_l) (blk A_l_l)) (hap0 : AllP (DnD deV hs_l_l l_l) [(some g_l), (blk A_l_l)]) (hap1 : AllP (Dn hs_items (blk A_items)) [(some g_l), (blk A_l_l)]) (hap2 : AllP (DnD deV hs_items items) [(some g_l), (blk A_l_l)]) (H : M_pval_List_Add l_l l_frozen l_over items K) : Fn Tryd.prog 69 ⟨[.pointer (some ⟨g_l, 0, none⟩), .slice A_items n_items c_items]⟩ w (fun v w' => GrL [(some g_l), (blk A_l_l)] w w' ∧ ∃ (l_l2 : List PV), ∃ (A_l_l2 : Option Addr), ∃ (c_l_l2 : Nat), ∃ (hs_l_l2 : List VH), ∃ (l_frozen2 : Bool), ∃ (l_over2 : Int), v = .tuple #[] ∧ Bl w' g_l 128 [.slice A_l_l2 l_l2.length c_l_l2, .bool l_frozen2, .int .i64 l_over2] ∧ Own vv w' 0 41 A_l_l2 c_l_l2 hs_l_l2 ∧ InP [(some g_l), (blk A_l_l)] w.heap.size (blk A_l_l2) ∧ RelD deV w' hs_l_l2 l_l2 ∧ (∀ p : Option Nat, Lt p w.heap.size → DnD deV hs_l_l l_l p → DnD deV hs_items items p → DnD deV hs_l_l2 l_l2 p) ∧ Dj (some g_l) (blk A_l_l2) ∧ DnD deV hs_l_l2 l_l2 (some g_l) ∧ DnD deV hs_l_l2 l_l2 (blk A_l_l2) ∧ K l_l2 l_frozen2 l_over2) := by
  subst hn_l_l
  subst hn_items
  unfold M_pval_List_Add at H
  refine Fn.enter (by kernel_rfl) Tryd.func69 rfl Tryd.ntmps69 rfl ?_
  replace H := H (by rw [← hr_l_l.1]; exact Nat.le_trans hl_l.rd.cap hl_l.rd.max)
  replace H := H (by rw [← hr_items.1]; exact Nat.le_trans hitems.cap hitems.max)
  have hNoAt : AllP (NoAt w) [(some g_l), (blk A_l_l)] := (apC (NoAt.bl hl rfl) (apC (NoAt.own hl_l rfl) apN))
  refine WC.region ?_
  refine WL.y rfl (Yld.pure tab_ok rfl) ?_
  refine WL.y rfl (Yld.pure tab_ok rfl) ?_
  refine WL.y rfl (Yld.pure tab_ok rfl) ?_
  refine WL.y rfl (Yld.fa0 (o := 0) (by kernel_rfl) rfl) ?_
  refine WL.y rfl (Yld.bload tab_ok hl rfl rfl rfl) ?_
  refine WL.y rfl (Yld.pure tab_ok rfl) ?_
  obtain ⟨h1, H⟩ := H
  have h2 : ((hs_l_l : List VH).length + hs_items.length) * 16 ≤ 140737488355328 := by rw [hr_l_l.1, hr_items.1]; exact h1
  refine WL.append tab_ok rfl rfl One.vv hl_l rfl hr_l_l.1.symm hitems rfl hr_items.1.symm h2 (applen h2) (Nat.zero_le _) (fun A_t10 c_t10 w1 hO1 hg1 hk1 => ?_)
  have el1 : (hs_l_l ++ hs_items).length = (l_l ++ items).length := by rw [List.length_append, List.length_append, hr_l_l.1, hr_items.1]
  rw [el1]
  have gr1 : GrL [(some g_l), (blk A_l_l)] w w1 := GrL.mod (GrL.refl _) hg1 (InP.mem (List.Mem.tail _ (List.Mem.head _)))
  have k1 := hr_l_l.go hg1 (hap0 _ (List.Mem.tail _ (List.Mem.head _)))
  have k2 := hl.go hg1 hdj0_1
  have hr1 : RelD deV w1 (hs_l_l ++ hs_items) (l_l ++ items) := RelD.append k1 (hr_items.goL gr1 hap2)
  have nd1 : OrD (fun p => DnD deV hs_l_l l_l p ∧ DnD deV hs_items items p) deV (hs_l_l ++ hs_items) (l_l ++ items) w.heap.size := OrD.append hr_l_l.1 (fun p_ hp_ q_ => q_.1) (fun p_ hp_ q_ => q_.2)
  have dj1 : DnD deV (hs_l_l ++ hs_items) (l_l ++ items) (some g_l) := (DnD.append hr_l_l.1 (hap0 _ (List.Mem.head _)) (hr_items.inp hap2 (InP.mem (List.Mem.head _))))
  have dj2 : DnD deV (hs_l_l ++ hs_items) (l_l ++ items) (blk A_t10) := (DnD.append hr_l_l.1 (RelD.app hr_l_l (hap0 _ (List.Mem.tail _ (List.Mem.head _))) hk1) (RelD.app hr_items (hr_items.inp hap2 (InP.mem (List.Mem.tail _ (List.Mem.head _)))) hk1))
  refine WL.y rfl (Yld.pure tab_ok rfl) ?_
  refine WL.y rfl (Yld.fa0 (o := 0) (by kernel_rfl) rfl) ?_
  refine WL.store1 one32 rfl rfl rfl k2 (by simp) (fun w2 hB2 hg2 => ?_)
  have hB1 : Bl w2 g_l 128 [.slice A_t10 ((l_l ++ items).length) c_t10, .bool l_frozen, .int .i64 l_over] := hB2
  have gr2 : GrL [(some g_l), (blk A_l_l)] w w2 := GrL.mod gr1 hg2 (InP.mem (List.Mem.head _))
  have k3 := hO1.go hg2 (Dj.app hdj0_1.symm hl.lt' hk1)
  have k4 := hr1.go hg2 dj1
  refine WL.nil ?_
  exact WX.end0 rfl ⟨gr2, (l_l ++ items), A_t10, c_t10, (hs_l_l ++ hs_items), l_frozen, l_over, rfl, hB1, k3, (InP.app (InP.mem (List.Mem.tail _ (List.Mem.head _))) hk1 (Nat.le_refl _)), k4, (fun p_ hp_ v0_ v1_ => nd1 p_ hp_ ⟨v0_, v1_⟩), (Dj.app hdj0_1.symm hl.lt' hk1).symm, dj1, dj2, H⟩

set_option maxHeartbeats 8000000 in
theorem W_val_items_List0 {w : World} {g_v : Nat} {v_l : List PV} {A_v_l : Option Addr} {c_v_l : Nat} {hs_v_l : List VH} {v_frozen : Bool} {v_over : Int} {n_v_l : Nat} {K : (List PV) → Bool → Prop} (hv_l : Rd vv w A_v_l c_v_l hs_v_l) (hn_v_l : n_v_l = v_l.length) (hr_v_l : RelD deV w hs_v_l v_l) (hv : Bl w g_v 128 [.slice A_v_l n_v_l c_v_l, .bool v_frozen, .int .i64 v_over]) (H : M_val_items_List0 v_l v_frozen v_over K) : Fn Tryd.prog 40 ⟨[.iface 85 (.pointer (some ⟨g_v, 0, none⟩))]⟩ w (fun v w' => w.grownBy w' none ∧ ∃ (r0 : List PV), ∃ (A_r0 : Option Addr), ∃ (c_r0 : Nat), ∃ (hs_r0 : List VH), ∃ (r1 : Bool), v = .tuple #[.slice A_r0 r0.length c_r0, .bool r1] ∧ Own vv w' w.heap.size 41 A_r0 c_r0 hs_r0 ∧ RelD deV w' hs_r0 r0 ∧ (∀ p : Option Nat, Lt p w.heap.size → DnD deV hs_v_l v_l p → DnD deV hs_r0 r0 p) ∧ DnD deV hs_r0 r0 (blk A_r0) ∧ K r0 r1) := by
  subst hn_v_l
  unfold M_val_items_List0 at H
  refine Fn.enter (by kernel_rfl) Tryd.func40 rfl Tryd.ntmps40 rfl ?_
  replace H := H (by rw [← hr_v_l.1]; exact Nat.le_trans hv_l.cap hv_l.max)
  refine WC.seq ?_
  refine WC.region ?_
  refine WL.y rfl (Yld.pure tab_ok rfl) ?_
  refine WL.y rfl (Yld.pure tab_ok rfl) ?_
  refine WL.nil (WX.then_normal ?_)
  refine WC.seq ?_
  refine WC.seq ?_
  refine WC.region ?_
  refine WL.y rfl (Yld.pure tab_ok rfl) ?_
  refine WL.nil (WX.then_normal ?_)
  refine WC.block ?_
  refine WC.seq ?_
  refine WC.region ?_
  refine WL.y rfl (assertYesV (v := ⟨.iface 85 (.pointer (some ⟨g_v, 0, none⟩)), rfl⟩) Tryd.underlying85 rfl rfl rfl) ?_
  refine WL.y rfl (Yld.pure tab_ok rfl) ?_
  refine WL.y rfl (Yld.pure tab_ok rfl) ?_
  refine WL.nil (WX.then_normal ?_)
  refine WC.cond rfl (fun _ => ?_) (fun h => by cases h)
  refine WC.seq ?_
  refine WC.region ?_
  refine WL.y rfl (Yld.pure tab_ok rfl) ?_
  refine WL.nil (WX.then_normal ?_)
  refine WC.seq ?_
  refine WC.region ?_
  refine WL.y rfl (Yld.pure tab_ok rfl) ?_
  refine WL.y rfl (Yld.pure tab_ok rfl) ?_
  refine WL.y rfl (Yld.fa0 (o := 0) (by kernel_rfl) rfl) ?_
  refine WL.y rfl (Yld.bload tab_ok hv rfl rfl rfl) ?_
  refine WL.call rfl rfl (W_slices_Clone_val_Value_val_Value hv_l rfl hr_v_l H) ?_
  rintro _ w1 ⟨hg1, t2, A_t2, c_t2, hs_t2, rfl, ht2, hr_t2, ho1, dj1, H⟩
  have hb1 := ht2.ge'
  have k1 := ht2.base (fun g hg => Nat.le_trans (Nat.le_refl _) (hb1 g hg))
  have gr1 := hg1
  refine WL.y rfl (Yld.pure tab_ok rfl) ?_
  refine WL.y rfl (Yld.pure tab_ok rfl) ?_
  refine WL.nil (WX.then_normal ?_)
  refine WC.ret (WX.block_ret (WX.then_ret ?_))
  exact WX.ret2 rfl rfl rfl ⟨gr1, t2, A_t2, c_t2, hs_t2, true, rfl, k1, hr_t2, (fun p_ hp_ v0_ => have q_ := v0_; ho1 p_ (fun g_ e_ => Nat.lt_of_lt_of_le (hp_ g_ e_) (Nat.le_refl _)) (q_)), dj1, H⟩

set_option maxHeartbeats 8000000 in
theorem W_val_Items_List0 {w : World} {g_v : Nat} {v_l : List PV} {A_v_l : Option Addr} {c_v_l : Nat} {hs_v_l : List VH} {v_frozen : Bool} {v_over : Int} {n_v_l : Nat} {K : (List PV) → Bool → Prop} (hv_l : Rd vv w A_v_l c_v_l hs_v_l) (hn_v_l : n_v_l = v_l.length) (hr_v_l : RelD deV w hs_v_l v_l) (hv : Bl w g_v 128 [.slice A_v_l n_v_l c_v_l, .bool v_frozen, .int .i64 v_over]) (H : M_val_Items_List0 v_l v_frozen v_over K) : Fn Tryd.prog 18 ⟨[.iface 85 (.pointer (some ⟨g_v, 0, none⟩))]⟩ w (fun v w' => w.grownBy w' none ∧ ∃ (r0 : List PV), ∃ (A_r0 : Option Addr), ∃ (c_r0 : Nat), ∃ (hs_r0 : List VH), ∃ (r1 : Bool), v = .tuple #[.slice A_r0 r0.length c_r0, .bool r1] ∧ Own vv w' w.heap.size 41 A_r0 c_r0 hs_r0 ∧ RelD deV w' hs_r0 r0 ∧ (∀ p : Option Nat, Lt p w.heap.size → DnD deV hs_v_l v_l p → DnD deV hs_r0 r0 p) ∧ DnD deV hs_r0 r0 (blk A_r0) ∧ K r0 r1) := by
  subst hn_v_l
  unfold M_val_Items_List0 at H
  refine Fn.enter (by kernel_rfl) Tryd.func18 rfl Tryd.ntmps18 rfl ?_
  replace H := H (by rw [← hr_v_l.1]; exact Nat.le_trans hv_l.cap hv_l.max)
  refine WC.seq ?_
  refine WC.region ?_
  refine WL.y rfl (Yld.pure tab_ok rfl) ?_
  refine WL.y rfl (Yld.pure tab_ok rfl) ?_
  refine WL.nil (WX.then_normal ?_)
  refine WC.seq ?_
  refine WC.region ?_
  refine WL.y rfl (Yld.pure tab_ok rfl) ?_
  refine WL.call rfl rfl (W_val_items_List0 hv_l rfl hr_v_l hv H) ?_
  rintro _ w1 ⟨hg1, t50, A_t50, c_t50, hs_t50, t51, rfl, ht50, hr_t50, ho1, dj1, H⟩
  have hb1 := ht50.ge'
  have k1 := ht50.base (fun g hg => Nat.le_trans (Nat.le_refl _) (hb1 g hg))
  have gr1 := hg1
  refine WL.y rfl (Yld.pure tab_ok rfl) ?_
  refine WL.y rfl (Yld.pure tab_ok rfl) ?_
  refine WL.y rfl (Yld.pure tab_ok rfl) ?_
  refine WL.y rfl (Yld.pure tab_ok rfl) ?_
  refine WL.nil (WX.then_normal ?_)
  refine WC.ret ?_
  exact WX.ret2 rfl rfl rfl ⟨gr1, t50, A_t50, c_t50, hs_t50, t51, rfl, k1, hr_t50, (fun p_ hp_ v0_ => have q_ := v0_; ho1 p_ (fun g_ e_ => Nat.lt_of_lt_of_le (hp_ g_ e_) (Nat.le_refl _)) (q_)), dj1, H⟩

set_option maxHeartbeats 8000000 in
theorem W_val_hold_List0 {w : World} {g_v : Nat} {v_l : List PV} {A_v_l : Option Addr} {c_v_l : Nat} {hs_v_l : List VH} {v_frozen : Bool} {v_over : Int} {by_ : Int} {n_v_l : Nat} {K : (List PV) → Bool → Int → Prop} (hv_l : Own vv w 0 41 A_v_l c_v_l hs_v_l) (hn_v_l : n_v_l = v_l.length) (hr_v_l : RelD deV w hs_v_l v_l) (hv : Bl w g_v 128 [.slice A_v_l n_v_l c_v_l, .bool v_frozen, .int .i64 v_over]) (hdj0_1 : Dj (some g_v) (blk A_v_l)) (hap0 : AllP (DnD deV hs_v_l v_l) [(some g_v), (blk A_v_l)]) (H : M_val_hold_List0 v_l v_frozen v_over by_ K) : Fn Tryd.prog 66 ⟨[.iface 85 (.pointer (some ⟨g_v, 0, none⟩)), .int .i64 by_]⟩ w (fun v w' => GrL [(some g_v), (blk A_v_l)] w w' ∧ ∃ (v_l2 : List PV), ∃ (A_v_l2 : Option Addr), ∃ (c_v_l2 : Nat), ∃ (hs_v_l2 : List VH), ∃ (v_frozen2 : Bool), ∃ (v_over2 : Int), v = .tuple #[] ∧ Bl w' g_v 128 [.slice A_v_l2 v_l2.length c_v_l2, .bool v_frozen2, .int .i64 v_over2] ∧ Own vv w' 0 41 A_v_l2 c_v_l2 hs_v_l2 ∧ InP [(some g_v), (blk A_v_l)] w.heap.size (blk A_v_l2) ∧ RelD deV w' hs_v_l2 v_l2 ∧ (∀ p : Option Nat, Lt p w.heap.size → DnD deV hs_v_l v_l p → DnD deV hs_v_l2 v_l2 p) ∧ Dj (some g_v) (blk A_v_l2) ∧ DnD deV hs_v_l2 v_l2 (some g_v) ∧ DnD deV hs_v_l2 v_l2 (blk A_v_l2) ∧ K v_l2 v_frozen2 v_over2) := by
  subst hn_v_l
  unfold M_val_hold_List0 at H
  refine Fn.enter (by kernel_rfl) Tryd.func66 rfl Tryd.ntmps66 rfl ?_
  replace H := H (by rw [← hr_v_l.1]; exact Nat.le_trans hv_l.rd.cap hv_l.rd.max)
  have hNoAt : AllP (NoAt w) [(some g_v), (blk A_v_l)] := (apC (NoAt.bl hv rfl) (apC (NoAt.own hv_l rfl) apN))
  refine WC.seq ?_
  refine WC.region ?_
  refine WL.y rfl (Yld.pure tab_ok rfl) ?_
  refine WL.nil (WX.then_normal ?_)
  refine WC.block ?_
  refine WC.seq ?_
  refine WC.region ?_
  refine WL.y rfl (assertYesV (v := ⟨.iface 85 (.pointer (some ⟨g_v, 0, none⟩)), rfl⟩) Tryd.underlying85 rfl rfl rfl) ?_
  refine WL.y rfl (Yld.pure tab_ok rfl) ?_
  refine WL.y rfl (Yld.pure tab_ok rfl) ?_
  refine WL.nil (WX.then_normal ?_)
  refine WC.cond rfl (fun _ => ?_) (fun h => by cases h)
  refine WC.seq ?_
  refine WC.region ?_
  refine WL.y rfl (Yld.pure tab_ok rfl) ?_
  refine WL.nil (WX.then_normal ?_)
  refine WC.region ?_
  refine WL.y rfl (Yld.pure tab_ok rfl) ?_
  refine WL.y rfl (Yld.pure tab_ok rfl) ?_
  refine WL.y rfl (Yld.fa0 (o := 2) (by kernel_rfl) rfl) ?_
  refine WL.y rfl (Yld.bload tab_ok hv rfl rfl rfl) ?_
  refine WL.y rfl (Yld.pure tab_ok rfl) ?_
  obtain ⟨h1, H⟩ := H
  refine WL.y rfl (Yld.add rfl rfl h1) ?_
  refine WL.y rfl (Yld.pure tab_ok rfl) ?_
  refine WL.y rfl (Yld.fa0 (o := 2) (by kernel_rfl) rfl) ?_
  refine WL.store1 one3 rfl rfl rfl hv (by simp) (fun w1 hB2 hg1 => ?_)
  have hB1 : Bl w1 g_v 128 [.slice A_v_l v_l.length c_v_l, .bool v_frozen, .int .i64 (v_over + by_)] := hB2
  have gr1 : GrL [(some g_v), (blk A_v_l)] w w1 := GrL.mod (GrL.refl _) hg1 (InP.mem (List.Mem.head _))
  have k1 := hv_l.go hg1 hdj0_1.symm
  have k2 := hr_v_l.go hg1 (hap0 _ (List.Mem.head _))
  refine WL.nil (WX.block_normal ?_)
  exact WX.end0 rfl ⟨gr1, v_l, A_v_l, c_v_l, hs_v_l, v_frozen, v_over + by_, rfl, hB1, k1, (InP.mem (List.Mem.tail _ (List.Mem.head _))), k2, (fun p_ hp_ v0_ => have q_ := v0_; q_), hdj0_1, (hap0 _ (List.Mem.head _)), (hap0 _ (List.Mem.tail _ (List.Mem.head _))), H⟩

set_option maxHeartbeats 8000000 in
theorem W_val_Hold_List0 {w : World} {g_v : Nat} {v_l : List PV} {A_v_l : Option Addr} {c_v_l : Nat} {hs_v_l : List VH} {v_frozen : Bool} {v_over : Int} {by_ : Int} {n_v_l : Nat} {K : (List PV) → Bool → Int → Prop} (hv_l : Own vv w 0 41 A_v_l c_v_l hs_v_l) (hn_v_l : n_v_l = v_l.length) (hr_v_l : RelD deV w hs_v_l v_l) (hv : Bl w g_v 128 [.slice A_v_l n_v_l c_v_l, .bool v_frozen, .int .i64 v_over]) (hdj0_1 : Dj (some g_v) (blk A_v_l)) (hap0 : AllP (DnD deV hs_v_l v_l) [(some g_v), (blk A_v_l)]) (H : M_val_Hold_List0 v_l v_frozen v_over by_ K) : Fn Tryd.prog 55 ⟨[.iface 85 (.pointer (some ⟨g_v, 0, none⟩)), .int .i64 by_]⟩ w (fun v w' => GrL [(some g_v), (blk A_v_l)] w w' ∧ ∃ (v_l2 : List PV), ∃ (A_v_l2 : Option Addr), ∃ (c_v_l2 : Nat), ∃ (hs_v_l2 : List VH), ∃ (v_frozen2 : Bool), ∃ (v_over2 : Int), v = .tuple #[] ∧ Bl w' g_v 128 [.slice A_v_l2 v_l2.length c_v_l2, .bool v_frozen2, .int .i64 v_over2] ∧ Own vv w' 0 41 A_v_l2 c_v_l2 hs_v_l2 ∧ InP [(some g_v), (blk A_v_l)] w.heap.size (blk A_v_l2) ∧ RelD deV w' hs_v_l2 v_l2 ∧ (∀ p : Option Nat, Lt p w.heap.size → DnD deV hs_v_l v_l p → DnD deV hs_v_l2 v_l2 p) ∧ Dj (some g_v) (blk A_v_l2) ∧ DnD deV hs_v_l2 v_l2 (some g_v) ∧ DnD deV hs_v_l2 v_l2 (blk A_v_l2) ∧ K v_l2 v_frozen2 v_over2) := by
  subst hn_v_l
  unfold M_val_Hold_List0 at H
  refine Fn.enter (by kernel_rfl) Tryd.func55 rfl Tryd.ntmps55 rfl ?_
  replace H := H (by rw [← hr_v_l.1]; exact Nat.le_trans hv_l.rd.cap hv_l.rd.max)
  have hNoAt : AllP (NoAt w) [(some g_v), (blk A_v_l)] := (apC (NoAt.bl hv rfl) (apC (NoAt.own hv_l rfl) apN))
  refine WC.region ?_
  refine WL.y rfl (Yld.pure tab_ok rfl) ?_
  refine WL.y rfl (Yld.pure tab_ok rfl) ?_
  refine WL.call rfl rfl (W_val_hold_List0 hv_l rfl hr_v_l hv hdj0_1 (apC (hap0 _ (List.Mem.head _)) (apC (hap0 _ (List.Mem.tail _ (List.Mem.head _))) apN)) H) ?_
  rintro _ w1 ⟨hgl1, v_, A_v_, c_v_, hs_v_, v_2, v_3, rfl, hB1, hO1, hi1, hr1, ho1, dj1, dj2, dj3, H⟩
  have hi2 : InP [(some g_v), (blk A_v_l)] w.heap.size (blk A_v_) := InP.trans hi1 (apC (InP.mem (List.Mem.head _)) (apC (InP.mem (List.Mem.tail _ (List.Mem.head _))) apN)) (Nat.le_refl _)
  have gr1 : GrL [(some g_v), (blk A_v_l)] w w1 := GrL.modL (GrL.refl _) hgl1 (apC (InP.mem (List.Mem.head _)) (apC (InP.mem (List.Mem.tail _ (List.Mem.head _))) apN))
  have k1 := hr_v_l.goL hgl1 (apC (hap0 _ (List.Mem.head _)) (apC (hap0 _ (List.Mem.tail _ (List.Mem.head _))) apN))
  refine WL.nil ?_
  exact WX.end0 rfl ⟨gr1, v_, A_v_, c_v_, hs_v_, v_2, v_3, rfl, hB1, hO1, hi2, hr1, (fun p_ hp_ v0_ => have q_ := v0_; ho1 p_ (fun g_ e_ => Nat.lt_of_lt_of_le (hp_ g_ e_) (Nat.le_refl _)) (q_)), dj1, dj2, dj3, H⟩

set_option maxHeartbeats 8000000 in
theorem W_list_Each_List0 {S : List Nat} {B : Nat} {w : World} {g_v : Nat} {v_l : List PV} {A_v_l : Option Addr} {c_v_l : Nat} {hs_v_l : List VH} {v_frozen : Bool} {v_over : Int} {n_v_l : Nat} {K0 : Er → (List PV) → Bool → Int → Prop} {K : (List PV) → Int → Bool → Bool → Er → (List PV) → Bool → Int → Prop} (hG : GB S B w) (hB : B ≤ w.heap.size) (hP : AllP (fun p => Ge p B) [(some g_v), (blk A_v_l)]) (hS3 : 3 ∈ S) (hv_l : Own vv w 0 41 A_v_l c_v_l hs_v_l) (hn_v_l : n_v_l = v_l.length) (hr_v_l : RelD deV w hs_v_l v_l) (hv : Bl w g_v 128 [.slice A_v_l n_v_l c_v_l, .bool v_frozen, .int .i64 v_over]) (hdj0_1 : Dj (some g_v) (blk A_v_l)) (hap0 : AllP (DnD deV hs_v_l v_l) [(some g_v), (blk A_v_l)]) (H : M_list_Each_List0 v_l v_frozen v_over K0 K) : Fn Tryd.prog 31 ⟨[.iface 85 (.pointer (some ⟨g_v, 0, none⟩))]⟩ w (fun v w' => GrL [(some g_v), (blk A_v_l)] w w' ∧ ((∃ (v_r12 : Value), ∃ (r12 : Er), ∃ (v_l2 : List PV), ∃ (A_v_l2 : Option Addr), ∃ (c_v_l2 : Nat), ∃ (hs_v_l2 : List VH), ∃ (v_frozen2 : Bool), ∃ (v_over2 : Int), v = .tuple #[.pointer none, v_r12] ∧ ErrR S w' v_r12 r12 ∧ Bl w' g_v 128 [.slice A_v_l2 v_l2.length c_v_l2, .bool v_frozen2, .int .i64 v_over2] ∧ Own vv w' 0 41 A_v_l2 c_v_l2 hs_v_l2 ∧ InP [(some g_v), (blk A_v_l)] w.heap.size (blk A_v_l2) ∧ RelD deV w' hs_v_l2 v_l2 ∧ (∀ p : Option Nat, Lt p w.heap.size → DnD deV hs_v_l v_l p → DnD deV hs_v_l2 v_l2 p) ∧ Dj (some g_v) (blk A_v_l2) ∧ DnD deV hs_v_l2 v_l2 (some g_v) ∧ DnD deV hs_v_l2 v_l2 (blk A_v_l2) ∧ K0 r12 v_l2 v_frozen2 v_over2) ∨ (∃ (g_r0 : Nat), ∃ (r0_l : List PV), ∃ (A_r0_l : Option Addr), ∃ (c_r0_l : Nat), ∃ (hs_r0_l : List VH), ∃ (r0_at : Int), ∃ (r0_ended : Bool), ∃ (r0_Paid : Bool), ∃ (v_r1 : Value), ∃ (r1 : Er), ∃ (v_l2 : List PV), ∃ (A_v_l2 : Option Addr), ∃ (c_v_l2 : Nat), ∃ (hs_v_l2 : List VH), ∃ (v_frozen2 : Bool), ∃ (v_over2 : Int), v = .tuple #[.pointer (some ⟨g_r0, 0, none⟩), v_r1] ∧ Own vv w' w.heap.size 41 A_r0_l c_r0_l hs_r0_l ∧ RelD deV w' hs_r0_l r0_l ∧ (∀ p : Option Nat, Lt p w.heap.size → DnD deV hs_v_l v_l p → DnD deV hs_r0_l r0_l p) ∧ DnD deV hs_r0_l r0_l (blk A_r0_l) ∧ ErrR S w' v_r1 r1 ∧ Bl w' g_r0 130 [.iface 85 (.pointer (some ⟨g_v, 0, none⟩)), .slice A_r0_l r0_l.length c_r0_l, .int .i64 r0_at, .bool r0_ended, .bool r0_Paid] ∧ Ge (some g_r0) w.heap.size ∧ DnD deV hs_r0_l r0_l (blk A_r0_l) ∧ DnD deV hs_r0_l r0_l (some g_r0) ∧ Dj (blk A_r0_l) (some g_r0) ∧ Bl w' g_v 128 [.slice A_v_l2 v_l2.length c_v_l2, .bool v_frozen2, .int .i64 v_over2] ∧ Own vv w' 0 41 A_v_l2 c_v_l2 hs_v_l2 ∧ InP [(some g_v), (blk A_v_l)] w.heap.size (blk A_v_l2) ∧ RelD deV w' hs_v_l2 v_l2 ∧ (∀ p : Option Nat, Lt p w.heap.size → DnD deV hs_v_l v_l p → DnD deV hs_v_l2 v_l2 p) ∧ Dj (some g_v) (blk A_v_l2) ∧ DnD deV hs_v_l2 v_l2 (some g_v) ∧ DnD deV hs_v_l2 v_l2 (blk A_v_l2) ∧ Dj (blk A_r0_l) (some g_v) ∧ Dj (blk A_r0_l) (blk A_v_l2) ∧ Dj (some g_r0) (some g_v) ∧ Dj (some g_r0) (blk A_v_l2) ∧ DnD deV hs_r0_l r0_l (some g_v) ∧ DnD deV hs_r0_l r0_l (blk A_v_l2) ∧ DnD deV hs_v_l2 v_l2 (blk A_r0_l) ∧ DnD deV hs_v_l2 v_l2 (some g_r0) ∧ K r0_l r0_at r0_ended r0_Paid r1 v_l2 v_frozen2 v_over2))) := by
  subst hn_v_l
  unfold M_list_Each_List0 at H
  refine Fn.enter (by kernel_rfl) Tryd.func31 rfl Tryd.ntmps31 rfl ?_
  replace H := H (by rw [← hr_v_l.1]; exact Nat.le_trans hv_l.rd.cap hv_l.rd.max)
  have hNoAt : AllP (NoAt w) [(some g_v), (blk A_v_l)] := (apC (NoAt.bl hv rfl) (apC (NoAt.own hv_l rfl) apN))
  refine WC.seq ?_
  refine WC.region ?_
  refine WL.y rfl (Yld.pure tab_ok rfl) ?_
  refine WL.y rfl (Yld.pure tab_ok rfl) ?_
  refine WL.nil (WX.then_normal ?_)
  refine WC.seq ?_
  refine WC.region ?_
  refine WL.y rfl (Yld.pure tab_ok rfl) ?_
  have hv1 : RelD deV w [(vnil, noF)] [PV.nil] := deV_nil
  refine WL.y rfl (Yld.struct (us := [.iface 85 (.pointer (some ⟨g_v, 0, none⟩)), .slice none 0 0, .int .i64 (0 : Int), .bool false, .bool false]) zero130 places130 rfl rfl) ?_
  refine WL.box (us := [.iface 85 (.pointer (some ⟨g_v, 0, none⟩)), .slice none 0 0, .int .i64 (0 : Int), .bool false, .bool false]) rfl rfl rfl (fun g1 w1 hB1 hg1 hl1 => ?_)
  have gr1 := (GrL.of0 (ps := [(some g_v), (blk A_v_l)]) hg1)
  have k1 := hv_l.grown hg1
  have k2 := hr_v_l.grown hg1
  have k3 := hv.g0 hg1
  refine WL.y rfl (Yld.pure tab_ok rfl) ?_
  refine WL.nil (WX.then_normal ?_)
  refine WC.seq ?_
  obtain ⟨J1, H, hJ1⟩ := H
  refine WC.midF (fun L' w' => ∃ (t71 : List PV), ∃ (A_t71 : Option Addr), ∃ (c_t71 : Nat), ∃ (n_t71 : Nat), ∃ (hs_t71 : List VH), L' = [(0, .iface 85 (.pointer (some ⟨g_v, 0, none⟩))), (4, .pointer (some ⟨g1, 0, none⟩))] ∧ J1 t71 ∧ n_t71 = t71.length ∧ GrL [(some g_v), (blk A_v_l)] w w' ∧ Own vv w' 0 41 A_v_l c_v_l hs_v_l ∧ RelD deV w' hs_v_l v_l ∧ Bl w' g_v 128 [.slice A_v_l v_l.length c_v_l, .bool v_frozen, .int .i64 v_over] ∧ Bl w' g1 130 [.iface 85 (.pointer (some ⟨g_v, 0, none⟩)), .slice A_t71 n_t71 c_t71, .int .i64 (0 : Int), .bool false, .bool false] ∧ Own vv w' w.heap.size 41 A_t71 c_t71 hs_t71 ∧ RelD deV w' hs_t71 t71 ∧ Dj (blk A_v_l) (blk A_t71) ∧ DnD deV hs_v_l v_l (blk A_t71) ∧ Dj (some g_v) (blk A_t71) ∧ Dj (some g1) (blk A_t71) ∧ DnD deV hs_t71 t71 (blk A_v_l) ∧ DnD deV hs_t71 t71 (some g_v) ∧ DnD deV hs_t71 t71 (some g1) ∧ DnD deV hs_t71 t71 (blk A_t71) ∧ OrD (fun p => DnD deV hs_v_l v_l p) deV hs_t71 t71 w.heap.size) ?_ (fun hQ => ?_)
  · clear H
    rintro _ w2 ⟨t71, A_t71, c_t71, n_t71, hs_t71, rfl, H, rfl, gr2, k4, k5, k6, k7, k8, k9, dj1, dj2, dj3, dj4, dj5, dj6, dj7, dj8, or1⟩
    replace H := hJ1 t71 H
    refine WX.then_normal ?_
    refine WC.seq ?_
    refine WC.region ?_
    refine WL.y rfl (Yld.pure tab_ok rfl) ?_
    refine WL.call rfl rfl (W_val_Hold_List0 k4 rfl k5 k6 hdj0_1 (apC (hap0 _ (List.Mem.head _)) (apC (hap0 _ (List.Mem.tail _ (List.Mem.head _))) apN)) H) ?_
    rintro _ w3 ⟨hgl1, v_, A_v_, c_v_, hs_v_, v_2, v_3, rfl, hB2, hO1, hi1, hr1, ho1, dj9, dj10, dj11, H⟩
    have hi2 : InP [(some g_v), (blk A_v_l)] w.heap.size (blk A_v_) := InP.trans hi1 (apC (InP.mem (List.Mem.head _)) (apC (InP.mem (List.Mem.tail _ (List.Mem.head _))) apN)) (GrL.sizeL gr2)
    have gr3 : GrL [(some g_v), (blk A_v_l)] w w3 := GrL.modL gr2 hgl1 (apC (InP.mem (List.Mem.head _)) (apC (InP.mem (List.Mem.tail _ (List.Mem.head _))) apN))
    have k10 := k5.goL hgl1 (apC (hap0 _ (List.Mem.head _)) (apC (hap0 _ (List.Mem.tail _ (List.Mem.head _))) apN))
    have k11 := k7.goL hgl1 (apC (Dj.new hv.lt' (Ge.box hl1)).symm (apC (Dj.new hv_l.lt' (Ge.box hl1)).symm apN))
    have k12 := k8.goL hgl1 (apC dj3.symm (apC dj1.symm apN))
    have k13 := k9.goL hgl1 (apC dj6 (apC dj5 apN))
    refine WL.nil (WX.then_normal ?_)
    refine WC.seq ?_
    refine WC.region ?_
    refine WL.y rfl (Yld.pure tab_ok rfl) ?_
    refine WL.y rfl (Yld.pure tab_ok rfl) ?_
    refine WL.y rfl (Yld.pure tab_ok rfl) ?_
    refine WL.nil (WX.then_normal ?_)
    refine WC.ret ?_
    exact WX.ret2 rfl rfl rfl ⟨gr3, Or.inr ⟨g1, t71, A_t71, c_t71, hs_t71, (0 : Int), false, false, .nilIface, Er.ok, v_, A_v_, c_v_, hs_v_, v_2, v_3, rfl, k12, k13, (fun p_ hp_ v0_ => or1 p_ hp_ v0_), dj8, (ErrR.okR (S := S) (w := w3)), k11, (Ge.le (Ge.box hl1) (Nat.le_refl _)), dj8, dj7, dj4.symm, hB2, hO1, hi2, hr1, (fun p_ hp_ v0_ => have q_ := v0_; ho1 p_ (fun g_ e_ => Nat.lt_of_lt_of_le (hp_ g_ e_) (GrL.sizeL gr2)) (q_)), dj9, dj10, dj11, dj3.symm, (InP.dj hi1 k8.lt' (apC dj3.symm (apC dj1.symm apN))).symm, (Dj.new hv.lt' (Ge.box hl1)).symm, (InP.dj hi1 k7.lt' (apC (Dj.new hv.lt' (Ge.box hl1)).symm (apC (Dj.new hv_l.lt' (Ge.box hl1)).symm apN))).symm, dj6, (RelD.inp k9 (apC dj6 (apC dj5 apN)) hi1), (ho1 _ k8.lt' dj2), (ho1 _ k7.lt' (hr_v_l.new (Ge.box hl1))), H⟩⟩
  · clear hJ1
    refine WC.seq ?_
    refine WC.region ?_
    refine WL.y rfl (Yld.pure tab_ok rfl) ?_
    refine WL.callm rfl rfl (fun w => by kernel_rfl) rfl (W_pval_List_Kind k1.rd rfl k2 k3 H) ?_
    rintro _ _ ⟨rfl, t9, rfl, H⟩
    refine WL.nil (WX.then_normal ?_)
    refine WC.block ?_
    refine WC.seq ?_
    obtain ⟨J2, H, hJ2⟩ := H
    refine WC.midF (fun L' w' => ∃ (t11 : Bool), L' = [(0, .iface 85 (.pointer (some ⟨g_v, 0, none⟩))), (4, .pointer (some ⟨g1, 0, none⟩)), (9, .int .i64 t9), (11, .bool t11)] ∧ J2 t11 ∧ w1 = w') ?_ (fun hQ1 => ?_)
    · clear H
      rintro _ _ ⟨t11, rfl, H, rfl⟩
      replace H := hJ2 t11 H
      refine WX.then_normal ?_
      refine WC.cond rfl (fun b1 => ?_) (fun b1 => ?_)
      · replace H := H.1 (b1)
        refine WC.region ?_
        refine WL.y rfl (Yld.pure tab_ok rfl) ?_
        refine WL.y rfl (Yld.pure tab_ok rfl) ?_
        refine WL.call rfl rfl (W_val_Items_List0 k1.rd rfl k2 k3 H) ?_
        rintro _ w4 ⟨hg2, t180, A_t180, c_t180, hs_t180, t181, rfl, ht180, hr_t180, ho2, dj12, H⟩
        have hb1 := ht180.ge'
        have k14 := ht180.base (fun g hg => Nat.le_trans (GrL.sizeL gr1) (hb1 g hg))
        have gr4 := GrL.add0 gr1 hg2
        have k15 := k1.grown hg2
        have k16 := k2.grown hg2
        have k17 := k3.g0 hg2
        have k18 := hB1.g0 hg2
        refine WL.y rfl (Yld.pure tab_ok rfl) ?_
        refine WL.y rfl (Yld.pure tab_ok rfl) ?_
        refine WL.y rfl (Yld.pure tab_ok rfl) ?_
        refine WL.y rfl (Yld.pure tab_ok rfl) ?_
        refine WL.y rfl (Yld.pure tab_ok rfl) ?_
        refine WL.store1 one32 rfl rfl rfl k18 (by simp) (fun w5 hB4 hg3 => ?_)
        have hB3 : Bl w5 g1 130 [.iface 85 (.pointer (some ⟨g_v, 0, none⟩)), .slice A_t180 t180.length c_t180, .int .i64 (0 : Int), .bool false, .bool false] := hB4
        have gr5 : GrL [(some g_v), (blk A_v_l)] w w5 := GrL.mod gr4 hg3 (InP.ge (Ge.le (Ge.box hl1) (Nat.le_refl _)))
        have k19 := k15.go hg3 (Dj.new hv_l.lt' (Ge.box hl1))
        have k20 := k16.go hg3 (hr_v_l.new (Ge.box hl1))
        have k21 := k17.go hg3 (Dj.new hv.lt' (Ge.box hl1))
        have k22 := k14.go hg3 ((Dj.new hB1.lt' hb1).symm)
        have k23 := hr_t180.go hg3 (ho2 _ hB1.lt' (hr_v_l.new (Ge.box hl1)))
        refine WL.nil (WX.block_normal ?_)
        exact WX.weaken (by repeat (first | exact Sub.nil | refine Sub.cons rfl ?_)) (hQ _ _ ⟨t180, A_t180, c_t180, t180.length, hs_t180, rfl, H, rfl, gr5, k19, k20, k21, hB3, k22, k23, (Dj.new k1.lt' hb1), (k2.new hb1), (Dj.new k3.lt' hb1), (Dj.new hB1.lt' hb1), (ho2 _ k1.lt' (hap0 _ (List.Mem.tail _ (List.Mem.head _)))), (ho2 _ k3.lt' (hap0 _ (List.Mem.head _))), (ho2 _ hB1.lt' (hr_v_l.new (Ge.box hl1))), dj12, (fun p_ hp_ q_ => ho2 p_ (fun g_ e_ => Nat.lt_of_lt_of_le (hp_ g_ e_) (GrL.sizeL gr1)) (q_))⟩)
      · replace H := H.2 (b1)
        refine WC.seq ?_
        refine WC.region ?_
        refine WL.y rfl (Yld.pure tab_ok rfl) ?_
        refine WL.y rfl (Yld.pure tab_ok rfl) ?_
        refine WL.nil (WX.then_normal ?_)
        refine WC.cond rfl (fun b2 => ?_) (fun b2 => ?_)
        · replace H := H.1 (of_decide_eq_true b2)
          refine WC.skip (WX.block_normal ?_)
          exact WX.weaken (by repeat (first | exact Sub.nil | refine Sub.cons rfl ?_)) (hQ _ _ ⟨[], none, 0, 0, [], rfl, H, rfl, gr1, k1, k2, k3, hB1, (Own.nil vv w1 w.heap.size 41), (RelD.nil (d := deV) (w := w1)), Dj.nr, (DnD.none k2), Dj.nr, Dj.nr, DnD.nil, DnD.nil, DnD.nil, DnD.nil, (fun p_ hp_ q_ => (DnD.nil (d := deV)))⟩)
        · replace H := H.2 (of_decide_eq_false b2)
          refine WC.seq ?_
          refine WC.quiet mixed (by kernel_rfl) ?_
          obtain ⟨vE1, _, hE1⟩ := GOK.get (hG.goL gr1 hP).ok 3 1 hS3 rfl rfl
          refine WQ.y rfl (Yld.cell tab_ok (ErrR.cell hE1 rfl) rfl rfl) ?_
          refine WQ.y rfl (Yld.pure tab_ok rfl) ?_
          refine WQ.y rfl (Yld.pure tab_ok rfl) ?_
          refine WQ.nil (WX.then_normal ?_)
          refine WC.ret (WX.block_ret (WX.then_ret ?_))
          exact WX.ret2 rfl rfl rfl ⟨gr1, Or.inl ⟨vE1, (Er.e 3), v_l, A_v_l, c_v_l, hs_v_l, v_frozen, v_over, rfl, hE1, k3, k1, (InP.mem (List.Mem.tail _ (List.Mem.head _))), k2, (fun p_ hp_ v0_ => have q_ := v0_; q_), hdj0_1, (hap0 _ (List.Mem.head _)), (hap0 _ (List.Mem.tail _ (List.Mem.head _))), H⟩⟩
    · clear hJ2
      refine WC.seq ?_
      refine WC.region ?_
      refine WL.y rfl (Yld.pure tab_ok rfl) ?_
      refine WL.y rfl (Yld.pure tab_ok rfl) ?_
      refine WL.nil (WX.then_normal ?_)
      refine WC.cond rfl (fun b3 => ?_) (fun b3 => ?_)
      · replace H := H.1 (of_decide_eq_true b3)
        refine WC.skip ?_
        exact WX.weaken (by repeat (first | exact Sub.nil | refine Sub.cons rfl ?_)) (hQ1 _ _ ⟨decide (t9 = (5 : Int)), rfl, H, rfl⟩)
      · replace H := H.2 (of_decide_eq_false b3)
        refine WC.seq ?_
        refine WC.region ?_
        refine WL.y rfl (Yld.pure tab_ok rfl) ?_
        refine WL.y rfl (Yld.pure tab_ok rfl) ?_
        refine WL.nil (WX.then_normal ?_)
        refine WC.cond rfl (fun b4 => ?_) (fun b4 => ?_)
        · replace H := H.1 (of_decide_eq_true b4)
          refine WC.skip ?_
          exact WX.weaken (by repeat (first | exact Sub.nil | refine Sub.cons rfl ?_)) (hQ1 _ _ ⟨decide (t9 = (6 : Int)), rfl, H, rfl⟩)
        · replace H := H.2 (of_decide_eq_false b4)
          refine WC.region ?_
          refine WL.y rfl (Yld.pure tab_ok rfl) ?_
          refine WL.y rfl (Yld.pure tab_ok rfl) ?_
          refine WL.nil ?_
          exact WX.weaken (by repeat (first | exact Sub.nil | refine Sub.cons rfl ?_)) (hQ1 _ _ ⟨decide (t9 = (7 : Int)), rfl, H, rfl⟩)

set_option maxHeartbeats 8000000 in
theorem W_plist_Over_End_List0 {w : World} {g_o : Nat} {g_o_v : Nat} {o_v_l : List PV} {A_o_v_l : Option Addr} {c_o_v_l : Nat} {hs_o_v_l : List VH} {o_v_frozen : Bool} {o_v_over : Int} {o_l : List PV} {A_o_l : Option Addr} {c_o_l : Nat} {hs_o_l : List VH} {o_at : Int} {o_ended : Bool} {o_Paid : Bool} {n_o_v_l : Nat} {n_o_l : Nat} {K : Int → Bool → Bool → (List PV) → Bool → Int → Prop} (ho_v_l : Own vv w 0 41 A_o_v_l c_o_v_l hs_o_v_l) (hn_o_v_l : n_o_v_l = o_v_l.length) (hr_o_v_l : RelD deV w hs_o_v_l o_v_l) (ho_v : Bl w g_o_v 128 [.slice A_o_v_l n_o_v_l c_o_v_l, .bool o_v_frozen, .int .i64 o_v_over]) (ho_l : Rd vv w A_o_l c_o_l hs_o_l) (hn_o_l : n_o_l = o_l.length) (hr_o_l : RelD deV w hs_o_l o_l) (ho : Bl w g_o 130 [.iface 85 (.pointer (some ⟨g_o_v, 0, none⟩)), .slice A_o_l n_o_l c_o_l, .int .i64 o_at, .bool o_ended, .bool o_Paid]) (hdj0_1 : Dj (some g_o) (some g_o_v)) (hdj0_2 : Dj (some g_o) (blk A_o_v_l)) (hdj1_2 : Dj (some g_o_v) (blk A_o_v_l)) (hap0 : AllP (DnD deV hs_o_v_l o_v_l) [(some g_o), (some g_o_v), (blk A_o_v_l)]) (hap1 : AllP (Dn hs_o_l (blk A_o_l)) [(some g_o), (some g_o_v), (blk A_o_v_l)]) (hap2 : AllP (DnD deV hs_o_l o_l) [(some g_o), (some g_o_v), (blk A_o_v_l)]) (H : M_plist_Over_End_List0 o_v_l o_v_frozen o_v_over o_l o_at o_ended o_Paid K) : Fn Tryd.prog 33 ⟨[.pointer (some ⟨g_o, 0, none⟩)]⟩ w (fun v w' => GrL [(some g_o), (some g_o_v), (blk A_o_v_l)] w w' ∧ ∃ (o_at2 : Int), ∃ (o_ended2 : Bool), ∃ (o_Paid2 : Bool), ∃ (o_v_l2 : List PV), ∃ (A_o_v_l2 : Option Addr), ∃ (c_o_v_l2 : Nat), ∃ (hs_o_v_l2 : List VH), ∃ (o_v_frozen2 : Bool), ∃ (o_v_over2 : Int), v = .tuple #[] ∧ Bl w' g_o 130 [.iface 85 (.pointer (some ⟨g_o_v, 0, none⟩)), .slice A_o_l o_l.length c_o_l, .int .i64 o_at2, .bool o_ended2, .bool o_Paid2] ∧ Bl w' g_o_v 128 [.slice A_o_v_l2 o_v_l2.length c_o_v_l2, .bool o_v_frozen2, .int .i64 o_v_over2] ∧ Own vv w' 0 41 A_o_v_l2 c_o_v_l2 hs_o_v_l2 ∧ InP [(some g_o), (some g_o_v), (blk A_o_v_l)] w.heap.size (blk A_o_v_l2) ∧ RelD deV w' hs_o_v_l2 o_v_l2 ∧ (∀ p : Option Nat, Lt p w.heap.size → DnD deV hs_o_v_l o_v_l p → DnD deV hs_o_l o_l p → DnD deV hs_o_v_l2 o_v_l2 p) ∧ Dj (some g_o) (some g_o_v) ∧ Dj (some g_o) (blk A_o_v_l2) ∧ Dj (some g_o_v) (blk A_o_v_l2) ∧ DnD deV hs_o_v_l2 o_v_l2 (some g_o) ∧ DnD deV hs_o_v_l2 o_v_l2 (some g_o_v) ∧ DnD deV hs_o_v_l2 o_v_l2 (blk A_o_v_l2) ∧ K o_at2 o_ended2 o_Paid2 o_v_l2 o_v_frozen2 o_v_over2) := by
  subst hn_o_v_l
  subst hn_o_l
  unfold M_plist_Over_End_List0 at H
  refine Fn.enter (by kernel_rfl) Tryd.func33 rfl Tryd.ntmps33 rfl ?_
  replace H := H (by rw [← hr_o_v_l.1]; exact Nat.le_trans ho_v_l.rd.cap ho_v_l.rd.max)
  replace H := H (by rw [← hr_o_l.1]; exact Nat.le_trans ho_l.cap ho_l.max)
  have hNoAt : AllP (NoAt w) [(some g_o), (some g_o_v), (blk A_o_v_l)] := (apC (NoAt.bl ho rfl) (apC (NoAt.bl ho_v rfl) (apC (NoAt.own ho_v_l rfl) apN)))
  refine WC.seq ?_
  refine WC.region ?_
  refine WL.y rfl (Yld.pure tab_ok rfl) ?_
  refine WL.y rfl (Yld.pure tab_ok rfl) ?_
  refine WL.y rfl (Yld.pure tab_ok rfl) ?_
  refine WL.y rfl (Yld.bload tab_ok ho rfl rfl rfl) ?_
  refine WL.y rfl (Yld.pure tab_ok rfl) ?_
  refine WL.nil (WX.then_normal ?_)
  refine WC.cond rfl (fun b1 => ?_) (fun b1 => ?_)
  · replace H := H.1 (b1)
    refine WC.seq ?_
    refine WC.region ?_
    refine WL.y rfl (Yld.pure tab_ok rfl) ?_
    refine WL.y rfl (Yld.pure tab_ok rfl) ?_
    refine WL.y rfl (Yld.pure tab_ok rfl) ?_
    refine WL.store1 one4 rfl rfl rfl ho (by simp) (fun w1 hB2 hg1 => ?_)
    have hB1 : Bl w1 g_o 130 [.iface 85 (.pointer (some ⟨g_o_v, 0, none⟩)), .slice A_o_l o_l.length c_o_l, .int .i64 o_at, .bool true, .bool o_Paid] := hB2
    have gr1 : GrL [(some g_o), (some g_o_v), (blk A_o_v_l)] w w1 := GrL.mod (GrL.refl _) hg1 (InP.mem (List.Mem.head _))
    have k1 := ho_v_l.go hg1 hdj0_2.symm
    have k2 := hr_o_v_l.go hg1 (hap0 _ (List.Mem.head _))
    have k3 := ho_v.go hg1 hdj0_1.symm
    refine WL.nil (WX.then_normal ?_)
    refine WC.region ?_
    refine WL.y rfl (Yld.pure tab_ok rfl) ?_
    refine WL.y rfl (Yld.pure tab_ok rfl) ?_
    refine WL.y rfl (Yld.pure tab_ok rfl) ?_
    refine WL.y rfl (Yld.bload tab_ok hB1 rfl rfl rfl) ?_
    refine WL.call rfl rfl (W_val_Hold_List0 k1 rfl k2 k3 hdj1_2 (apC (hap0 _ (List.Mem.tail _ (List.Mem.head _))) (apC (hap0 _ (List.Mem.tail _ (List.Mem.tail _ (List.Mem.head _)))) apN)) H) ?_
    rintro _ w2 ⟨hgl1, o_v_, A_o_v_, c_o_v_, hs_o_v_, o_v_2, o_v_3, rfl, hB3, hO1, hi1, hr1, ho1, dj1, dj2, dj3, H⟩
    have hi2 : InP [(some g_o), (some g_o_v), (blk A_o_v_l)] w.heap.size (blk A_o_v_) := InP.trans hi1 (apC (InP.mem (List.Mem.tail _ (List.Mem.head _))) (apC (InP.mem (List.Mem.tail _ (List.Mem.tail _ (List.Mem.head _)))) apN)) (GrL.sizeL gr1)
    have gr2 : GrL [(some g_o), (some g_o_v), (blk A_o_v_l)] w w2 := GrL.modL gr1 hgl1 (apC (InP.mem (List.Mem.tail _ (List.Mem.head _))) (apC (InP.mem (List.Mem.tail _ (List.Mem.tail _ (List.Mem.head _)))) apN))
    have k4 := k2.goL hgl1 (apC (hap0 _ (List.Mem.tail _ (List.Mem.head _))) (apC (hap0 _ (List.Mem.tail _ (List.Mem.tail _ (List.Mem.head _)))) apN))
    have k5 := hB1.goL hgl1 (apC hdj0_1 (apC hdj0_2 apN))
    refine WL.nil ?_
    exact WX.end0 rfl ⟨gr2, o_at, true, o_Paid, o_v_, A_o_v_, c_o_v_, hs_o_v_, o_v_2, o_v_3, rfl, k5, hB3, hO1, hi2, hr1, (fun p_ hp_ v0_ v1_ => have q_ := And.intro v0_ v1_; ho1 p_ (fun g_ e_ => Nat.lt_of_lt_of_le (hp_ g_ e_) (GrL.sizeL gr1)) (q_.1)), hdj0_1, (InP.dj hi1 hB1.lt' (apC hdj0_1 (apC hdj0_2 apN))).symm, dj1, (ho1 _ hB1.lt' (hap0 _ (List.Mem.head _))), dj2, dj3, H⟩
  · replace H := H.2 (b1)
    refine WC.skip ?_
    exact WX.end0 rfl ⟨(GrL.refl _), o_at, o_ended, o_Paid, o_v_l, A_o_v_l, c_o_v_l, hs_o_v_l, o_v_frozen, o_v_over, rfl, ho, ho_v, ho_v_l, (InP.mem (List.Mem.tail _ (List.Mem.tail _ (List.Mem.head _)))), hr_o_v_l, (fun p_ hp_ v0_ v1_ => have q_ := And.intro v0_ v1_; q_.1), hdj0_1, hdj0_2, hdj1_2, (hap0 _ (List.Mem.head _)), (hap0 _ (List.Mem.tail _ (List.Mem.head _))), (hap0 _ (List.Mem.tail _ (List.Mem.tail _ (List.Mem.head _)))), H⟩

set_option maxHeartbeats 8000000 in
theorem W_list_Extend {S : List Nat} {B : Nat} {w : World} {g_l : Nat} {l_l : List PV} {A_l_l : Option Addr} {c_l_l : Nat} {hs_l_l : List VH} {l_frozen : Bool} {l_over : Int} {x : List PV} {A_x : Option Addr} {c_x : Nat} {hs_x : List VH} {n_l_l : Nat} {n_x : Nat} {K : Er → (List PV) → Bool → Int → Prop} (hG : GB S B w) (hB : B ≤ w.heap.size) (hP : AllP (fun p => Ge p B) [(some g_l), (blk A_l_l)]) (hS3 : 3 ∈ S) (hS7 : 7 ∈ S) (hl_l : Own vv w 0 41 A_l_l c_l_l hs_l_l) (hn_l_l : n_l_l = l_l.length) (hr_l_l : RelD deV w hs_l_l l_l) (hl : Bl w g_l 128 [.slice A_l_l n_l_l c_l_l, .bool l_frozen, .int .i64 l_over]) (hx : Rd vv w A_x c_x hs_x) (hn_x : n_x = x.length) (hr_x : RelD deV w hs_x x) (hdj0_1 : Dj (some g_l) (blk A_l_l)) (hap0 : AllP (DnD deV hs_l_l l_l) [(some g_l), (blk A_l_l)]) (hap1 : AllP (Dn hs_x (blk A_x)) [(some g_l), (blk A_l_l)]) (hap2 : AllP (DnD deV hs_x x) [(some g_l), (blk A_l_l)]) (H : M_list_Extend l_l l_frozen l_over x K) : Fn Tryd.prog 56 ⟨[.pointer (some ⟨g_l, 0, none⟩), .slice A_x n_x c_x]⟩ w (fun v w' => GrL [(some g_l), (blk A_l_l)] w w' ∧ ∃ (v_r : Value), ∃ (r : Er), ∃ (l_l2 : List PV), ∃ (A_l_l2 : Option Addr), ∃ (c_l_l2 : Nat), ∃ (hs_l_l2 : List VH), ∃ (l_frozen2 : Bool), ∃ (l_over2 : Int), v = v_r ∧ ErrR S w' v_r r ∧ Bl w' g_l 128 [.slice A_l_l2 l_l2.length c_l_l2, .bool l_frozen2, .int .i64 l_over2] ∧ Own vv w' 0 41 A_l_l2 c_l_l2 hs_l_l2 ∧ InP [(some g_l), (blk A_l_l)] w.heap.size (blk A_l_l2) ∧ RelD deV w' hs_l_l2 l_l2 ∧ (∀ p : Option Nat, Lt p w.heap.size → DnD deV hs_l_l l_l p → DnD deV hs_x x p → DnD deV hs_l_l2 l_l2 p) ∧ Dj (some g_l) (blk A_l_l2) ∧ DnD deV hs_l_l2 l_l2 (some g_l) ∧ DnD deV hs_l_l2 l_l2 (blk A_l_l2) ∧ K r l_l2 l_frozen2 l_over2) := by
  subst hn_l_l
  subst hn_x
  unfold M_list_Extend at H
  refine Fn.enter (by kernel_rfl) Tryd.func56 rfl Tryd.ntmps56 rfl ?_
  replace H := H (by rw [← hr_l_l.1]; exact Nat.le_trans hl_l.rd.cap hl_l.rd.max)
  replace H := H (by rw [← hr_x.1]; exact Nat.le_trans hx.cap hx.max)
  have hNoAt : AllP (NoAt w) [(some g_l), (blk A_l_l)] := (apC (NoAt.bl hl rfl) (apC (NoAt.own hl_l rfl) apN))
  refine WC.seq ?_
  refine WC.region ?_
  refine WL.y rfl (Yld.pure tab_ok rfl) ?_
  refine WL.nil (WX.then_normal ?_)
  refine WC.seq ?_
  refine WC.seq ?_
  refine WC.region ?_
  refine WL.y rfl (Yld.pure tab_ok rfl) ?_
  refine WL.call rfl rfl (W_pval_List_Loose hl_l.rd rfl hr_l_l hl H) ?_
  rintro _ _ ⟨rfl, t6, rfl, H⟩
  refine WL.y rfl (Yld.pure tab_ok rfl) ?_
  refine WL.nil (WX.then_normal ?_)
  refine WC.cond rfl (fun b1 => ?_) (fun b1 => ?_)
  · replace H := H.1 (b1)
    refine WC.seq ?_
    refine WC.region ?_
    obtain ⟨vE1, _, hE1⟩ := GOK.get hG.ok 3 1 hS3 rfl rfl
    refine WL.y rfl (Yld.cell tab_ok (ErrR.cell hE1 rfl) rfl rfl) ?_
    refine WL.y rfl (Yld.pure tab_ok rfl) ?_
    refine WL.nil (WX.then_normal ?_)
    refine WC.ret (WX.then_ret ?_)
    exact WX.ret1 rfl rfl ⟨(GrL.refl _), vE1, (Er.e 3), l_l, A_l_l, c_l_l, hs_l_l, l_frozen, l_over, rfl, hE1, hl, hl_l, (InP.mem (List.Mem.tail _ (List.Mem.head _))), hr_l_l, (fun p_ hp_ v0_ v1_ => have q_ := And.intro v0_ v1_; q_.1), hdj0_1, (hap0 _ (List.Mem.head _)), (hap0 _ (List.Mem.tail _ (List.Mem.head _))), H⟩
  · replace H := H.2 (b1)
    refine WC.skip (WX.then_normal ?_)
    refine WC.seq ?_
    refine WC.seq ?_
    refine WC.region ?_
    refine WL.y rfl (Yld.pure tab_ok rfl) ?_
    refine WL.y rfl (Yld.pure tab_ok rfl) ?_
    refine WL.y rfl (Yld.pure tab_ok rfl) ?_
    refine WL.call rfl rfl (W_pval_List_Len hl_l.rd rfl hr_l_l hl H) ?_
    rintro _ _ ⟨rfl, t12, rfl, H⟩
    obtain ⟨h1, H⟩ := H
    refine WL.y rfl (Yld.sub rfl rfl h1) ?_
    refine WL.y rfl (Yld.pure tab_ok rfl) ?_
    refine WL.nil (WX.then_normal ?_)
    refine WC.cond rfl (fun b2 => ?_) (fun b2 => ?_)
    · replace H := H.1 (of_decide_eq_true b2)
      refine WC.seq ?_
      refine WC.region ?_
      obtain ⟨vE2, _, hE2⟩ := GOK.get hG.ok 7 0 hS7 rfl rfl
      refine WL.y rfl (Yld.cell tab_ok (ErrR.cell hE2 rfl) rfl rfl) ?_
      refine WL.y rfl (Yld.pure tab_ok rfl) ?_
      refine WL.nil (WX.then_normal ?_)
      refine WC.ret (WX.then_ret ?_)
      exact WX.ret1 rfl rfl ⟨(GrL.refl _), vE2, (Er.e 7), l_l, A_l_l, c_l_l, hs_l_l, l_frozen, l_over, rfl, hE2, hl, hl_l, (InP.mem (List.Mem.tail _ (List.Mem.head _))), hr_l_l, (fun p_ hp_ v0_ v1_ => have q_ := And.intro v0_ v1_; q_.1), hdj0_1, (hap0 _ (List.Mem.head _)), (hap0 _ (List.Mem.tail _ (List.Mem.head _))), H⟩
    · replace H := H.2 (of_decide_eq_false b2)
      refine WC.skip (WX.then_normal ?_)
      refine WC.seq ?_
      refine WC.region ?_
      refine WL.y rfl (Yld.pure tab_ok rfl) ?_
      refine WL.y rfl (Yld.pure tab_ok rfl) ?_
      refine WL.call rfl rfl (W_pval_List_Add hl_l rfl hr_l_l hl hx rfl hr_x hdj0_1 (apC (hap0 _ (List.Mem.head _)) (apC (hap0 _ (List.Mem.tail _ (List.Mem.head _))) apN)) (apC (InP.dn (InP.mem (List.Mem.head _)) (fun hx_ => hx.lt' hx_) hap1) (apC (InP.dn (InP.mem (List.Mem.tail _ (List.Mem.head _))) (fun hx_ => hx.lt' hx_) hap1) apN)) (apC (hr_x.inp hap2 (InP.mem (List.Mem.head _))) (apC (hr_x.inp hap2 (InP.mem (List.Mem.tail _ (List.Mem.head _)))) apN)) H) ?_
      rintro _ w1 ⟨hgl1, l_, A_l_, c_l_, hs_l_, l_2, l_3, rfl, hB1, hO1, hi1, hr1, ho1, dj1, dj2, dj3, H⟩
      have hi2 : InP [(some g_l), (blk A_l_l)] w.heap.size (blk A_l_) := InP.trans hi1 (apC (InP.mem (List.Mem.head _)) (apC (InP.mem (List.Mem.tail _ (List.Mem.head _))) apN)) (Nat.le_refl _)
      have gr1 : GrL [(some g_l), (blk A_l_l)] w w1 := GrL.modL (GrL.refl _) hgl1 (apC (InP.mem (List.Mem.head _)) (apC (InP.mem (List.Mem.tail _ (List.Mem.head _))) apN))
      have k1 := hr_l_l.goL hgl1 (apC (hap0 _ (List.Mem.head _)) (apC (hap0 _ (List.Mem.tail _ (List.Mem.head _))) apN))
      refine WL.nil (WX.then_normal ?_)
      refine WC.seq ?_
      refine WC.region ?_
      refine WL.y rfl (Yld.pure tab_ok rfl) ?_
      refine WL.nil (WX.then_normal ?_)
      refine WC.ret ?_
      exact WX.ret1 rfl rfl ⟨gr1, .nilIface, Er.ok, l_, A_l_, c_l_, hs_l_, l_2, l_3, rfl, (ErrR.okR (S := S) (w := w1)), hB1, hO1, hi2, hr1, (fun p_ hp_ v0_ v1_ => have q_ := And.intro v0_ v1_; ho1 p_ (fun g_ e_ => Nat.lt_of_lt_of_le (hp_ g_ e_) (Nat.le_refl _)) (q_.1) (q_.2)), dj1, dj2, dj3, H⟩

set_option maxHeartbeats 8000000 in
theorem W_list_Append {S : List Nat} {B : Nat} {w : World} {g_l : Nat} {l_l : List PV} {A_l_l : Option Addr} {c_l_l : Nat} {hs_l_l : List VH} {l_frozen : Bool} {l_over : Int} {v_x : OV} {F_x : Nat → Prop} {x : PV} {n_l_l : Nat} {K : Er → (List PV) → Bool → Int → Prop} (hG : GB S B w) (hB : B ≤ w.heap.size) (hP : AllP (fun p => Ge p B) [(some g_l), (blk A_l_l)]) (hS3 : 3 ∈ S) (hS7 : 7 ∈ S) (hl_l : Own vv w 0 41 A_l_l c_l_l hs_l_l) (hn_l_l : n_l_l = l_l.length) (hr_l_l : RelD deV w hs_l_l l_l) (hl : Bl w g_l 128 [.slice A_l_l n_l_l c_l_l, .bool l_frozen, .int .i64 l_over]) (hx : RelD deV w [(v_x, F_x)] [x]) (hdj0_1 : Dj (some g_l) (blk A_l_l)) (hap0 : AllP (DnD deV hs_l_l l_l) [(some g_l), (blk A_l_l)]) (hap1 : AllP (DnD deV [(v_x, F_x)] [x]) [(some g_l), (blk A_l_l)]) (H : M_list_Append l_l l_frozen l_over x K) : Fn Tryd.prog 32 ⟨[.pointer (some ⟨g_l, 0, none⟩), v_x.1]⟩ w (fun v w' => GrL [(some g_l), (blk A_l_l)] w w' ∧ ∃ (v_r : Value), ∃ (r : Er), ∃ (l_l2 : List PV), ∃ (A_l_l2 : Option Addr), ∃ (c_l_l2 : Nat), ∃ (hs_l_l2 : List VH), ∃ (l_frozen2 : Bool), ∃ (l_over2 : Int), v = v_r ∧ ErrR S w' v_r r ∧ Bl w' g_l 128 [.slice A_l_l2 l_l2.length c_l_l2, .bool l_frozen2, .int .i64 l_over2] ∧ Own vv w' 0 41 A_l_l2 c_l_l2 hs_l_l2 ∧ InP [(some g_l), (blk A_l_l)] w.heap.size (blk A_l_l2) ∧ RelD deV w' hs_l_l2 l_l2 ∧ (∀ p : Option Nat, Lt p w.heap.size → DnD deV hs_l_l l_l p → DnD deV [(v_x, F_x)] [x] p → DnD deV hs_l_l2 l_l2 p) ∧ Dj (some g_l) (blk A_l_l2) ∧ DnD deV hs_l_l2 l_l2 (some g_l) ∧ DnD deV hs_l_l2 l_l2 (blk A_l_l2) ∧ K r l_l2 l_frozen2 l_over2) := by
  subst hn_l_l
  unfold M_list_Append at H
  refine Fn.enter (by kernel_rfl) Tryd.func32 rfl Tryd.ntmps32 rfl ?_
  replace H := H (by rw [← hr_l_l.1]; exact Nat.le_trans hl_l.rd.cap hl_l.rd.max)
  have hNoAt : AllP (NoAt w) [(some g_l), (blk A_l_l)] := (apC (NoAt.bl hl rfl) (apC (NoAt.own hl_l rfl) apN))
  refine WC.seq ?_
  refine WC.region ?_
  refine WL.y rfl (Yld.pure tab_ok rfl) ?_
  refine WL.nil (WX.then_normal ?_)
  refine WC.seq ?_
  refine WC.region ?_
  refine WL.y rfl (Yld.pure tab_ok rfl) ?_
  refine WL.y rfl (Yld.pure tab_ok rfl) ?_
  refine WL.lit (us := [v_x.1]) tab_ok rfl rfl rfl (all1c v_x.2 all1n) rfl (by omega) (fun g2 w2 hB2 hg2 hl2 => ?_)
  have hO2 : Own vv w2 w.heap.size 41 (some ⟨g2, 0, none⟩) 1 ([(v_x, F_x)] : List VH) := Own.ofBl hB2 (Nat.le_trans (Nat.le_refl _) hl2) (by simp [maxLen]) rfl
  have gr1 := (GrL.of0 (ps := [(some g_l), (blk A_l_l)]) hg2)
  have k1 := hl_l.grown hg2
  have k2 := hr_l_l.grown hg2
  have k3 := hl.g0 hg2
  have hr1 : RelD deV w2 ([(v_x, F_x)] : List VH) ([x] : List PV) := (RelD.cons (RelD.one (hx.goL gr1 hap1)) RelD.nil)
  have nd1 : OrD (fun p => DnD deV hs_l_l l_l p ∧ DnD deV [(v_x, F_x)] [x] p) deV ([(v_x, F_x)] : List VH) ([x] : List PV) w.heap.size := (OrD.cons (d := deV) (fun p_ hp_ q_ => (DnD.one (q_.2))) (fun _ _ _ => DnD.nil))
  have dj1 : DnD deV ([(v_x, F_x)] : List VH) ([x] : List PV) (blk A_l_l) := (DnD.cons (d := deV) (DnD.one (hx.inp hap1 (InP.mem (List.Mem.tail _ (List.Mem.head _))))) DnD.nil)
  have dj2 : DnD deV ([(v_x, F_x)] : List VH) ([x] : List PV) (some g_l) := (DnD.cons (d := deV) (DnD.one (hx.inp hap1 (InP.mem (List.Mem.head _)))) DnD.nil)
  have dj3 : DnD deV ([(v_x, F_x)] : List VH) ([x] : List PV) (blk (some ⟨g2, 0, none⟩)) := (DnD.cons (d := deV) (DnD.one (hx.inp hap1 (InP.ge hO2.ge'))) DnD.nil)
  refine WL.call rfl rfl (W_list_Extend (hG.goL gr1 hP) (Nat.le_trans hB (GrL.sizeL gr1)) (apC (InP.toGe (InP.mem (List.Mem.head _)) hP hB) (apC (InP.toGe (InP.mem (List.Mem.tail _ (List.Mem.head _))) hP hB) apN)) hS3 hS7 k1 rfl k2 k3 hO2.rd (rfl.trans hr1.1) hr1 hdj0_1 (apC (hap0 _ (List.Mem.head _)) (apC (hap0 _ (List.Mem.tail _ (List.Mem.head _))) apN)) (apC (Dn.of (Dj.new hl.lt' (Ge.box hl2)).symm) (apC (Dn.of (Dj.new hl_l.lt' (Ge.box hl2)).symm) apN)) (apC dj2 (apC dj1 apN)) H) ?_
  rintro v_t4 w3 ⟨hgl1, _, t4, l_, A_l_, c_l_, hs_l_, l_2, l_3, rfl, ht4, hB3, hO3, hi1, hr2, ho1, dj4, dj5, dj6, H⟩
  have hi2 : InP [(some g_l), (blk A_l_l)] w.heap.size (blk A_l_) := InP.trans hi1 (apC (InP.mem (List.Mem.head _)) (apC (InP.mem (List.Mem.tail _ (List.Mem.head _))) apN)) (GrL.sizeL gr1)
  have gr2 : GrL [(some g_l), (blk A_l_l)] w w3 := GrL.modL gr1 hgl1 (apC (InP.mem (List.Mem.head _)) (apC (InP.mem (List.Mem.tail _ (List.Mem.head _))) apN))
  have k4 := k2.goL hgl1 (apC (hap0 _ (List.Mem.head _)) (apC (hap0 _ (List.Mem.tail _ (List.Mem.head _))) apN))
  refine WL.y rfl (Yld.pure tab_ok rfl) ?_
  refine WL.nil (WX.then_normal ?_)
  refine WC.ret ?_
  exact WX.ret1 rfl rfl ⟨gr2, v_t4, t4, l_, A_l_, c_l_, hs_l_, l_2, l_3, rfl, ht4, hB3, hO3, hi2, hr2, (fun p_ hp_ v0_ v1_ => have q_ := And.intro v0_ v1_; ho1 p_ (fun g_ e_ => Nat.lt_of_lt_of_le (hp_ g_ e_) (GrL.sizeL gr1)) (q_.1) (nd1 p_ hp_ q_)), dj4, dj5, dj6, H⟩

set_option maxHeartbeats 8000000 in
theorem W_smithylaw12_first {S : List Nat} {w : World} {K : Bool → Prop} (hG : GOK S w) (hS0 : 0 ∈ S) (hS1 : 1 ∈ S) (hS2 : 2 ∈ S) (hS3 : 3 ∈ S) (hS4 : 4 ∈ S) (hS5 : 5 ∈ S) (hS6 : 6 ∈ S) (hS7 : 7 ∈ S) (hS8 : 8 ∈ S) (hS9 : 9 ∈ S) (hS10 : 10 ∈ S) (hS11 : 11 ∈ S) (hS12 : 12 ∈ S) (hS13 : 13 ∈ S) (hS14 : 14 ∈ S) (hS15 : 15 ∈ S) (hS16 : 16 ∈ S) (H : M_smithylaw12_first  K) : Fn Tryd.prog 14 ⟨[]⟩ w (fun v w' => w.grownBy w' none ∧ ∃ (r : Bool), v = .bool r ∧ K r) := by
  unfold M_smithylaw12_first at H
  refine Fn.enter (by kernel_rfl) Tryd.func14 rfl Tryd.ntmps14 rfl ?_
  refine WC.seq ?_
  refine WC.region ?_
  refine WL.y rfl (Yld.pure tab_ok rfl) ?_
  refine WL.nil (WX.then_normal ?_)
  refine WC.seq ?_
  refine WC.region ?_
  refine WL.call rfl rfl (W_smithylaw12_small H) ?_
  rintro _ w1 ⟨hg1, v_t8, F_t8, t8, rfl, ht8, ho1, H⟩
  have gr1 := hg1
  refine WL.call rfl rfl (W_smithylaw12_small H) ?_
  rintro _ w2 ⟨hg2, v_t9, F_t9, t9, rfl, ht9, ho2, H⟩
  have gr2 := gr_trans gr1 hg2
  have k1 := ht8.grown hg2
  refine WL.call rfl rfl (W_smithylaw12_small H) ?_
  rintro _ w3 ⟨hg3, v_t10, F_t10, t10, rfl, ht10, ho3, H⟩
  have gr3 := gr_trans gr2 hg3
  have k2 := k1.grown hg3
  have k3 := ht9.grown hg3
  refine WL.lit (us := [v_t8.1, v_t9.1, v_t10.1]) tab_ok rfl rfl rfl (all1c v_t8.2 (all1c v_t9.2 (all1c v_t10.2 all1n))) rfl (by omega) (fun g2 w5 hB2 hg5 hl2 => ?_)
  have hO2 : Own vv w5 w.heap.size 41 (some ⟨g2, 0, none⟩) 3 ([(v_t8, F_t8), (v_t9, F_t9), (v_t10, F_t10)] : List VH) := Own.ofBl hB2 (Nat.le_trans (size_le gr3) hl2) (by simp [maxLen]) rfl
  have gr4 := gr_trans gr3 hg5
  have k4 := k2.grown hg5
  have k5 := k3.grown hg5
  have k6 := ht10.grown hg5
  have hr1 : RelD deV w5 ([(v_t8, F_t8), (v_t9, F_t9), (v_t10, F_t10)] : List VH) ([t8, t9, t10] : List PV) := (RelD.cons (RelD.one k4) (RelD.cons (RelD.one k5) (RelD.cons (RelD.one k6) RelD.nil)))
  have nd1 : NewD deV ([(v_t8, F_t8), (v_t9, F_t9), (v_t10, F_t10)] : List VH) ([t8, t9, t10] : List PV) w.heap.size := (NewD.cons (d := deV) (fun p_ hp_ => (DnD.one (ho1 p_ (fun g_ e_ => Nat.lt_of_lt_of_le (hp_ g_ e_) (Nat.le_refl _))))) (NewD.cons (d := deV) (fun p_ hp_ => (DnD.one (ho2 p_ (fun g_ e_ => Nat.lt_of_lt_of_le (hp_ g_ e_) (size_le gr1))))) (NewD.cons (d := deV) (fun p_ hp_ => (DnD.one (ho3 p_ (fun g_ e_ => Nat.lt_of_lt_of_le (hp_ g_ e_) (size_le gr2))))) NewD.nil)))
  have dj1 : DnD deV ([(v_t8, F_t8), (v_t9, F_t9), (v_t10, F_t10)] : List VH) ([t8, t9, t10] : List PV) (blk (some ⟨g2, 0, none⟩)) := (DnD.cons (d := deV) (DnD.one (k2.new (Ge.box hl2))) (DnD.cons (d := deV) (DnD.one (k3.new (Ge.box hl2))) (DnD.cons (d := deV) (DnD.one (ht10.new (Ge.box hl2))) DnD.nil)))
  refine WL.call rfl rfl (W_list_Sorted (hG.grown gr4) hS3 hS7 hO2.rd (rfl.trans hr1.1) hr1 H) ?_
  rintro _ w6 ⟨hg6, t120, A_t120, c_t120, hs_t120, v_t121, t121, rfl, ht120, hr_t120, ho4, dj2, ht121, H⟩
  have hb1 := ht120.ge'
  have k7 := ht120.base (fun g hg => Nat.le_trans (size_le gr4) (hb1 g hg))
  have gr5 := gr_trans gr4 hg6
  refine WL.y rfl (Yld.pure tab_ok rfl) ?_
  refine WL.y rfl (Yld.pure tab_ok rfl) ?_
  refine WL.y rfl (Yld.pure tab_ok rfl) ?_
  refine WL.y rfl (Yld.pure tab_ok rfl) ?_
  refine WL.y rfl (Yld.pure tab_ok rfl) ?_
  refine WL.nil (WX.then_normal ?_)
  refine WC.seq ?_
  refine WC.seq ?_
  refine WC.region ?_
  refine WL.y rfl (Yld.pure tab_ok rfl) ?_
  refine WL.y rfl (Yld.errneq Tryd.underlying34 ht121 rfl) ?_
  refine WL.y rfl (Yld.pure tab_ok rfl) ?_
  refine WL.midF 4 (fun L' w' => ∃ q1 : Bool, L' = [(21, .bool q1), (1, .slice A_t120 t120.length c_t120)] ∧ ((!decide (t121 = Er.ok)) || (!decide ((t120.length : Int) = (3 : Int)))) = q1 ∧ w6 = w') ?_ (fun hQ => ?_)
  · rintro _ _ ⟨q1, rfl, rfl, rfl⟩
    refine WL.y rfl (Yld.pure tab_ok rfl) ?_
    obtain ⟨J1, H, hJ1⟩ := H
    refine WL.midF 6 (fun L' w' => ∃ q2 : Bool, L' = [(28, .bool q2), (1, .slice A_t120 t120.length c_t120)] ∧ J1 q2 ∧ w.grownBy w' none ∧ Own vv w' w.heap.size 41 A_t120 c_t120 hs_t120 ∧ RelD deV w' hs_t120 t120) ?_ (fun hQ => ?_)
    · clear H
      rintro _ w7 ⟨q2, rfl, H, gr6, k8, k9⟩
      replace H := hJ1 q2 H
      refine WL.y rfl (Yld.pure tab_ok rfl) ?_
      obtain ⟨J2, H, hJ2⟩ := H
      refine WL.midF 6 (fun L' w' => ∃ q3 : Bool, L' = [(35, .bool q3)] ∧ J2 q3 ∧ w.grownBy w' none) ?_ (fun hQ => ?_)
      · clear H
        rintro _ w8 ⟨q3, rfl, H, gr7⟩
        replace H := hJ2 q3 H
        refine WL.nil (WX.then_normal ?_)
        refine WC.cond rfl (fun b1 => ?_) (fun b1 => ?_)
        · replace H := H.1 (b1)
          refine WC.seq ?_
          refine WC.region ?_
          refine WL.y rfl (Yld.pure tab_ok rfl) ?_
          refine WL.nil (WX.then_normal ?_)
          refine WC.ret (WX.then_ret ?_)
          exact WX.ret1 rfl rfl ⟨gr7, false, rfl, H⟩
        · replace H := H.2 (b1)
          refine WC.skip (WX.then_normal ?_)
          refine WC.seq ?_
          refine WC.region ?_
          refine WL.call rfl rfl (W_smithylaw12_small H) ?_
          rintro _ w9 ⟨hg7, v_t36, F_t36, t36, rfl, ht36, ho5, H⟩
          have gr8 := gr_trans gr7 hg7
          refine WL.lit (us := [v_t36.1]) tab_ok rfl rfl rfl (all1c v_t36.2 all1n) rfl (by omega) (fun g4 w11 hB4 hg9 hl4 => ?_)
          have hO4 : Own vv w11 w.heap.size 41 (some ⟨g4, 0, none⟩) 1 ([(v_t36, F_t36)] : List VH) := Own.ofBl hB4 (Nat.le_trans (size_le gr8) hl4) (by simp [maxLen]) rfl
          have gr9 := gr_trans gr8 hg9
          have k10 := ht36.grown hg9
          have hr2 : RelD deV w11 ([(v_t36, F_t36)] : List VH) ([t36] : List PV) := (RelD.cons (RelD.one k10) RelD.nil)
          have nd2 : NewD deV ([(v_t36, F_t36)] : List VH) ([t36] : List PV) w.heap.size := (NewD.cons (d := deV) (fun p_ hp_ => (DnD.one (ho5 p_ (fun g_ e_ => Nat.lt_of_lt_of_le (hp_ g_ e_) (size_le gr7))))) NewD.nil)
          have dj3 : DnD deV ([(v_t36, F_t36)] : List VH) ([t36] : List PV) (blk (some ⟨g4, 0, none⟩)) := (DnD.cons (d := deV) (DnD.one (ht36.new (Ge.box hl4))) DnD.nil)
          refine WL.call rfl rfl (W_val_NewList hO4.rd (rfl.trans hr2.1) hr2 H) ?_
          rintro v_ w12 ⟨hg_, hc_ | hc_⟩
          · obtain ⟨rfl, H⟩ := hc_
            have hg10 := hg_
            have gr10 := gr_trans gr9 hg10
            refine WL.y rfl (Yld.pure tab_ok rfl) ?_
            refine WL.nil (WX.then_normal ?_)
            refine WC.seq ?_
            refine WC.seq ?_
            refine WC.region ?_
            refine WL.y rfl (Yld.pure tab_ok rfl) ?_
            refine WL.y rfl (Yld.peqnil Tryd.underlying85 rfl rfl) ?_
            refine WL.nil (WX.then_normal ?_)
            refine WC.cond rfl (fun _ => ?_) (fun h => by cases h)
            refine WC.seq ?_
            refine WC.region ?_
            refine WL.y rfl (Yld.pure tab_ok rfl) ?_
            refine WL.nil (WX.then_normal ?_)
            refine WC.ret (WX.then_ret ?_)
            exact WX.ret1 rfl rfl ⟨gr10, false, rfl, H⟩
          · obtain ⟨g_a, a_l, A_a_l, c_a_l, hs_a_l, a_frozen, a_over, rfl, ha_l, hr_a_l, ho6, dj4, ha, hge1, dj5, dj6, dj7, H⟩ := hc_
            have hg11 := hg_
            have hb2 := ha_l.ge'
            have k11 := ha_l.base (fun g hg => Nat.le_trans (size_le gr9) (hb2 g hg))
            have gr11 := gr_trans gr9 hg11
            refine WL.y rfl (Yld.pure tab_ok rfl) ?_
            refine WL.nil (WX.then_normal ?_)
            refine WC.seq ?_
            refine WC.seq ?_
            refine WC.region ?_
            refine WL.y rfl (Yld.pure tab_ok rfl) ?_
            refine WL.y rfl (Yld.peqnil Tryd.underlying85 rfl rfl) ?_
            refine WL.nil (WX.then_normal ?_)
            refine WC.cond rfl (fun h => by cases h) (fun _ => ?_)
            refine WC.skip (WX.then_normal ?_)
            refine WC.seq ?_
            refine WC.region ?_
            refine WL.y rfl (Yld.pure tab_ok rfl) ?_
            refine WL.y rfl (Yld.mki Tryd.underlying85 rfl rfl) ?_
            refine WL.call rfl rfl (W_list_Each_List0 (GB.grown hG gr11) (size_le gr11) (apC (Ge.le hge1 (size_le gr9)) (apC k11.ge' apN)) hS3 (k11.base (fun _ _ => Nat.zero_le _)) rfl hr_a_l ha dj7.symm (apC dj6 (apC dj5 apN)) H) ?_
            rintro v_ w15 ⟨hg_, hc_ | hc_⟩
            · obtain ⟨v_t441, t441, a_, A_a_, c_a_, hs_a_, a_2, a_3, rfl, ht441, hB5, hO5, hi1, hr3, ho7, dj8, dj9, dj10, H⟩ := hc_
              have hgl1 := hg_
              have hO6 := hO5.base (InP.toGe hi1 (apC (Ge.le hge1 (size_le gr9)) (apC k11.ge' apN)) (size_le gr11))
              have gr12 := gr_modL gr11 hgl1 (apC (Ge.le hge1 (size_le gr9)) (apC k11.ge' apN))
              have k12 := hr_a_l.goL hgl1 (apC dj6 (apC dj5 apN))
              refine WL.y rfl (Yld.pure tab_ok rfl) ?_
              refine WL.y rfl (Yld.pure tab_ok rfl) ?_
              refine WL.y rfl (Yld.pure tab_ok rfl) ?_
              refine WL.y rfl (Yld.pure tab_ok rfl) ?_
              refine WL.y rfl (Yld.pure tab_ok rfl) ?_
              refine WL.nil (WX.then_normal ?_)
              refine WC.seq ?_
              refine WC.seq ?_
              refine WC.region ?_
              refine WL.y rfl (Yld.pure tab_ok rfl) ?_
              refine WL.y rfl (Yld.peqnil Tryd.underlying87 rfl rfl) ?_
              refine WL.y rfl (Yld.pure tab_ok rfl) ?_
              refine WL.midF 3 (fun L' w' => ∃ q4 : Bool, L' = [(52, .bool q4), (3, .pointer (some ⟨g_a, 0, none⟩)), (4, .pointer none)] ∧ true = q4 ∧ w15 = w') ?_ (fun hQ => ?_)
              · rintro _ _ ⟨q4, rfl, rfl, rfl⟩
                refine WL.nil (WX.then_normal ?_)
                refine WC.cond rfl (fun _ => ?_) (fun h => by cases h)
                refine WC.seq ?_
                refine WC.region ?_
                refine WL.y rfl (Yld.pure tab_ok rfl) ?_
                refine WL.nil (WX.then_normal ?_)
                refine WC.ret (WX.then_ret ?_)
                exact WX.ret1 rfl rfl ⟨gr12, false, rfl, H⟩
              · clear H
                refine WL.gno rfl rfl (rfl) rfl ?_
                refine WL.gno rfl rfl (rfl) rfl ?_
                refine WL.y rfl (Yld.pickT (rfl) rfl) ?_
                exact WL.weaken (by repeat (first | exact Sub.nil | refine Sub.cons rfl ?_)) (hQ _ _ ⟨true, rfl, rfl, rfl⟩)
            · obtain ⟨g_t440, t440_l, A_t440_l, c_t440_l, hs_t440_l, t440_at, t440_ended, t440_Paid, v_t4412, t4412, a_4, A_a_2, c_a_2, hs_a_2, a_5, a_6, rfl, ht440_l, hr_t440_l, ho9, dj11, ht4412, ht440, hge2, dj12, dj13, dj14, hB6, hO7, hi2, hr4, ho8, dj15, dj16, dj17, dj18, dj19, dj20, dj21, dj22, dj23, dj24, dj25, H⟩ := hc_
              have hgl2 := hg_
              have hO8 := hO7.base (InP.toGe hi2 (apC (Ge.le hge1 (size_le gr9)) (apC k11.ge' apN)) (size_le gr11))
              have hb3 := ht440_l.ge'
              have k13 := ht440_l.base (fun g hg => Nat.le_trans (size_le gr11) (hb3 g hg))
              have gr13 := gr_modL gr11 hgl2 (apC (Ge.le hge1 (size_le gr9)) (apC k11.ge' apN))
              have k14 := hr_a_l.goL hgl2 (apC dj6 (apC dj5 apN))
              refine WL.y rfl (Yld.pure tab_ok rfl) ?_
              refine WL.y rfl (Yld.pure tab_ok rfl) ?_
              refine WL.y rfl (Yld.pure tab_ok rfl) ?_
              refine WL.y rfl (Yld.pure tab_ok rfl) ?_
              refine WL.y rfl (Yld.pure tab_ok rfl) ?_
              refine WL.nil (WX.then_normal ?_)
              refine WC.seq ?_
              refine WC.seq ?_
              refine WC.region ?_
              refine WL.y rfl (Yld.pure tab_ok rfl) ?_
              refine WL.y rfl (Yld.peqnil Tryd.underlying87 rfl rfl) ?_
              refine WL.y rfl (Yld.pure tab_ok rfl) ?_
              refine WL.midF 3 (fun L' w' => ∃ q5 : Bool, L' = [(52, .bool q5), (3, .pointer (some ⟨g_a, 0, none⟩)), (4, .pointer (some ⟨g_t440, 0, none⟩))] ∧ (!decide (t4412 = Er.ok)) = q5 ∧ w15 = w') ?_ (fun hQ => ?_)
              · rintro _ _ ⟨q5, rfl, rfl, rfl⟩
                refine WL.nil (WX.then_normal ?_)
                refine WC.cond rfl (fun b2 => ?_) (fun b2 => ?_)
                · replace H := H.1 (nd_true b2)
                  refine WC.seq ?_
                  refine WC.region ?_
                  refine WL.y rfl (Yld.pure tab_ok rfl) ?_
                  refine WL.nil (WX.then_normal ?_)
                  refine WC.ret (WX.then_ret ?_)
                  exact WX.ret1 rfl rfl ⟨gr13, false, rfl, H⟩
                · replace H := H.2 (nd_false b2)
                  refine WC.skip (WX.then_normal ?_)
                  refine WC.seq ?_
                  refine WC.region ?_
                  refine WL.y rfl (Yld.pure tab_ok rfl) ?_
                  refine WL.call rfl rfl (W_smithylaw12_small H) ?_
                  rintro _ w18 ⟨hg12, v_t54, F_t54, t54, rfl, ht54, ho10, H⟩
                  have gr14 := gr_trans gr13 hg12
                  have k15 := hB6.g0 hg12
                  have k16 := hO8.grown hg12
                  have k17 := hr4.grown hg12
                  have k18 := k13.grown hg12
                  have k19 := ht440.g0 hg12
                  have k20 := hr_t440_l.grown hg12
                  refine WL.call rfl rfl (W_list_Append (GB.grown hG gr14) (size_le gr14) (apC (Ge.le hge1 (size_le gr9)) (apC k16.ge' apN)) hS3 hS7 (k16.base (fun _ _ => Nat.zero_le _)) rfl k17 k15 ht54 dj15 (apC dj16 (apC dj17 apN)) (apC (ho10 _ hB6.lt') (apC (ho10 _ hO8.lt') apN)) H) ?_
                  rintro v_g w19 ⟨hgl3, _, g, a_7, A_a_3, c_a_3, hs_a_3, a_8, a_9, rfl, hg, hB7, hO9, hi3, hr5, ho11, dj26, dj27, dj28, H⟩
                  have hO10 := hO9.base (InP.toGe hi3 (apC (Ge.le hge1 (size_le gr9)) (apC k16.ge' apN)) (size_le gr14))
                  have gr15 := gr_modL gr14 hgl3 (apC (Ge.le hge1 (size_le gr9)) (apC k16.ge' apN))
                  have k21 := k17.goL hgl3 (apC dj16 (apC dj17 apN))
                  have k22 := k18.goL hgl3 (apC dj18 (apC dj19 apN))
                  have k23 := k19.goL hgl3 (apC dj20 (apC dj21 apN))
                  have k24 := k20.goL hgl3 (apC dj22 (apC dj23 apN))
                  refine WL.y rfl (Yld.pure tab_ok rfl) ?_
                  refine WL.nil (WX.then_normal ?_)
                  refine WC.seq ?_
                  refine WC.region ?_
                  refine WL.y rfl (Yld.pure tab_ok rfl) ?_
                  refine WL.call rfl rfl (W_plist_Over_End_List0 (hO10.base (fun _ _ => Nat.zero_le _)) rfl hr5 hB7 k22.rd rfl k24 k23 dj20 (InP.dj hi3 k19.lt' (apC dj20 (apC dj21 apN))).symm dj26 (apC (ho11 _ k19.lt' dj25 (ho10 _ ht440.lt')) (apC dj27 (apC dj28 apN))) (apC (Dn.of dj14) (apC (Dn.of dj18) (apC (Dn.of (InP.dj hi3 k18.lt' (apC dj18 (apC dj19 apN))).symm) apN))) (apC dj13 (apC dj22 (apC (RelD.inp k20 (apC dj22 (apC dj23 apN)) hi3) apN))) H) ?_
                  rintro _ w20 ⟨hgl4, t440_, t440_2, t440_3, a_10, A_a_4, c_a_4, hs_a_4, a_11, a_12, rfl, hB8, hB9, hO11, hi4, hr6, ho12, dj29, dj30, dj31, dj32, dj33, dj34, H⟩
                  have hO12 := hO11.base (InP.toGe hi4 (apC (Ge.le hge2 (size_le gr11)) (apC (Ge.le hge1 (size_le gr9)) (apC hO10.ge' apN))) (size_le gr15))
                  have gr16 := gr_modL gr15 hgl4 (apC (Ge.le hge2 (size_le gr11)) (apC (Ge.le hge1 (size_le gr9)) (apC hO10.ge' apN)))
                  have k25 := hr5.goL hgl4 (apC (ho11 _ k19.lt' dj25 (ho10 _ ht440.lt')) (apC dj27 (apC dj28 apN)))
                  have k26 := ErrR.goB hg (GB.grown hG gr15) hgl4 (apC (Ge.le hge2 (size_le gr11)) (apC (Ge.le hge1 (size_le gr9)) (apC hO10.ge' apN))) (apC (NoAt.bl k23 rfl) (apC (NoAt.bl hB7 rfl) (apC (NoAt.own hO10 rfl) apN)))
                  refine WL.nil (WX.then_normal ?_)
                  refine WC.seq ?_
                  refine WC.region ?_
                  refine WL.y rfl (Yld.pure tab_ok rfl) ?_
                  refine WL.call rfl rfl (W_smithysee_Is (hG.grown gr16) hS0 hS1 hS2 hS3 hS4 hS5 hS6 hS7 hS8 hS9 hS10 hS11 hS12 hS13 hS14 hS15 hS16 k26 H) ?_
                  rintro _ w21 ⟨hg13, t59, rfl, H⟩
                  have gr17 := gr_trans gr16 hg13
                  have k27 := hB9.g0 hg13
                  have k28 := hO12.grown hg13
                  have k29 := hr6.grown hg13
                  refine WL.y rfl (Yld.pure tab_ok rfl) ?_
                  obtain ⟨J3, H, hJ3⟩ := H
                  refine WL.midF 5 (fun L' w' => ∃ q6 : Bool, L' = [(65, .bool q6)] ∧ J3 q6 ∧ w.grownBy w' none) ?_ (fun hQ => ?_)
                  · clear H
                    rintro _ w22 ⟨q6, rfl, H, gr18⟩
                    replace H := hJ3 q6 H
                    refine WL.y rfl (Yld.pure tab_ok rfl) ?_
                    refine WL.nil (WX.then_normal ?_)
                    refine WC.ret ?_
                    exact WX.ret1 rfl rfl ⟨gr18, q6, rfl, H⟩
                  · clear hJ3
                    rcases Bool.eq_false_or_eq_true (t59) with b3 | b3
                    · replace H := H.1 b3
                      refine WL.gyes rfl rfl (okb b3) rfl (Yld.pure tab_ok rfl) ?_
                      refine WL.callw (wants_some rfl rfl (okb b3)) rfl rfl (W_smithylaw12_small H) ?_
                      rintro _ w23 ⟨hg14, v_t62, F_t62, t62, rfl, ht62, ho13, H⟩
                      have gr19 := gr_trans gr17 hg14
                      have k30 := k27.g0 hg14
                      have k31 := k28.grown hg14
                      have k32 := k29.grown hg14
                      refine WL.callw (wants_some rfl rfl (okb b3)) rfl rfl (W_list_Append (GB.grown hG gr19) (size_le gr19) (apC (Ge.le hge1 (size_le gr9)) (apC k31.ge' apN)) hS3 hS7 (k31.base (fun _ _ => Nat.zero_le _)) rfl k32 k30 ht62 dj31 (apC dj33 (apC dj34 apN)) (apC (ho13 _ k27.lt') (apC (ho13 _ k28.lt') apN)) H) ?_
                      rintro v_t63 w24 ⟨hgl5, _, t63, a_13, A_a_5, c_a_5, hs_a_5, a_14, a_15, rfl, ht63, hB10, hO13, hi5, hr7, ho14, dj35, dj36, dj37, H⟩
                      have hO14 := hO13.base (InP.toGe hi5 (apC (Ge.le hge1 (size_le gr9)) (apC k31.ge' apN)) (size_le gr19))
                      have gr20 := gr_modL gr19 hgl5 (apC (Ge.le hge1 (size_le gr9)) (apC k31.ge' apN))
                      have k33 := k32.goL hgl5 (apC dj33 (apC dj34 apN))
                      have k34 := ht62.goL hgl5 (apC (ho13 _ k27.lt') (apC (ho13 _ k28.lt') apN))
                      refine WL.gyes rfl rfl (okb b3) rfl (Yld.erreql Tryd.underlying34 ht63 rfl) ?_
                      refine WL.y rfl (Yld.pickT (okb b3) rfl) ?_
                      exact WL.weaken (by repeat (first | exact Sub.nil | refine Sub.cons rfl ?_)) (hQ _ _ ⟨decide (t63 = Er.ok), rfl, H, gr20⟩)
                    · replace H := H.2 b3
                      refine WL.gno rfl rfl (okb b3) rfl ?_
                      refine WL.gno rfl rfl (okb b3) rfl ?_
                      refine WL.gno rfl rfl (okb b3) rfl ?_
                      refine WL.gno rfl rfl (okb b3) rfl ?_
                      refine WL.y rfl (Yld.pickF (okb b3) rfl) ?_
                      exact WL.weaken (by repeat (first | exact Sub.nil | refine Sub.cons rfl ?_)) (hQ _ _ ⟨false, rfl, H, gr17⟩)
              · clear H
                refine WL.gyes rfl rfl (rfl) rfl (Yld.pure tab_ok rfl) ?_
                refine WL.gyes rfl rfl (rfl) rfl (Yld.errneq Tryd.underlying34 ht4412 rfl) ?_
                refine WL.y rfl (Yld.pickF (rfl) rfl) ?_
                exact WL.weaken (by repeat (first | exact Sub.nil | refine Sub.cons rfl ?_)) (hQ _ _ ⟨!decide (t4412 = Er.ok), rfl, rfl, rfl⟩)
      · clear hJ2
        rcases Bool.eq_false_or_eq_true (q2) with b4 | b4
        · replace H := H.1 b4
          refine WL.gno rfl rfl (okb b4) rfl ?_
          refine WL.gno rfl rfl (okb b4) rfl ?_
          refine WL.gno rfl rfl (okb b4) rfl ?_
          refine WL.gno rfl rfl (okb b4) rfl ?_
          refine WL.gno rfl rfl (okb b4) rfl ?_
          refine WL.y rfl (Yld.pickT (okb b4) rfl) ?_
          exact WL.weaken (by repeat (first | exact Sub.nil | refine Sub.cons rfl ?_)) (hQ _ _ ⟨true, rfl, H, gr6⟩)
        · replace H := H.2 b4
          refine WL.gyes rfl rfl (okb b4) rfl (Yld.pure tab_ok rfl) ?_
          obtain ⟨h1, H⟩ := H
          refine WL.gyes rfl rfl (okb b4) rfl (Yld.iaddrW tab_ok k8.rd rfl rfl hr_t120.1.symm rfl h1.1 h1.2) ?_
          obtain ⟨⟨v_el, F_el⟩, eh1, hR1⟩ := RelD.at k9 vh0 PV.nil (j := 2) (Nat.lt_of_lt_of_eq (iltN h1 hr_t120.1.symm) k9.1)
          have hv1 : RelD deV w7 [(v_el, F_el)] [t120.getD 2 PV.nil] := RelD.cons hR1 RelD.nil
          refine WL.gyes rfl rfl (okb b4) rfl (Yld.to (v := v_el.1) (Yld.iload vh0 tab_ok k8.rd rfl rfl (iltN h1 hr_t120.1.symm)) (congrArg vv eh1)) ?_
          refine WL.callw (wants_some rfl rfl (okb b4)) rfl rfl (W_val_Repr hv1 H) ?_
          rintro _ w25 ⟨hg15, t33, rfl, H⟩
          have gr21 := gr_trans gr6 hg15
          have k35 := hv1.grown hg15
          refine WL.gyes rfl rfl (okb b4) rfl (Yld.pure tab_ok rfl) ?_
          refine WL.y rfl (Yld.pickF (okb b4) rfl) ?_
          exact WL.weaken (by repeat (first | exact Sub.nil | refine Sub.cons rfl ?_)) (hQ _ _ ⟨!decide (t33 = ([49] : List UInt8)), rfl, H, gr21⟩)
    · clear hJ1
      rcases Bool.eq_false_or_eq_true ((!decide (t121 = Er.ok)) || (!decide ((t120.length : Int) = (3 : Int)))) with b5 | b5
      · replace H := H.1 b5
        refine WL.gno rfl rfl (okb b5) rfl ?_
        refine WL.gno rfl rfl (okb b5) rfl ?_
        refine WL.gno rfl rfl (okb b5) rfl ?_
        refine WL.gno rfl rfl (okb b5) rfl ?_
        refine WL.gno rfl rfl (okb b5) rfl ?_
        refine WL.y rfl (Yld.pickT (okb b5) rfl) ?_
        exact WL.weaken (by repeat (first | exact Sub.nil | refine Sub.cons rfl ?_)) (hQ _ _ ⟨true, rfl, H, gr5, k7, hr_t120⟩)
      · replace H := H.2 b5
        refine WL.gyes rfl rfl (okb b5) rfl (Yld.pure tab_ok rfl) ?_
        obtain ⟨h2, H⟩ := H
        refine WL.gyes rfl rfl (okb b5) rfl (Yld.iaddrW tab_ok k7.rd rfl rfl hr_t120.1.symm rfl h2.1 h2.2) ?_
        obtain ⟨⟨v_el2, F_el2⟩, eh2, hR2⟩ := RelD.at hr_t120 vh0 PV.nil (j := 0) (Nat.lt_of_lt_of_eq (iltN h2 hr_t120.1.symm) hr_t120.1)
        have hv2 : RelD deV w6 [(v_el2, F_el2)] [t120.getD 0 PV.nil] := RelD.cons hR2 RelD.nil
        refine WL.gyes rfl rfl (okb b5) rfl (Yld.to (v := v_el2.1) (Yld.iload vh0 tab_ok k7.rd rfl rfl (iltN h2 hr_t120.1.symm)) (congrArg vv eh2)) ?_
        refine WL.callw (wants_some rfl rfl (okb b5)) rfl rfl (W_val_Repr hv2 H) ?_
        rintro _ w26 ⟨hg16, t26, rfl, H⟩
        have gr22 := gr_trans gr5 hg16
        have k36 := k7.grown hg16
        have k37 := hr_t120.grown hg16
        have k38 := hv2.grown hg16
        refine WL.gyes rfl rfl (okb b5) rfl (Yld.pure tab_ok rfl) ?_
        refine WL.y rfl (Yld.pickF (okb b5) rfl) ?_
        exact WL.weaken (by repeat (first | exact Sub.nil | refine Sub.cons rfl ?_)) (hQ _ _ ⟨!decide (t26 = ([51] : List UInt8)), rfl, H, gr22, k36, k37⟩)
  · clear H
    rcases Bool.eq_false_or_eq_true (!decide (t121 = Er.ok)) with b6 | b6
    · refine WL.gno rfl rfl (okb b6) rfl ?_
      refine WL.gno rfl rfl (okb b6) rfl ?_
      refine WL.gno rfl rfl (okb b6) rfl ?_
      refine WL.y rfl (Yld.pickT (okb b6) rfl) ?_
      exact WL.weaken (by repeat (first | exact Sub.nil | refine Sub.cons rfl ?_)) (hQ _ _ ⟨true, rfl, by rw [b6] <;> rfl, rfl⟩)
    · refine WL.gyes rfl rfl (okb b6) rfl (Yld.pure tab_ok rfl) ?_
      refine WL.gyes rfl rfl (okb b6) rfl (Yld.pure tab_ok rfl) ?_
      refine WL.gyes rfl rfl (okb b6) rfl (Yld.pure tab_ok rfl) ?_
      refine WL.y rfl (Yld.pickF (okb b6) rfl) ?_
      exact WL.weaken (by repeat (first | exact Sub.nil | refine Sub.cons rfl ?_)) (hQ _ _ ⟨!decide ((t120.length : Int) = (3 : Int)), rfl, by rw [b6] <;> rfl, rfl⟩)

end Go.Proofs.YtjoepdjeekadcaaDoor

 /- smithysee.Is, plainly. -/
namespace Go.Proofs.YtjoepdjeekadcaaDoor
open Go Go.RowKit
def isB : Er → Int → Bool
  | .ok, c => decide (0 = c)
  | .e n, c => decide (101 + (n : Int) = c)
  | .at_ _ _, _ => false
theorem is_M {e : Er} {code : Int} {K : Bool → Prop} (h : K (isB e code)) : M_smithysee_Is e code K := by
  unfold M_smithysee_Is M_smithyref_Bare M_smithysee_Same M_smithysee_Fault M_smithyref_None M_smithyref_SameFault M_smithysee_placed M_smithysee_sentinel M_smithyref_Bare M_smithyref_Placed M_smithyref_None
  cases e with
  | ok => refine ⟨fun _ => ?_, fun h2 => absurd rfl h2⟩; exact (congrArg K (show isB .ok code = _ by simp [isB])).mp h
  | e n => refine ⟨fun h2 => (by cases h2), fun _ => ⟨fun p m h2 => (by cases h2), fun _ => ?_⟩⟩; exact (congrArg K (show isB (.e n) code = _ by rw [Bool.eq_iff_iff]; simp [isB, sentV]; exact decide_eq_true_iff.symm)).mp h
  | at_ p n =>
    refine ⟨fun h2 => (by cases h2), fun _ => ⟨fun p' m h2 => ?_, fun h2 => absurd rfl (h2 p n)⟩⟩
    cases h2
    refine ⟨fun h2 => (by simp at h2), fun _ => ⟨fun h2 => (by simp only [sentV] at h2; omega), fun _ => ?_⟩⟩
    exact (congrArg K (show isB (.at_ p n) code = _ by simp [isB])).mp h
end Go.Proofs.YtjoepdjeekadcaaDoor


 /- list.Sorted, plainly: up to 40 items; and the chapter's examples. -/
namespace Go.Proofs.YtjoepdjeekadcaaDoor
open Go Go.RowKit
theorem stable_M {t back : Bool} {data : List PV} {K : List PV → Prop} (hP : Okl t data) (hl : data.length ≤ 40) (h : ∀ d', SyM (ltP back) PV.nil data d' 0 data.length → K d') :
    M_slices_stableCmpFunc_val_Value_list_Sorted_1 data (data.length : Int) back false K := by
  intro _
  refine ⟨fun a b d2 => b = a + 20 ∧ (a = 0 ∨ a = 20 ∨ a = 40) ∧ a ≤ data.length ∧ SyO PV.nil data d2 0 data.length ∧ (20 ≤ a → SySrt (ltP back) PV.nil d2 0 20) ∧ (40 ≤ a → SySrt (ltP back) PV.nil d2 20 40), fun a _ _ => ((data.length : Int) + 20 - a).toNat, ⟨by omega, .inl rfl, by omega, SyO.refl _ _ _ _, fun e => by omega, fun e => by omega⟩, ?_⟩
  rintro a b d2 ⟨rfl, ha, h1, h2, h3, h4⟩ hlen
  have hP2 : Okl t d2 := hP.perm h2.perm
  refine ⟨fun hb => insertion_M hP2 (by omega) (by omega) (by omega) (by omega) fun d' k => ⟨by simp only [In]; omega, ⟨by omega, by omega, by omega, h2.trans (k.1.wide (by omega) (by omega)), fun e => ?_, fun e => ?_⟩, by first | omega | (dsimp only; omega)⟩, fun hb => insertion_M hP2 (by omega) (by omega) (by omega) (by omega) fun d' k => ?_⟩
  · rcases ha with rfl | rfl | rfl
    · exact k.2
    · exact (h3 (by omega)).out k.1 (.inr (by omega))
    · omega
  · have : a = 20 := by omega
    subst this; exact k.2
  · have hP3 : Okl t d' := hP2.perm k.1.perm
    have o3 := h2.trans (k.1.wide (a' := 0) (b' := data.length) (by omega) (by omega))
    have hn : ((data.length : Nat) : Int).toNat = data.length := by omega
    have s20 : SySrt (ltP back) PV.nil d' 0 (min 20 data.length) ∧ SySrt (ltP back) PV.nil d' 20 data.length := by
      rcases ha with rfl | rfl | rfl
      · refine ⟨k.2.sub (by omega) (by omega), fun i j q1 q2 q3 => by omega⟩
      · refine ⟨((h3 (by omega)).out k.1 (.inr (by omega))).sub (by omega) (by omega), k.2.sub (by omega) (by omega)⟩
      · refine ⟨((h3 (by omega)).out k.1 (.inr (by omega))).sub (by omega) (by omega), ((h4 (by omega)).out k.1 (.inr (by omega))).sub (by omega) (by omega)⟩
    refine ⟨fun bs d3 => (bs = 20 ∧ d3 = d') ∨ (bs = 40 ∧ SyM (ltP back) PV.nil data d3 0 data.length), fun bs _ => (40 - bs).toNat, .inl ⟨rfl, rfl⟩, ?_⟩
    rintro bs d3 (⟨rfl, rfl⟩ | ⟨rfl, h5⟩) hlen3
    · refine ⟨fun hbs => ⟨by simp only [In]; omega, ?_⟩, fun hbs => ?_⟩
      · rw [show min 20 data.length = 20 by omega] at s20
        refine ⟨fun a2 b2 d4 => (a2 = 0 ∧ b2 = 40 ∧ d4 = d3) ∨ (a2 = 40 ∧ b2 = 80 ∧ data.length = 40 ∧ SyM (ltP back) PV.nil data d4 0 data.length), fun a2 _ _ => (40 - a2).toNat, .inl ⟨rfl, by omega, rfl⟩, ?_⟩
        rintro a2 b2 d4 (⟨rfl, rfl, rfl⟩ | ⟨rfl, rfl, h40, h6⟩) hlen4
        · refine ⟨fun hb2 => ⟨by simp only [In]; omega, 40, sym_M 40 (by omega) hP3 (by omega) (by omega) (by omega) (by omega) (by omega) s20.1 (s20.2.sub (by omega) (by omega)) fun d5 k5 => ?_⟩, fun hb2 => ?_⟩
          · refine ⟨by simp only [In]; omega, by simp only [In]; omega, .inr ⟨rfl, by omega, by omega, ?_⟩, by first | omega | (dsimp only; omega)⟩
            rw [show (40 : Int).toNat = data.length by omega] at k5
            exact ⟨o3.trans k5.1, k5.2⟩
          · refine ⟨fun xs => SyM (ltP back) PV.nil data xs 0 data.length, ⟨by simp only [In]; omega, fun hq => ?_, fun hq => absurd (show (0 : Int) + 20 < data.length by omega) hq⟩, fun xs hxs hlx => ⟨by simp only [In]; omega, .inr ⟨by omega, hxs⟩, by first | omega | (dsimp only; omega)⟩⟩
            refine ⟨40, sym_M 40 (by omega) hP3 (by omega) (by omega) (by omega) (by omega) (by omega) s20.1 (s20.2.sub (by omega) (by omega)) fun d5 k5 => ?_⟩
            rw [hn] at k5
            exact ⟨o3.trans k5.1, k5.2⟩
        · refine ⟨fun hb2 => by omega, fun hb2 => ⟨fun xs => SyM (ltP back) PV.nil data xs 0 data.length, ⟨by simp only [In]; omega, fun hq => by omega, fun hq => h6⟩, fun xs hxs hlx => ⟨by simp only [In]; omega, .inr ⟨by omega, hxs⟩, by first | omega | (dsimp only; omega)⟩⟩⟩
      · refine h _ ⟨o3, ?_⟩
        rw [show min 20 data.length = data.length by omega] at s20
        exact s20.1
    · exact ⟨fun hbs => by omega, fun _ => h _ h5⟩
theorem sstable_M {t back : Bool} {l : List PV} {K : List PV → Prop} (hP : Okl t l) (hl : l.length ≤ 40) (h : ∀ d', SyM (ltP back) PV.nil l d' 0 l.length → K d') : M_slices_SortStableFunc_val_Value_val_Value_list_Sorted_1 l back false K := fun _ => stable_M hP hl h
theorem weight0_M {z most : Int} {K : Int → Prop} (h : K 1) : M_val_weight (.int z) most K := by
  refine ⟨fun l => l = [], ⟨fun e => (by cases e), fun _ => ⟨fun l e => (by cases e), fun _ => rfl⟩⟩, ?_⟩
  rintro _ rfl
  exact ⟨fun n i => n = 1 ∧ i = 0, fun _ _ => 0, ⟨rfl, rfl⟩, by rintro n i ⟨rfl, rfl⟩; exact ⟨fun hi => absurd hi (by simp), fun _ => h⟩⟩
def wgt : PV → Int
  | .tup l => 1 + l.length
  | _ => 1
theorem weightT_M {t : Bool} {x : PV} {most : Int} {K : Int → Prop} (hx : Okv t x) (hm : 60 ≤ most ∧ most ≤ 5000) (h : K (wgt x)) : M_val_weightT x most K := by
  have key : ∀ zs : List Int, zs.length ≤ 50 → K (1 + zs.length) → Lp2 (fun (n : Int) (t63 : Int) kont1 => ((t63 < ((zs.map PV.int).length : Int) → (0 ≤ t63 ∧ t63 < ((zs.map PV.int).length : Nat)) ∧ ((most < n → K n) ∧ (¬ (most < n) → (In .i64 (most - n)) ∧ M_val_weight ((zs.map PV.int).getD t63.toNat PV.nil) (most - n) (fun (t76 : Int) => (In .i64 (n + t76)) ∧ (In .i64 (t63 + (1 : Int))) ∧ kont1 (n + t76) (t63 + (1 : Int)))))) ∧ (¬ (t63 < ((zs.map PV.int).length : Int)) → K n))) (1 : Int) (0 : Int) := fun zs hz hK => by
    refine ⟨fun n i => 0 ≤ i ∧ i ≤ zs.length ∧ n = 1 + i, fun _ i => ((zs.length : Int) - i).toNat, ⟨by omega, by omega, by omega⟩, ?_⟩
    rintro n i ⟨h0, h1, rfl⟩
    simp only [List.length_map]
    refine ⟨fun hi => ⟨⟨h0, hi⟩, fun hq => by omega, fun hq => ⟨by simp only [In]; omega, ?_⟩⟩, fun hi => ?_⟩
    · rw [map_int (by omega)]
      exact weight0_M ⟨by simp only [In]; omega, by simp only [In]; omega, ⟨by omega, by omega, by omega⟩, by first | omega | (dsimp only; omega)⟩
    · have : i = zs.length := by omega
      rw [this]; exact hK
  cases t with
  | false =>
    obtain ⟨z, rfl⟩ := hx
    refine ⟨fun l => l = ([] : List Int).map PV.int, ⟨fun e => (by cases e), fun _ => ⟨fun l e => (by cases e), fun _ => rfl⟩⟩, ?_⟩
    rintro _ rfl
    exact key [] (by simp) h
  | true =>
    obtain ⟨zs, rfl, hz⟩ := hx
    refine ⟨fun l => l = zs.map PV.int, ⟨fun e => (by cases e), fun _ => ⟨fun l e => ?_, fun e => absurd rfl (e zs)⟩⟩, ?_⟩
    · cases e; rfl
    · rintro _ rfl
      exact key zs hz h
theorem wgt_le {t : Bool} {x : PV} (h : Okv t x) : 1 ≤ wgt x ∧ wgt x ≤ 51 := by
  cases t with
  | false => obtain ⟨z, rfl⟩ := h; simp [wgt]
  | true => obtain ⟨l, rfl, hl⟩ := h; simp only [wgt]; omega
theorem vlight_M {t : Bool} {l : List PV} {K : Bool → Prop} (hP : Okl t l) (hl : l.length ≤ 40) (h : K true) : M_val_Light 4096 l K := by
  intro _
  refine ⟨fun m i => 0 ≤ i ∧ i ≤ l.length ∧ 4096 - 51 * i ≤ m ∧ m ≤ 4096, fun _ i => ((l.length : Int) - i).toNat, ⟨by omega, by omega, by omega, by omega⟩, ?_⟩
  rintro m i ⟨h0, h1, h2, h3⟩
  refine ⟨fun hi => ⟨⟨h0, hi⟩, ?_⟩, fun _ => h⟩
  have hx := hP.at (i := i.toNat) (by omega)
  have hw := wgt_le hx
  exact weightT_M hx (by omega) ⟨by simp only [In]; omega, fun hq => by omega, fun _ => ⟨by simp only [In]; omega, ⟨by omega, by omega, by omega, by omega⟩, by first | omega | (dsimp only; omega)⟩⟩
theorem cloneV_M {l : List PV} {K : List PV → Prop} (hl : l.length ≤ 1000000) (h : K l) : M_slices_Clone_val_Value_val_Value l K :=
  fun _ => ⟨fun e => e ▸ h, by simp; omega, by simpa using h⟩
theorem sorted_M {t back : Bool} {l : List PV} {K : List PV → Er → Prop} (hP : Okl t l) (hl : l.length ≤ 40) (h : ∀ d', SyM (ltP back) PV.nil l d' 0 l.length → K d' .ok) : M_list_Sorted l back K := by
  intro _
  exact vlight_M hP hl ⟨fun e => (by cases e), fun _ => cloneV_M (by omega) (sstable_M hP hl h)⟩
/-- two orders of the same things are one, where none are equal -/
theorem SySrt.uniq {lt : PV → PV → Bool} {l m : List PV} (h1 : SySrt lt PV.nil l 0 l.length) (h2 : SySrt lt PV.nil m 0 m.length) (hp : l.Perm m) (hs : ∀ x ∈ l, ∀ y ∈ l, lt x y = false → lt y x = false → x = y) : l = m := by
  have pw : ∀ {q : List PV}, SySrt lt PV.nil q 0 q.length → q.Pairwise fun x y => lt y x = false := fun {q} hq => by
    rw [List.pairwise_iff_getElem]
    intro i j hi hj hij
    have := hq i j (by omega) hij hj
    simpa [List.getD, hi, hj] using this
  exact List.Perm.eq_of_pairwise (le := fun x y => lt y x = false) (fun x y hx hy q1 q2 => hs x hx y (hp.mem_iff.2 hy) q2 q1) (pw h1) (pw h2) hp
end Go.Proofs.YtjoepdjeekadcaaDoor


 /- The chapter's examples, plainly. -/
namespace Go.Proofs.YtjoepdjeekadcaaDoor
open Go Go.RowKit
theorem lexB_eq : ∀ {x y}, lexB x y = false → lexB y x = false → x = y
  | [], [], _, _ => rfl
  | [], _ :: _, h, _ => by cases h
  | _ :: _, [], _, h => by cases h
  | a :: l, b :: m, h1, h2 => by
    simp only [lexB, Bool.or_eq_false_iff, decide_eq_false_iff_not, Bool.and_eq_false_iff] at h1 h2
    have e : a = b := by omega
    subst e
    rw [lexB_eq (x := l) (y := m) (by rcases h1.2 with h | h; exact absurd rfl h; exact h) (by rcases h2.2 with h | h; exact absurd rfl h; exact h)]
theorem ltP_eq {back t : Bool} {x y : PV} (hx : Okv t x) (hy : Okv t y) (h1 : ltP back x y = false) (h2 : ltP back y x = false) : x = y := by
  have e : keyQ x = keyQ y := by
    cases back
    · exact lexB_eq h1 h2
    · exact lexB_eq h2 h1
  cases t with
  | false =>
    obtain ⟨a, rfl⟩ := hx
    obtain ⟨b, rfl⟩ := hy
    simp only [keyQ, List.cons.injEq, and_true] at e
    rw [e]
  | true =>
    obtain ⟨a, rfl, _⟩ := hx
    obtain ⟨b, rfl, _⟩ := hy
    rw [show a = b from e]
theorem SySrt.one {back t : Bool} {l m d' : List PV} (hP : Okl t l) (h : SyM (ltP back) PV.nil l d' 0 l.length) (h2 : SySrt (ltP back) PV.nil m 0 m.length) (hp : m.Perm l) : d' = m := by
  have hd := hP.perm h.1.perm
  have hl := h.1.len
  refine SySrt.uniq (by rw [hl]; exact h.2) h2 (h.1.perm.trans hp.symm) fun x hx y hy q1 q2 => ltP_eq (hd x hx) (hd y hy) q1 q2
theorem lsmall_M {n : Int} {K : PV → Prop} (h : -9223372036854775808 ≤ n ∧ n ≤ 9223372036854775807) (k : K (.int n)) : M_smithylaw12_small n K := ⟨h, k⟩
theorem loose_M {l : List PV} {f : Bool} {o : Int} {K : Bool → Prop} (h : K (!f && decide (o = 0))) : M_pval_List_Loose l f o K := fun _ => h
theorem append_no {l : List PV} {f : Bool} {o : Int} {x : PV} {K : Er → List PV → Bool → Int → Prop} (ho : o ≠ 0) (h : K (.e 3) l f o) : M_list_Append l f o x K :=
  fun _ _ _ => loose_M ⟨fun _ => h, fun e => absurd e (by simp [ho])⟩
theorem append_yes {l : List PV} {x : PV} {K : Er → List PV → Bool → Int → Prop} (hl : l.length < 1024) (h : K .ok (l ++ [x]) false 0) : M_list_Append l false 0 x K :=
  fun _ _ _ => loose_M ⟨fun e => (by cases e), fun _ => fun _ => ⟨by simp only [In]; omega, fun e => absurd e (by simp; omega), fun _ => fun _ _ => ⟨by simp; omega, h⟩⟩⟩
theorem hold_M {l : List PV} {f : Bool} {o b : Int} {K : List PV → Bool → Int → Prop} (ho : -1000000 ≤ o + b ∧ o + b ≤ 1000000) (h : K l f (o + b)) : M_val_Hold_List0 l f o b K :=
  fun _ _ => ⟨by simp only [In]; omega, h⟩
theorem each_M {l : List PV} {f : Bool} {o : Int} {K0 : Er → List PV → Bool → Int → Prop} {K : List PV → Int → Bool → Bool → Er → List PV → Bool → Int → Prop} (hl : l.length ≤ 1000000) (ho : -100000 ≤ o ∧ o ≤ 100000) (h : K l 0 false false .ok l f (o + 1)) : M_list_Each_List0 l f o K0 K := by
  intro _
  refine ⟨fun q => q = l, fun _ => ⟨fun b => b = true, ⟨fun _ => by simp, fun e => absurd rfl e⟩, fun b hb => ⟨fun _ => fun _ _ => cloneV_M hl rfl, fun e => absurd (hb.symm.trans e) (by simp)⟩⟩, fun q hq => ?_⟩
  subst hq
  exact hold_M (by omega) h
theorem over_end_M {l : List PV} {f : Bool} {o a : Int} {q : List PV} {p : Bool} {K : Int → Bool → Bool → List PV → Bool → Int → Prop} (ho : -100000 ≤ o ∧ o ≤ 100000) (h : K a true p l f (o + -1)) : M_plist_Over_End_List0 l f o q a false p K :=
  fun _ _ => ⟨fun _ => hold_M (by omega) h, fun e => (by cases e)⟩
theorem newlist_M {l : List PV} {K0 : Prop} {K : List PV → Bool → Int → Prop} (hl : l.length ≤ 1000000) (h : K l false 0) : M_val_NewList l K0 K :=
  fun _ => cloneV_M hl h
theorem txt1 : txt 1 = [49] := txt_dig (d := 1) (by omega) (by omega)
theorem txt3 : txt 3 = [51] := txt_dig (d := 3) (by omega) (by omega)
theorem lfirst_M {K : Bool → Prop} (h : K true) : M_smithylaw12_first K := by
  refine lsmall_M (by omega) (lsmall_M (by omega) (lsmall_M (by omega) ?_))
  have hP : Okl false [PV.int 3, PV.int 1, PV.int 2] := fun x hx => by
    simp only [List.mem_cons, List.not_mem_nil, or_false] at hx
    rcases hx with rfl | rfl | rfl <;> exact ⟨_, rfl⟩
  refine sorted_M hP (by simp) fun d' hd => ?_
  have e : d' = [PV.int 3, PV.int 2, PV.int 1] := by
    refine SySrt.one hP hd (fun i j h1 h2 h3 => ?_) (by decide)
    have h3 : j < 3 := h3
    have : (i = 0 ∧ j = 1) ∨ (i = 0 ∧ j = 2) ∨ (i = 1 ∧ j = 2) := by omega
    rcases this with ⟨rfl, rfl⟩ | ⟨rfl, rfl⟩ | ⟨rfl, rfl⟩ <;> rfl
  subst e
  refine ⟨fun q => q = false, ⟨fun e => absurd e (by simp), fun _ => ⟨by simp, ?_⟩⟩, ?_⟩
  · exact vrepr_int (by rw [txt3]; simp) (by rw [txt3]; rfl)
  rintro _ rfl
  refine ⟨fun q => q = false, ⟨fun e => (by cases e), fun _ => ⟨by simp, ?_⟩⟩, ?_⟩
  · exact vrepr_int (by rw [txt1]; simp) (by rw [txt1]; rfl)
  rintro _ rfl
  refine ⟨fun e => (by cases e), fun _ => lsmall_M (by omega) (newlist_M (by simp) (each_M (by simp) (by omega) ⟨fun e => absurd rfl e, fun _ => lsmall_M (by omega) (append_no (by omega) (over_end_M (by omega) (is_M ?_)))⟩))⟩
  refine ⟨fun q => q = true, ⟨fun _ => lsmall_M (by omega) (append_yes (by simp) (by simp)), fun e => absurd e (by decide)⟩, ?_⟩
  rintro _ rfl
  exact h
end Go.Proofs.YtjoepdjeekadcaaDoor


 /- Printed by a program (wip/vg): what the functions mean, plainly, and their walks. -/
namespace Go.Proofs.YtjoepdjeekadcaaDoor
open Go Go.RowKit
attribute [local irreducible] WL WC WX WQ WK WJ Yld Eff Ef0 Fn
def M_val_items (v_ : PV) (K : (List PV) → Bool → Prop) : Prop :=
 ((v_ = PV.emp → M_slices_Clone_val_Value_val_Value ([] : List PV) (fun (t2 : List PV) =>
 K t2 true)) ∧
 (v_ ≠ PV.emp → ((∀ l : List Int, v_ = PV.tup l → M_slices_Clone_val_Value_val_Value (l.map PV.int) (fun (t22 : List PV) =>
 K t22 true)) ∧
 ((∀ l, v_ ≠ PV.tup l) → K [] false))))

def M_val_Items (v_ : PV) (K : (List PV) → Bool → Prop) : Prop :=
 M_val_items v_ (fun (t50 : List PV) (t51 : Bool) =>
 K t50 t51)

def M_val_asInt (v_ : PV) (K : Int → Nat → Bool → Prop) : Prop :=
 ((∀ z : Int, v_ = PV.int z → K z 3 true) ∧
 ((∀ z, v_ ≠ PV.int z) → K 0 0 false))

def M_val_AsInt (v_ : PV) (K : Int → Nat → Bool → Prop) : Prop :=
 M_val_asInt v_ (fun (t50 : Int) (m_t50 : Nat) (t51 : Bool) =>
 K t50 m_t50 t51)

def M_smithylaw12_ListSorts (l : List Int) (K : Bool → Prop) : Prop :=
 (l.length ≤ maxLen →
 M_smithylaw12_first (fun (ok : Bool) =>
 (((!ok) = true → K false) ∧
 ((!ok) = false → ((((decide ((40 : Int) < (l.length : Int))) || (!ok)) = true → K ok) ∧
 (((decide ((40 : Int) < (l.length : Int))) || (!ok)) = false → Lp2 (fun (p : List PV) (i : Int) kont1 => ((i < (l.length : Int) → (0 ≤ i ∧ i < (l.length : Nat)) ∧
 ((7 : Int) ≠ 0) ∧
 M_smithylaw12_small ((l.getD i.toNat 0).tmod (7 : Int)) (fun (t44 : PV) =>
 M_smithylaw12_small i (fun (t46 : PV) =>
 M_val_Tuple ([t44, t46] : List PV) (fun (t48 : PV) =>
 ((p.length + (([t48] : List PV)).length) * 16 ≤ 140737488355328) ∧
 (In .i64 (i + (1 : Int))) ∧
 kont1 (p ++ ([t48] : List PV)) (i + (1 : Int)))))) ∧
 (¬ (i < (l.length : Int)) → M_list_Sorted p false (fun (t530 : List PV) (t531 : Er) =>
 ((((!decide (t531 = Er.ok)) || (!decide ((t530.length : Int) = (p.length : Int)))) = true → K false) ∧
 (((!decide (t531 = Er.ok)) || (!decide ((t530.length : Int) = (p.length : Int)))) = false → (0 ≤ (l.length : Int) ∧ (l.length : Int) * 1 ≤ 140737488355328 ∧ (l.length : Int) ≤ 140737488355328) ∧
 Lp2 (fun (i2 : Int) (seen : List Bool) kont2 => (l.length : Int).toNat = seen.length → ((i2 < (t530.length : Int) → ∃ J1 : (List Bool) → Prop, ((0 ≤ i2 ∧ i2 < (t530.length : Nat)) ∧
 M_val_Items (t530.getD i2.toNat PV.nil) (fun (t790 : List PV) (t791 : Bool) =>
 ((((!t791) || (!decide ((t790.length : Int) = (2 : Int)))) = true → K false) ∧
 (((!t791) || (!decide ((t790.length : Int) = (2 : Int)))) = false → (0 ≤ (1 : Int) ∧ (1 : Int) < (t790.length : Nat)) ∧
 M_val_AsInt (t790.getD 1 PV.nil) (fun (t930 : Int) (m_t930 : Nat) (t931 : Bool) =>
 M_num_Num_Int t930 m_t930 (fun (t980 : Int) (t981 : Bool) =>
 (((decide (t980 < (0 : Int))) || (decide ((l.length : Int) ≤ t980))) = false → (0 ≤ t980 ∧ t980 < ((l.length : Int).toNat : Nat))) ∧
 (((((decide (t980 < (0 : Int))) || (decide ((l.length : Int) ≤ t980))) || (seen.getD t980.toNat false)) = true → K false) ∧
 ((((decide (t980 < (0 : Int))) || (decide ((l.length : Int) ≤ t980))) || (seen.getD t980.toNat false)) = false → (0 ≤ t980 ∧ t980 < ((l.length : Int).toNat : Nat)) ∧
 (((0 : Int) < i2 → (0 ≤ i2 ∧ i2 < (t530.length : Nat)) ∧
 (In .i64 (i2 - (1 : Int))) ∧
 (0 ≤ i2 - (1 : Int) ∧ i2 - (1 : Int) < (t530.length : Nat)) ∧
 M_val_Less (t530.getD i2.toNat PV.nil) (t530.getD ((i2 - (1 : Int)).toNat) PV.nil) (fun (t1300 : Bool) (t1301 : Er) =>
 (((t1300 || (!decide (t1301 = Er.ok))) = true → K false) ∧
 ((t1300 || (!decide (t1301 = Er.ok))) = false → J1 (seen.set t980.toNat true))))) ∧
 (¬ ((0 : Int) < i2) → J1 (seen.set t980.toNat true))))))))))) ∧
 (∀ xs : List Bool, J1 xs → (l.length : Int).toNat = xs.length → (In .i64 (i2 + (1 : Int))) ∧
 kont2 (i2 + (1 : Int)) xs)) ∧
 (¬ (i2 < (t530.length : Int)) → M_list_Sorted t530 true (fun (t1400 : List PV) (t1401 : Er) =>
 ((((!decide (t1401 = Er.ok)) || (!decide ((t1400.length : Int) = (t530.length : Int)))) = true → K false) ∧
 (((!decide (t1401 = Er.ok)) || (!decide ((t1400.length : Int) = (t530.length : Int)))) = false → Lp1 (fun (i3 : Int) kont3 => ((i3 < (t530.length : Int) → (0 ≤ i3 ∧ i3 < (t1400.length : Nat)) ∧
 M_val_Repr (t1400.getD i3.toNat PV.nil) (fun (t162 : List UInt8) =>
 (In .i64 ((t530.length : Int) - (1 : Int))) ∧
 (In .i64 (((t530.length : Int) - (1 : Int)) - i3)) ∧
 (0 ≤ ((t530.length : Int) - (1 : Int)) - i3 ∧ ((t530.length : Int) - (1 : Int)) - i3 < (t530.length : Nat)) ∧
 M_val_Repr (t530.getD ((((t530.length : Int) - (1 : Int)) - i3).toNat) PV.nil) (fun (t171 : List UInt8) =>
 ((¬ (t162 = t171) → K false) ∧
 (t162 = t171 → (In .i64 (i3 + (1 : Int))) ∧
 kont3 (i3 + (1 : Int))))))) ∧
 (¬ (i3 < (t530.length : Int)) → K true))) (0 : Int))))))) (0 : Int) (List.replicate (l.length : Int).toNat false))))))) [] (0 : Int)))))))

set_option maxHeartbeats 8000000 in
theorem W_val_items {w : World} {v_v : OV} {F_v : Nat → Prop} {v_ : PV} {K : (List PV) → Bool → Prop} (hv_ : RelD deV w [(v_v, F_v)] [v_]) (H : M_val_items v_ K) : Fn Tryd.prog 40 ⟨[v_v.1]⟩ w (fun v w' => w.grownBy w' none ∧ ∃ (r0 : List PV), ∃ (A_r0 : Option Addr), ∃ (c_r0 : Nat), ∃ (hs_r0 : List VH), ∃ (r1 : Bool), v = .tuple #[.slice A_r0 r0.length c_r0, .bool r1] ∧ Own vv w' w.heap.size 41 A_r0 c_r0 hs_r0 ∧ RelD deV w' hs_r0 r0 ∧ (∀ p : Option Nat, Lt p w.heap.size → DnD deV [(v_v, F_v)] [v_] p → DnD deV hs_r0 r0 p) ∧ DnD deV hs_r0 r0 (blk A_r0) ∧ K r0 r1) := by
  unfold M_val_items at H
  refine Fn.enter (by kernel_rfl) Tryd.func40 rfl Tryd.ntmps40 rfl ?_
  refine WC.seq ?_
  refine WC.region ?_
  refine WL.y rfl (Yld.pure tab_ok rfl) ?_
  refine WL.y rfl (Yld.pure tab_ok rfl) ?_
  refine WL.nil (WX.then_normal ?_)
  refine WC.seq ?_
  refine WC.seq ?_
  refine WC.region ?_
  refine WL.y rfl (Yld.pure tab_ok rfl) ?_
  refine WL.nil (WX.then_normal ?_)
  refine WC.block ?_
  refine WC.seq ?_
  refine WC.region ?_
  rcases PV.empCases v_ with he1 | he1
  · replace H := H.1 he1
    obtain ⟨g_l, A_l, c_l, hv1, hB1, hR1, hr1, hd1⟩ := VR.empOut hv_ he1
    refine WL.y rfl (assertYesV Tryd.underlying85 rfl rfl hv1) ?_
    refine WL.y rfl (Yld.pure tab_ok rfl) ?_
    refine WL.y rfl (Yld.pure tab_ok rfl) ?_
    refine WL.nil (WX.then_normal ?_)
    refine WC.cond rfl (fun _ => ?_) (fun h => by cases h)
    refine WC.seq ?_
    refine WC.region ?_
    refine WL.y rfl (Yld.pure tab_ok rfl) ?_
    refine WL.nil (WX.then_normal ?_)
    refine WC.seq ?_
    refine WC.region ?_
    refine WL.y rfl (Yld.pure tab_ok rfl) ?_
    refine WL.y rfl (Yld.pure tab_ok rfl) ?_
    refine WL.y rfl (Yld.fa0 (o := 0) (by kernel_rfl) rfl) ?_
    refine WL.y rfl (Yld.bload tab_ok hB1 rfl rfl rfl) ?_
    refine WL.call rfl rfl (W_slices_Clone_val_Value_val_Value hR1 rfl hr1 H) ?_
    rintro _ w1 ⟨hg1, t2, A_t2, c_t2, hs_t2, rfl, ht2, hr_t2, ho1, dj1, H⟩
    have hb1 := ht2.ge'
    have k1 := ht2.base (fun g hg => Nat.le_trans (Nat.le_refl _) (hb1 g hg))
    have gr1 := hg1
    refine WL.y rfl (Yld.pure tab_ok rfl) ?_
    refine WL.y rfl (Yld.pure tab_ok rfl) ?_
    refine WL.nil (WX.then_normal ?_)
    refine WC.ret (WX.block_ret (WX.then_ret ?_))
    exact WX.ret2 rfl rfl rfl ⟨gr1, t2, A_t2, c_t2, hs_t2, true, rfl, k1, hr_t2, (fun p_ hp_ v0_ => have q_ := v0_; ho1 p_ (fun g_ e_ => Nat.lt_of_lt_of_le (hp_ g_ e_) (Nat.le_refl _)) (DnD.nil (d := deV))), dj1, H⟩
  · replace H := H.2 he1
    refine WL.y rfl (assertNoV (z := .pointer none) Tryd.underlying85 rfl (fun _ => by kernel_rfl) hv_ rfl (tyP_emp he1)) ?_
    refine WL.y rfl (Yld.pure tab_ok rfl) ?_
    refine WL.y rfl (Yld.pure tab_ok rfl) ?_
    refine WL.nil (WX.then_normal ?_)
    refine WC.cond rfl (fun h => by cases h) (fun _ => ?_)
    refine WC.seq ?_
    refine WC.region ?_
    rcases PV.tupCases v_ with ⟨l, he2⟩ | he2
    · replace H := H.1 l he2
      obtain ⟨g_t, A_t, c_t, hs_t, hv2, hB2, hR2, hr2, hd2, hd3, hd4⟩ := VR.tupOut hv_ he2
      refine WL.y rfl (assertYesV Tryd.underlying92 rfl rfl hv2) ?_
      refine WL.y rfl (Yld.pure tab_ok rfl) ?_
      refine WL.y rfl (Yld.pure tab_ok rfl) ?_
      refine WL.nil (WX.then_normal ?_)
      refine WC.cond rfl (fun _ => ?_) (fun h => by cases h)
      refine WC.seq ?_
      refine WC.region ?_
      refine WL.y rfl (Yld.pure tab_ok rfl) ?_
      refine WL.nil (WX.then_normal ?_)
      refine WC.seq ?_
      refine WC.region ?_
      refine WL.y rfl (Yld.pure tab_ok rfl) ?_
      refine WL.y rfl (Yld.pure tab_ok rfl) ?_
      refine WL.y rfl (Yld.fa0 (o := 0) (by kernel_rfl) rfl) ?_
      refine WL.y rfl (Yld.bload tab_ok hB2 rfl rfl rfl) ?_
      refine WL.call rfl rfl (W_slices_Clone_val_Value_val_Value hR2 rfl hr2 H) ?_
      rintro _ w2 ⟨hg2, t22, A_t22, c_t22, hs_t22, rfl, ht22, hr_t22, ho2, dj2, H⟩
      have hb2 := ht22.ge'
      have k2 := ht22.base (fun g hg => Nat.le_trans (Nat.le_refl _) (hb2 g hg))
      have gr2 := hg2
      refine WL.y rfl (Yld.pure tab_ok rfl) ?_
      refine WL.y rfl (Yld.pure tab_ok rfl) ?_
      refine WL.nil (WX.then_normal ?_)
      refine WC.ret (WX.block_ret (WX.then_ret ?_))
      exact WX.ret2 rfl rfl rfl ⟨gr2, t22, A_t22, c_t22, hs_t22, true, rfl, k2, hr_t22, (fun p_ hp_ v0_ => have q_ := v0_; ho2 p_ (fun g_ e_ => Nat.lt_of_lt_of_le (hp_ g_ e_) (Nat.le_refl _)) (hd4 _ (q_))), dj2, H⟩
    · replace H := H.2 he2
      refine WL.y rfl (assertNoV (z := .pointer none) Tryd.underlying92 rfl (fun _ => by kernel_rfl) hv_ rfl (tyP_tup he2)) ?_
      refine WL.y rfl (Yld.pure tab_ok rfl) ?_
      refine WL.y rfl (Yld.pure tab_ok rfl) ?_
      refine WL.nil (WX.then_normal ?_)
      refine WC.cond rfl (fun h => by cases h) (fun _ => ?_)
      refine WC.seq ?_
      refine WC.region ?_
      refine WL.y rfl (assertNoV (z := .pointer none) Tryd.underlying139 rfl (fun _ => by kernel_rfl) hv_ rfl (tyP_no rfl v_)) ?_
      refine WL.y rfl (Yld.pure tab_ok rfl) ?_
      refine WL.y rfl (Yld.pure tab_ok rfl) ?_
      refine WL.nil (WX.then_normal ?_)
      refine WC.cond rfl (fun h => by cases h) (fun _ => ?_)
      refine WC.skip (WX.block_normal (WX.then_normal ?_))
      refine WC.seq ?_
      refine WC.region ?_
      refine WL.y rfl (Yld.pure tab_ok rfl) ?_
      refine WL.y rfl (Yld.pure tab_ok rfl) ?_
      refine WL.nil (WX.then_normal ?_)
      refine WC.ret ?_
      exact WX.ret2 rfl rfl rfl ⟨(gr_refl _ _), [], none, 0, [], false, rfl, (Own.nil vv w w.heap.size 41), (RelD.nil (d := deV) (w := w)), (fun p_ hp_ v0_ => have q_ := v0_; (DnD.nil (d := deV))), DnD.nil, H⟩

set_option maxHeartbeats 8000000 in
theorem W_val_Items {w : World} {v_v : OV} {F_v : Nat → Prop} {v_ : PV} {K : (List PV) → Bool → Prop} (hv_ : RelD deV w [(v_v, F_v)] [v_]) (H : M_val_Items v_ K) : Fn Tryd.prog 18 ⟨[v_v.1]⟩ w (fun v w' => w.grownBy w' none ∧ ∃ (r0 : List PV), ∃ (A_r0 : Option Addr), ∃ (c_r0 : Nat), ∃ (hs_r0 : List VH), ∃ (r1 : Bool), v = .tuple #[.slice A_r0 r0.length c_r0, .bool r1] ∧ Own vv w' w.heap.size 41 A_r0 c_r0 hs_r0 ∧ RelD deV w' hs_r0 r0 ∧ (∀ p : Option Nat, Lt p w.heap.size → DnD deV [(v_v, F_v)] [v_] p → DnD deV hs_r0 r0 p) ∧ DnD deV hs_r0 r0 (blk A_r0) ∧ K r0 r1) := by
  unfold M_val_Items at H
  refine Fn.enter (by kernel_rfl) Tryd.func18 rfl Tryd.ntmps18 rfl ?_
  refine WC.seq ?_
  refine WC.region ?_
  refine WL.y rfl (Yld.pure tab_ok rfl) ?_
  refine WL.y rfl (Yld.pure tab_ok rfl) ?_
  refine WL.nil (WX.then_normal ?_)
  refine WC.seq ?_
  refine WC.region ?_
  refine WL.y rfl (Yld.pure tab_ok rfl) ?_
  refine WL.call rfl rfl (W_val_items hv_ H) ?_
  rintro _ w1 ⟨hg1, t50, A_t50, c_t50, hs_t50, t51, rfl, ht50, hr_t50, ho1, dj1, H⟩
  have hb1 := ht50.ge'
  have k1 := ht50.base (fun g hg => Nat.le_trans (Nat.le_refl _) (hb1 g hg))
  have gr1 := hg1
  refine WL.y rfl (Yld.pure tab_ok rfl) ?_
  refine WL.y rfl (Yld.pure tab_ok rfl) ?_
  refine WL.y rfl (Yld.pure tab_ok rfl) ?_
  refine WL.y rfl (Yld.pure tab_ok rfl) ?_
  refine WL.nil (WX.then_normal ?_)
  refine WC.ret ?_
  exact WX.ret2 rfl rfl rfl ⟨gr1, t50, A_t50, c_t50, hs_t50, t51, rfl, k1, hr_t50, (fun p_ hp_ v0_ => have q_ := v0_; ho1 p_ (fun g_ e_ => Nat.lt_of_lt_of_le (hp_ g_ e_) (Nat.le_refl _)) (q_)), dj1, H⟩

set_option maxHeartbeats 8000000 in
theorem W_val_asInt {w : World} {v_v : OV} {F_v : Nat → Prop} {v_ : PV} {K : Int → Nat → Bool → Prop} (hv_ : RelD deV w [(v_v, F_v)] [v_]) (H : M_val_asInt v_ K) : Fn Tryd.prog 41 ⟨[v_v.1]⟩ w (fun v w' => w.grownBy w' none ∧ ∃ (v_r0 : Value), ∃ (v_r02 : Value), ∃ (r0 : Int), ∃ (m_r0 : Nat), ∃ (r1 : Bool), v = .tuple #[.agg ⟨[v_r0, v_r02]⟩, .bool r1] ∧ Nm w' (.agg ⟨[v_r0, v_r02]⟩) r0 m_r0 ∧ v_r0.oneCell' = true ∧ v_r02.oneCell' = true ∧ K r0 m_r0 r1) := by
  unfold M_val_asInt at H
  refine Fn.enter (by kernel_rfl) Tryd.func41 rfl Tryd.ntmps41 rfl ?_
  refine WC.seq ?_
  refine WC.region ?_
  refine WL.alloc rfl zero46 (fun g1 w1 hB1 hg1 hl1 => ?_)
  have gr1 := hg1
  refine WL.y rfl (Yld.pure tab_ok rfl) ?_
  refine WL.nil (WX.then_normal ?_)
  refine WC.seq ?_
  refine WC.region ?_
  refine WL.y rfl (Yld.pure tab_ok rfl) ?_
  rcases PV.intCases v_ with ⟨z, he1⟩ | he1
  · replace H := H.1 z he1
    obtain ⟨a, b, hv1, hN1, one1, one2, hL1⟩ := VR.intOut (hv_.grown gr1) he1
    refine WL.y rfl (assertYesV Tryd.underlying116 rfl rfl hv1) ?_
    refine WL.y rfl (Yld.pure tab_ok rfl) ?_
    refine WL.y rfl (Yld.pure tab_ok rfl) ?_
    refine WL.y rfl (Yld.pure tab_ok rfl) ?_
    refine WL.alloc rfl zero116 (fun g2 w2 hB2 hg2 hl2 => ?_)
    have gr2 := gr_trans gr1 hg2
    have k1 := hB1.g0 hg2
    have k2 := hN1.grown hg2
    refine WL.storeW (vs := [a, b]) tab_ok rfl rfl rfl (all1c one1 (all1c one2 all1n)) hB2 rfl rfl (fun w3 hB3 hg3 => ?_)
    have gr3 := gr_mod gr2 hg3 (Ge.le (Ge.box hl2) (size_le gr1))
    have k3 := k1.go hg3 (Dj.new hB1.lt' (Ge.box hl2))
    have k4 := Nm.goV k2 hL1 (GrL.of1 hg3) (apC (DnD.one (hv_.new (Ge.le (Ge.box hl2) (size_le gr1)))) apN)
    refine WL.y rfl (Yld.pure tab_ok rfl) ?_
    refine WL.nil (WX.then_normal ?_)
    refine WC.seq ?_
    refine WC.region ?_
    refine WL.y rfl (Yld.fa0 (o := 0) (by kernel_rfl) rfl) ?_
    refine WL.y rfl (Yld.bagg (vs := [a, b]) tab_ok hB3 rfl rfl rfl rfl) ?_
    refine WL.y rfl (Yld.pure tab_ok rfl) ?_
    refine WL.storeW (vs := [a, b]) tab_ok rfl rfl rfl (all1c one1 (all1c one2 all1n)) k3 rfl rfl (fun w4 hB4 hg4 => ?_)
    have gr4 := gr_mod gr3 hg4 (Ge.le (Ge.box hl1) (Nat.le_refl _))
    have k5 := Nm.goV k4 hL1 (GrL.of1 hg4) (apC (DnD.one (hv_.new (Ge.le (Ge.box hl1) (Nat.le_refl _)))) apN)
    refine WL.y rfl (Yld.pure tab_ok rfl) ?_
    refine WL.nil (WX.then_normal ?_)
    refine WC.ret ?_
    exact WX.retct tab_ok rfl rfl rfl hB4 rfl rfl ⟨gr4, a, b, z, 3, true, rfl, k5, one1, one2, H⟩
  · replace H := H.2 he1
    refine WL.y rfl (assertNoV (z := .agg ⟨[.bool false, .slice none 0 0]⟩) Tryd.underlying116 rfl (fun _ => by kernel_rfl) (hv_.grown gr1) rfl (tyP_int he1)) ?_
    refine WL.y rfl (Yld.pure tab_ok rfl) ?_
    refine WL.y rfl (Yld.pure tab_ok rfl) ?_
    refine WL.y rfl (Yld.pure tab_ok rfl) ?_
    refine WL.alloc rfl zero116 (fun g3 w5 hB5 hg5 hl3 => ?_)
    have gr5 := gr_trans gr1 hg5
    have k6 := hB1.g0 hg5
    refine WL.storeW (vs := [.bool false, .slice none 0 0]) tab_ok rfl rfl rfl (all1c rfl (all1c rfl all1n)) hB5 rfl rfl (fun w6 hB6 hg6 => ?_)
    have gr6 := gr_mod gr5 hg6 (Ge.le (Ge.box hl3) (size_le gr1))
    have k7 := k6.go hg6 (Dj.new hB1.lt' (Ge.box hl3))
    refine WL.y rfl (Yld.pure tab_ok rfl) ?_
    refine WL.nil (WX.then_normal ?_)
    refine WC.seq ?_
    refine WC.region ?_
    refine WL.y rfl (Yld.fa0 (o := 0) (by kernel_rfl) rfl) ?_
    refine WL.y rfl (Yld.bagg (vs := [.bool false, .slice none 0 0]) tab_ok hB6 rfl rfl rfl rfl) ?_
    refine WL.y rfl (Yld.pure tab_ok rfl) ?_
    refine WL.storeW (vs := [.bool false, .slice none 0 0]) tab_ok rfl rfl rfl (all1c rfl (all1c rfl all1n)) k7 rfl rfl (fun w7 hB7 hg7 => ?_)
    have gr7 := gr_mod gr6 hg7 (Ge.le (Ge.box hl1) (Nat.le_refl _))
    refine WL.y rfl (Yld.pure tab_ok rfl) ?_
    refine WL.nil (WX.then_normal ?_)
    refine WC.ret ?_
    exact WX.retct tab_ok rfl rfl rfl hB7 rfl rfl ⟨gr7, (.bool false), (.slice none 0 0), 0, 0, false, rfl, (Nm.zero (w := w7)), rfl, rfl, H⟩

set_option maxHeartbeats 8000000 in
theorem W_val_AsInt {w : World} {v_v : OV} {F_v : Nat → Prop} {v_ : PV} {K : Int → Nat → Bool → Prop} (hv_ : RelD deV w [(v_v, F_v)] [v_]) (H : M_val_AsInt v_ K) : Fn Tryd.prog 19 ⟨[v_v.1]⟩ w (fun v w' => w.grownBy w' none ∧ ∃ (v_r0 : Value), ∃ (v_r02 : Value), ∃ (r0 : Int), ∃ (m_r0 : Nat), ∃ (r1 : Bool), v = .tuple #[.agg ⟨[v_r0, v_r02]⟩, .bool r1] ∧ Nm w' (.agg ⟨[v_r0, v_r02]⟩) r0 m_r0 ∧ v_r0.oneCell' = true ∧ v_r02.oneCell' = true ∧ K r0 m_r0 r1) := by
  unfold M_val_AsInt at H
  refine Fn.enter (by kernel_rfl) Tryd.func19 rfl Tryd.ntmps19 rfl ?_
  refine WC.seq ?_
  refine WC.region ?_
  refine WL.alloc rfl zero46 (fun g1 w1 hB1 hg1 hl1 => ?_)
  have gr1 := hg1
  refine WL.y rfl (Yld.pure tab_ok rfl) ?_
  refine WL.nil (WX.then_normal ?_)
  refine WC.seq ?_
  refine WC.region ?_
  refine WL.y rfl (Yld.pure tab_ok rfl) ?_
  refine WL.call rfl rfl (W_val_asInt (hv_.grown gr1) H) ?_
  rintro _ w2 ⟨hg2, v_t50, v_t502, t50, m_t50, t51, rfl, ht50, one_v_t50, one_v_t502, H⟩
  have gr2 := gr_trans gr1 hg2
  have k1 := hB1.g0 hg2
  refine WL.y rfl (Yld.pure tab_ok rfl) ?_
  refine WL.y rfl (Yld.pure tab_ok rfl) ?_
  refine WL.storeW (vs := [v_t50, v_t502]) tab_ok rfl rfl rfl (all1c one_v_t50 (all1c one_v_t502 all1n)) k1 rfl rfl (fun w3 hB2 hg3 => ?_)
  have gr3 := gr_mod gr2 hg3 (Ge.le (Ge.box hl1) (Nat.le_refl _))
  have k2 := ht50.stored k1 (noC (fun x h => Value.noConfusion h) (noC (fun x h => Value.noConfusion h) noN)) hg3
  refine WL.y rfl (Yld.pure tab_ok rfl) ?_
  refine WL.nil (WX.then_normal ?_)
  refine WC.ret ?_
  exact WX.retct tab_ok rfl rfl rfl hB2 rfl rfl ⟨gr3, v_t50, v_t502, t50, m_t50, t51, rfl, k2, one_v_t50, one_v_t502, H⟩

set_option maxHeartbeats 8000000 in
theorem W_smithylaw12_ListSorts {S : List Nat} {w : World} {l : List Int} {A_l : Option Addr} {c_l : Nat} {n_l : Nat} {K : Bool → Prop} (hG : GOK S w) (hS0 : 0 ∈ S) (hS1 : 1 ∈ S) (hS2 : 2 ∈ S) (hS3 : 3 ∈ S) (hS4 : 4 ∈ S) (hS5 : 5 ∈ S) (hS6 : 6 ∈ S) (hS7 : 7 ∈ S) (hS8 : 8 ∈ S) (hS9 : 9 ∈ S) (hS10 : 10 ∈ S) (hS11 : 11 ∈ S) (hS12 : 12 ∈ S) (hS13 : 13 ∈ S) (hS14 : 14 ∈ S) (hS15 : 15 ∈ S) (hS16 : 16 ∈ S) (hl : Rd vi w A_l c_l l) (hn_l : n_l = l.length) (H : M_smithylaw12_ListSorts l K) : Fn Tryd.prog 4 ⟨[.slice A_l n_l c_l]⟩ w (fun v w' => w.grownBy w' none ∧ ∃ (r : Bool), v = .bool r ∧ K r) := by
  subst hn_l
  unfold M_smithylaw12_ListSorts at H
  refine Fn.enter (by kernel_rfl) Tryd.func4 rfl Tryd.ntmps4 rfl ?_
  replace H := H (Nat.le_trans hl.cap hl.max)
  refine WC.seq ?_
  refine WC.region ?_
  refine WL.y rfl (Yld.pure tab_ok rfl) ?_
  refine WL.nil (WX.then_normal ?_)
  refine WC.seq ?_
  refine WC.region ?_
  refine WL.call rfl rfl (W_smithylaw12_first hG hS0 hS1 hS2 hS3 hS4 hS5 hS6 hS7 hS8 hS9 hS10 hS11 hS12 hS13 hS14 hS15 hS16 H) ?_
  rintro _ w1 ⟨hg1, ok, rfl, H⟩
  have gr1 := hg1
  refine WL.y rfl (Yld.pure tab_ok rfl) ?_
  refine WL.nil (WX.then_normal ?_)
  refine WC.seq ?_
  refine WC.seq ?_
  refine WC.region ?_
  refine WL.y rfl (Yld.pure tab_ok rfl) ?_
  refine WL.y rfl (Yld.pure tab_ok rfl) ?_
  refine WL.nil (WX.then_normal ?_)
  refine WC.cond rfl (fun b1 => ?_) (fun b1 => ?_)
  · replace H := H.1 (b1)
    refine WC.seq ?_
    refine WC.region ?_
    refine WL.y rfl (Yld.pure tab_ok rfl) ?_
    refine WL.nil (WX.then_normal ?_)
    refine WC.ret (WX.then_ret ?_)
    exact WX.ret1 rfl rfl ⟨gr1, false, rfl, H⟩
  · replace H := H.2 (b1)
    refine WC.skip (WX.then_normal ?_)
    refine WC.seq ?_
    refine WC.seq ?_
    refine WC.region ?_
    refine WL.y rfl (Yld.pure tab_ok rfl) ?_
    refine WL.y rfl (Yld.pure tab_ok rfl) ?_
    refine WL.y rfl (Yld.pure tab_ok rfl) ?_
    refine WL.y rfl (Yld.pure tab_ok rfl) ?_
    refine WL.midF 3 (fun L' w' => ∃ q1 : Bool, L' = [(30, .bool q1), (0, .slice A_l l.length c_l), (3, .bool ok)] ∧ ((decide ((40 : Int) < (l.length : Int))) || (!ok)) = q1 ∧ w1 = w') ?_ (fun hQ => ?_)
    · rintro _ _ ⟨q1, rfl, rfl, rfl⟩
      refine WL.nil (WX.then_normal ?_)
      refine WC.cond rfl (fun b2 => ?_) (fun b2 => ?_)
      · replace H := H.1 (b2)
        refine WC.seq ?_
        refine WC.region ?_
        refine WL.y rfl (Yld.pure tab_ok rfl) ?_
        refine WL.y rfl (Yld.pure tab_ok rfl) ?_
        refine WL.nil (WX.then_normal ?_)
        refine WC.ret (WX.then_ret ?_)
        exact WX.ret1 rfl rfl ⟨gr1, ok, rfl, H⟩
      · replace H := H.2 (b2)
        refine WC.skip (WX.then_normal ?_)
        refine WC.seq ?_
        refine WC.region ?_
        refine WL.y rfl (Yld.pure tab_ok rfl) ?_
        refine WL.nil (WX.then_normal ?_)
        refine WC.seq ?_
        refine WC.seq ?_
        refine WC.region ?_
        refine WL.y rfl (Yld.pure tab_ok rfl) ?_
        refine WL.nil (WX.then_normal ?_)
        refine WC.block ?_
        obtain ⟨I1, mu1, h0_1, HR1⟩ := H
        refine WC.loopF (fun n' L' w' => ∃ (p : List PV), ∃ (A_p : Option Addr), ∃ (c_p : Nat), ∃ (n_p : Nat), ∃ (hs_p : List VH), ∃ (i : Int), n' = mu1 p i ∧ L' = [(0, .slice A_l l.length c_l), (4, .slice A_p n_p c_p), (5, .int .i64 i)] ∧ I1 p i ∧ n_p = p.length ∧ w.grownBy w' none ∧ Own vv w' w.heap.size 41 A_p c_p hs_p ∧ RelD deV w' hs_p p ∧ DnD deV hs_p p (blk A_p) ∧ NewD deV hs_p p w.heap.size) _ _ ⟨[], none, 0, 0, [], (0 : Int), rfl, rfl, h0_1, rfl, gr1, (Own.nil vv w1 w.heap.size 41), (RelD.nil (d := deV) (w := w1)), DnD.nil, (NewD.nil (d := deV))⟩ (by repeat (first | exact Sub.nil | refine Sub.cons rfl ?_)) ?_
        clear h0_1
        rintro _ _ w2 ⟨p, A_p, c_p, n_p, hs_p, i, rfl, rfl, hI1, rfl, gr2, k1, k2, dj1, or1⟩
        have H := HR1 p i hI1
        refine WC.seq ?_
        refine WC.seq ?_
        refine WC.region ?_
        refine WL.y rfl (Yld.pure tab_ok rfl) ?_
        refine WL.y rfl (Yld.pure tab_ok rfl) ?_
        refine WL.y rfl (Yld.pure tab_ok rfl) ?_
        refine WL.y rfl (Yld.pure tab_ok rfl) ?_
        refine WL.nil (WX.then_normal ?_)
        refine WC.cond rfl (fun b3 => ?_) (fun b3 => ?_)
        · replace H := H.1 (of_decide_eq_true b3)
          refine WC.skip (WX.then_normal ?_)
          refine WC.seq ?_
          refine WC.block ?_
          refine WC.region ?_
          refine WL.y rfl (Yld.pure tab_ok rfl) ?_
          refine WL.y rfl (Yld.pure tab_ok rfl) ?_
          refine WL.y rfl (Yld.pure tab_ok rfl) ?_
          obtain ⟨h1, H⟩ := H
          refine WL.y rfl (Yld.iaddrW tab_ok (hl.grown gr2) rfl rfl rfl rfl h1.1 h1.2) ?_
          refine WL.y rfl (Yld.iload 0 tab_ok (hl.grown gr2) rfl rfl (iltN h1 rfl)) ?_
          obtain ⟨h2, H⟩ := H
          refine WL.y rfl (Yld.rem' rfl rfl h2) ?_
          refine WL.call rfl rfl (W_smithylaw12_small H) ?_
          rintro _ w3 ⟨hg2, v_t44, F_t44, t44, rfl, ht44, ho1, H⟩
          have gr3 := gr_trans gr2 hg2
          have k3 := k1.grown hg2
          have k4 := k2.grown hg2
          refine WL.y rfl (Yld.pure tab_ok rfl) ?_
          refine WL.call rfl rfl (W_smithylaw12_small H) ?_
          rintro _ w4 ⟨hg3, v_t46, F_t46, t46, rfl, ht46, ho2, H⟩
          have gr4 := gr_trans gr3 hg3
          have k5 := k3.grown hg3
          have k6 := k4.grown hg3
          have k7 := ht44.grown hg3
          refine WL.lit (us := [v_t44.1, v_t46.1]) tab_ok rfl rfl rfl (all1c v_t44.2 (all1c v_t46.2 all1n)) rfl (by omega) (fun g2 w6 hB2 hg5 hl2 => ?_)
          have hO2 : Own vv w6 w.heap.size 41 (some ⟨g2, 0, none⟩) 2 ([(v_t44, F_t44), (v_t46, F_t46)] : List VH) := Own.ofBl hB2 (Nat.le_trans (size_le gr4) hl2) (by simp [maxLen]) rfl
          have gr5 := gr_trans gr4 hg5
          have k8 := k5.grown hg5
          have k9 := k6.grown hg5
          have k10 := k7.grown hg5
          have k11 := ht46.grown hg5
          have hr1 : RelD deV w6 ([(v_t44, F_t44), (v_t46, F_t46)] : List VH) ([t44, t46] : List PV) := (RelD.cons (RelD.one k10) (RelD.cons (RelD.one k11) RelD.nil))
          have nd1 : NewD deV ([(v_t44, F_t44), (v_t46, F_t46)] : List VH) ([t44, t46] : List PV) w.heap.size := (NewD.cons (d := deV) (fun p_ hp_ => (DnD.one (ho1 p_ (fun g_ e_ => Nat.lt_of_lt_of_le (hp_ g_ e_) (size_le gr2))))) (NewD.cons (d := deV) (fun p_ hp_ => (DnD.one (ho2 p_ (fun g_ e_ => Nat.lt_of_lt_of_le (hp_ g_ e_) (size_le gr3))))) NewD.nil))
          have dj2 : DnD deV ([(v_t44, F_t44), (v_t46, F_t46)] : List VH) ([t44, t46] : List PV) (blk A_p) := (DnD.cons (d := deV) (DnD.one (ho1 _ k1.lt')) (DnD.cons (d := deV) (DnD.one (ho2 _ k3.lt')) DnD.nil))
          have dj3 : DnD deV ([(v_t44, F_t44), (v_t46, F_t46)] : List VH) ([t44, t46] : List PV) (blk (some ⟨g2, 0, none⟩)) := (DnD.cons (d := deV) (DnD.one (k7.new (Ge.box hl2))) (DnD.cons (d := deV) (DnD.one (ht46.new (Ge.box hl2))) DnD.nil))
          refine WL.call rfl rfl (W_val_Tuple hO2.rd (rfl.trans hr1.1) hr1 H) ?_
          rintro _ w7 ⟨hg6, v_t48, F_t48, t48, rfl, ht48, ho3, H⟩
          have gr6 := gr_trans gr5 hg6
          have k12 := k8.grown hg6
          have k13 := k9.grown hg6
          refine WL.lit (us := [v_t48.1]) tab_ok rfl rfl rfl (all1c v_t48.2 all1n) rfl (by omega) (fun g4 w9 hB4 hg8 hl4 => ?_)
          have hO4 : Own vv w9 w.heap.size 41 (some ⟨g4, 0, none⟩) 1 ([(v_t48, F_t48)] : List VH) := Own.ofBl hB4 (Nat.le_trans (size_le gr6) hl4) (by simp [maxLen]) rfl
          have gr7 := gr_trans gr6 hg8
          have k14 := k12.grown hg8
          have k15 := k13.grown hg8
          have k16 := ht48.grown hg8
          have hr2 : RelD deV w9 ([(v_t48, F_t48)] : List VH) ([t48] : List PV) := (RelD.cons (RelD.one k16) RelD.nil)
          have nd2 : NewD deV ([(v_t48, F_t48)] : List VH) ([t48] : List PV) w.heap.size := (NewD.cons (d := deV) (fun p_ hp_ => (DnD.one (ho3 p_ (fun g_ e_ => Nat.lt_of_lt_of_le (hp_ g_ e_) (size_le gr5)) (nd1 p_ hp_)))) NewD.nil)
          have dj4 : DnD deV ([(v_t48, F_t48)] : List VH) ([t48] : List PV) (blk A_p) := (DnD.cons (d := deV) (DnD.one (ho3 _ k8.lt' dj2)) DnD.nil)
          have dj5 : DnD deV ([(v_t48, F_t48)] : List VH) ([t48] : List PV) (blk (some ⟨g4, 0, none⟩)) := (DnD.cons (d := deV) (DnD.one (ht48.new (Ge.box hl4))) DnD.nil)
          obtain ⟨h3, H⟩ := H
          have h4 : ((hs_p : List VH).length + ([(v_t48, F_t48)] : List VH).length) * 16 ≤ 140737488355328 := by rw [k15.1, hr2.1]; exact h3
          refine WL.append tab_ok rfl rfl One.vv k14 rfl k2.1.symm hO4.rd rfl rfl h4 (applen h4) (size_le gr7) (fun A_p2 c_p2 w10 hO5 hg9 hk1 => ?_)
          have el1 : (hs_p ++ ([(v_t48, F_t48)] : List VH)).length = (p ++ ([t48] : List PV)).length := by rw [List.length_append, List.length_append, k15.1, hr2.1]
          rw [el1]
          have gr8 := gr_mod gr7 hg9 k14.ge'
          have k17 := k15.go hg9 dj1
          have k18 := hr2.go hg9 dj4
          have hr3 : RelD deV w10 (hs_p ++ ([(v_t48, F_t48)] : List VH)) (p ++ ([t48] : List PV)) := RelD.append k17 k18
          have nd3 : NewD deV (hs_p ++ ([(v_t48, F_t48)] : List VH)) (p ++ ([t48] : List PV)) w.heap.size := NewD.append k15.1 or1 nd2
          have dj6 : DnD deV (hs_p ++ ([(v_t48, F_t48)] : List VH)) (p ++ ([t48] : List PV)) (blk (some ⟨g4, 0, none⟩)) := (DnD.append k15.1 (k13.new (Ge.box hl4)) dj5)
          have dj7 : DnD deV (hs_p ++ ([(v_t48, F_t48)] : List VH)) (p ++ ([t48] : List PV)) (blk A_p2) := (DnD.append k15.1 (RelD.app k15 dj1 hk1) (RelD.app hr2 dj4 hk1))
          refine WL.y rfl (Yld.pure tab_ok rfl) ?_
          refine WL.nil (WX.block_normal (WX.then_normal ?_))
          refine WC.region ?_
          refine WL.y rfl (Yld.pure tab_ok rfl) ?_
          obtain ⟨h5, H⟩ := H
          refine WL.y rfl (Yld.add rfl rfl h5) ?_
          refine WL.y rfl (Yld.pure tab_ok rfl) ?_
          refine WL.nil ?_
          exact WX.roundF _ ⟨p ++ ([t48] : List PV), A_p2, c_p2, (p ++ ([t48] : List PV)).length, hs_p ++ ([(v_t48, F_t48)] : List VH), i + (1 : Int), rfl, rfl, H.1, rfl, gr8, hO5, hr3, dj7, nd3⟩ (by repeat (first | exact Sub.nil | refine Sub.cons rfl ?_)) H.2
        · replace H := H.2 (of_decide_eq_false b3)
          refine WC.exit (WX.then_exit (WX.then_exit (WX.block_same (WX.then_normal ?_))))
          refine WC.seq ?_
          refine WC.region ?_
          refine WL.y rfl (Yld.pure tab_ok rfl) ?_
          refine WL.call rfl rfl (W_list_Sorted (hG.grown gr2) hS3 hS7 k1.rd rfl k2 H) ?_
          rintro _ w11 ⟨hg10, t530, A_t530, c_t530, hs_t530, v_t531, t531, rfl, ht530, hr_t530, ho4, dj8, ht531, H⟩
          have hb1 := ht530.ge'
          have k19 := ht530.base (fun g hg => Nat.le_trans (size_le gr2) (hb1 g hg))
          have gr9 := gr_trans gr2 hg10
          have k20 := k1.grown hg10
          have k21 := k2.grown hg10
          refine WL.y rfl (Yld.pure tab_ok rfl) ?_
          refine WL.y rfl (Yld.pure tab_ok rfl) ?_
          refine WL.y rfl (Yld.pure tab_ok rfl) ?_
          refine WL.y rfl (Yld.pure tab_ok rfl) ?_
          refine WL.y rfl (Yld.pure tab_ok rfl) ?_
          refine WL.nil (WX.then_normal ?_)
          refine WC.seq ?_
          refine WC.seq ?_
          refine WC.region ?_
          refine WL.y rfl (Yld.pure tab_ok rfl) ?_
          refine WL.y rfl (Yld.errneq Tryd.underlying34 ht531 rfl) ?_
          refine WL.y rfl (Yld.pure tab_ok rfl) ?_
          refine WL.midF 6 (fun L' w' => ∃ q2 : Bool, L' = [(64, .bool q2), (0, .slice A_l l.length c_l), (6, .slice A_t530 t530.length c_t530)] ∧ ((!decide (t531 = Er.ok)) || (!decide ((t530.length : Int) = (p.length : Int)))) = q2 ∧ w11 = w') ?_ (fun hQ => ?_)
          · rintro _ _ ⟨q2, rfl, rfl, rfl⟩
            refine WL.nil (WX.then_normal ?_)
            refine WC.cond rfl (fun b4 => ?_) (fun b4 => ?_)
            · replace H := H.1 (b4)
              refine WC.seq ?_
              refine WC.region ?_
              refine WL.y rfl (Yld.pure tab_ok rfl) ?_
              refine WL.nil (WX.then_normal ?_)
              refine WC.ret (WX.then_ret ?_)
              exact WX.ret1 rfl rfl ⟨gr9, false, rfl, H⟩
            · replace H := H.2 (b4)
              refine WC.skip (WX.then_normal ?_)
              refine WC.seq ?_
              refine WC.region ?_
              refine WL.y rfl (Yld.pure tab_ok rfl) ?_
              refine WL.y rfl (Yld.pure tab_ok rfl) ?_
              obtain ⟨h6, H⟩ := H
              refine WL.makeZI (f := vB) (z := false) (B := w.heap.size) tab_ok rfl rfl zero4 rfl rfl h6.1 h6.2.1 h6.2.2 (size_le gr9) (fun g5 w12 hO6 hg11 hl5 => ?_)
              have gr10 := gr_trans gr9 hg11
              have k22 := k19.grown hg11
              have k23 := hr_t530.grown hg11
              refine WL.y rfl (Yld.pure tab_ok rfl) ?_
              refine WL.nil (WX.then_normal ?_)
              refine WC.seq ?_
              refine WC.seq ?_
              refine WC.region ?_
              refine WL.y rfl (Yld.pure tab_ok rfl) ?_
              refine WL.nil (WX.then_normal ?_)
              refine WC.block ?_
              obtain ⟨I2, mu2, h0_2, HR2⟩ := H
              refine WC.loopF (fun n' L' w' => ∃ (i2 : Int), ∃ (seen : List Bool), n' = mu2 i2 seen ∧ L' = [(0, .slice A_l l.length c_l), (6, .slice A_t530 t530.length c_t530), (8, .slice (some ⟨g5, 0, none⟩) ((l.length : Int).toNat) ((l.length : Int).toNat)), (9, .int .i64 i2)] ∧ I2 i2 seen ∧ (l.length : Int).toNat = seen.length ∧ w.grownBy w' none ∧ Own vv w' w.heap.size 41 A_t530 c_t530 hs_t530 ∧ RelD deV w' hs_t530 t530 ∧ Own vB w' w.heap.size 4 (some ⟨g5, 0, none⟩) ((l.length : Int).toNat) seen) _ _ ⟨(0 : Int), (List.replicate (l.length : Int).toNat false), rfl, rfl, h0_2, (List.length_replicate).symm, gr10, k22, k23, hO6⟩ (by repeat (first | exact Sub.nil | refine Sub.cons rfl ?_)) ?_
              clear h0_2
              rintro _ _ w13 ⟨i2, seen, rfl, rfl, hI2, hn_seen, gr11, k24, k25, k26⟩
              have H := HR2 i2 seen hI2
              replace H := H hn_seen
              refine WC.seq ?_
              refine WC.seq ?_
              refine WC.region ?_
              refine WL.y rfl (Yld.pure tab_ok rfl) ?_
              refine WL.y rfl (Yld.pure tab_ok rfl) ?_
              refine WL.y rfl (Yld.pure tab_ok rfl) ?_
              refine WL.y rfl (Yld.pure tab_ok rfl) ?_
              refine WL.nil (WX.then_normal ?_)
              refine WC.cond rfl (fun b5 => ?_) (fun b5 => ?_)
              · replace H := H.1 (of_decide_eq_true b5)
                refine WC.skip (WX.then_normal ?_)
                refine WC.seq ?_
                obtain ⟨J1, H, hJ1⟩ := H
                refine WC.midF (fun L' w' => ∃ (xs : List Bool), L' = [(0, .slice A_l l.length c_l), (6, .slice A_t530 t530.length c_t530), (8, .slice (some ⟨g5, 0, none⟩) ((l.length : Int).toNat) ((l.length : Int).toNat)), (9, .int .i64 i2)] ∧ J1 xs ∧ (l.length : Int).toNat = xs.length ∧ w.grownBy w' none ∧ Own vv w' w.heap.size 41 A_t530 c_t530 hs_t530 ∧ RelD deV w' hs_t530 t530 ∧ Own vB w' w.heap.size 4 (some ⟨g5, 0, none⟩) ((l.length : Int).toNat) xs) ?_ (fun hQ => ?_)
                · clear H
                  rintro _ w14 ⟨xs, rfl, H, hn_xs, gr12, k27, k28, k29⟩
                  replace H := hJ1 xs H
                  replace H := H hn_xs
                  refine WX.then_normal ?_
                  refine WC.region ?_
                  refine WL.y rfl (Yld.pure tab_ok rfl) ?_
                  obtain ⟨h7, H⟩ := H
                  refine WL.y rfl (Yld.add rfl rfl h7) ?_
                  refine WL.y rfl (Yld.pure tab_ok rfl) ?_
                  refine WL.nil ?_
                  exact WX.roundF _ ⟨i2 + (1 : Int), xs, rfl, rfl, H.1, hn_xs, gr12, k27, k28, k29⟩ (by repeat (first | exact Sub.nil | refine Sub.cons rfl ?_)) H.2
                · clear hJ1
                  refine WC.block ?_
                  refine WC.seq ?_
                  refine WC.region ?_
                  refine WL.y rfl (Yld.pure tab_ok rfl) ?_
                  refine WL.y rfl (Yld.pure tab_ok rfl) ?_
                  obtain ⟨h8, H⟩ := H
                  refine WL.y rfl (Yld.iaddrW tab_ok k24.rd rfl rfl hr_t530.1.symm rfl h8.1 h8.2) ?_
                  obtain ⟨⟨v_el, F_el⟩, eh1, hR1⟩ := RelD.at k25 vh0 PV.nil (j := i2.toNat) (Nat.lt_of_lt_of_eq (iltN h8 hr_t530.1.symm) k25.1)
                  have hv1 : RelD deV w13 [(v_el, F_el)] [t530.getD i2.toNat PV.nil] := RelD.cons hR1 RelD.nil
                  refine WL.y rfl (Yld.to (v := v_el.1) (Yld.iload vh0 tab_ok k24.rd rfl rfl (iltN h8 hr_t530.1.symm)) (congrArg vv eh1)) ?_
                  refine WL.call rfl rfl (W_val_Items hv1 H) ?_
                  rintro _ w15 ⟨hg12, t790, A_t790, c_t790, hs_t790, t791, rfl, ht790, hr_t790, ho5, dj9, H⟩
                  have hb2 := ht790.ge'
                  have k30 := ht790.base (fun g hg => Nat.le_trans (size_le gr11) (hb2 g hg))
                  have gr13 := gr_trans gr11 hg12
                  have k31 := k24.grown hg12
                  have k32 := k25.grown hg12
                  have k33 := k26.grown hg12
                  refine WL.y rfl (Yld.pure tab_ok rfl) ?_
                  refine WL.y rfl (Yld.pure tab_ok rfl) ?_
                  refine WL.y rfl (Yld.pure tab_ok rfl) ?_
                  refine WL.y rfl (Yld.pure tab_ok rfl) ?_
                  refine WL.y rfl (Yld.pure tab_ok rfl) ?_
                  refine WL.nil (WX.then_normal ?_)
                  refine WC.seq ?_
                  refine WC.seq ?_
                  refine WC.region ?_
                  refine WL.y rfl (Yld.pure tab_ok rfl) ?_
                  refine WL.y rfl (Yld.pure tab_ok rfl) ?_
                  refine WL.y rfl (Yld.pure tab_ok rfl) ?_
                  refine WL.midF 4 (fun L' w' => ∃ q3 : Bool, L' = [(88, .bool q3), (0, .slice A_l l.length c_l), (6, .slice A_t530 t530.length c_t530), (8, .slice (some ⟨g5, 0, none⟩) ((l.length : Int).toNat) ((l.length : Int).toNat)), (9, .int .i64 i2), (10, .slice A_t790 t790.length c_t790)] ∧ ((!t791) || (!decide ((t790.length : Int) = (2 : Int)))) = q3 ∧ w15 = w') ?_ (fun hQ => ?_)
                  · rintro _ _ ⟨q3, rfl, rfl, rfl⟩
                    refine WL.nil (WX.then_normal ?_)
                    refine WC.cond rfl (fun b6 => ?_) (fun b6 => ?_)
                    · replace H := H.1 (b6)
                      refine WC.seq ?_
                      refine WC.region ?_
                      refine WL.y rfl (Yld.pure tab_ok rfl) ?_
                      refine WL.nil (WX.then_normal ?_)
                      refine WC.ret (WX.then_ret (WX.block_ret (WX.then_ret (WX.then_ret (WX.block_ret (WX.then_ret ?_))))))
                      exact WX.ret1 rfl rfl ⟨gr13, false, rfl, H⟩
                    · replace H := H.2 (b6)
                      refine WC.skip (WX.then_normal ?_)
                      refine WC.seq ?_
                      refine WC.region ?_
                      refine WL.y rfl (Yld.pure tab_ok rfl) ?_
                      obtain ⟨h9, H⟩ := H
                      refine WL.y rfl (Yld.iaddrW tab_ok k30.rd rfl rfl hr_t790.1.symm rfl h9.1 h9.2) ?_
                      obtain ⟨⟨v_el2, F_el2⟩, eh2, hR2⟩ := RelD.at hr_t790 vh0 PV.nil (j := 1) (Nat.lt_of_lt_of_eq (iltN h9 hr_t790.1.symm) hr_t790.1)
                      have hv2 : RelD deV w15 [(v_el2, F_el2)] [t790.getD 1 PV.nil] := RelD.cons hR2 RelD.nil
                      refine WL.y rfl (Yld.to (v := v_el2.1) (Yld.iload vh0 tab_ok k30.rd rfl rfl (iltN h9 hr_t790.1.symm)) (congrArg vv eh2)) ?_
                      refine WL.call rfl rfl (W_val_AsInt hv2 H) ?_
                      rintro _ w16 ⟨hg13, v_t930, v_t9302, t930, m_t930, t931, rfl, ht930, one_v_t930, one_v_t9302, H⟩
                      have gr14 := gr_trans gr13 hg13
                      have k34 := k31.grown hg13
                      have k35 := k32.grown hg13
                      have k36 := k33.grown hg13
                      refine WL.y rfl (Yld.pure tab_ok rfl) ?_
                      refine WL.y rfl (Yld.pure tab_ok rfl) ?_
                      refine WL.y rfl (Yld.pure tab_ok rfl) ?_
                      refine WL.alloc rfl zero46 (fun g6 w17 hB5 hg14 hl6 => ?_)
                      have gr15 := gr_trans gr14 hg14
                      have k37 := k34.grown hg14
                      have k38 := k35.grown hg14
                      have k39 := k36.grown hg14
                      have k40 := ht930.grown hg14
                      refine WL.storeW (vs := [v_t930, v_t9302]) tab_ok rfl rfl rfl (all1c one_v_t930 (all1c one_v_t9302 all1n)) hB5 rfl rfl (fun w18 hB6 hg15 => ?_)
                      have gr16 := gr_mod gr15 hg15 (Ge.le (Ge.box hl6) (size_le gr14))
                      have k41 := k37.go hg15 (Dj.new k34.lt' (Ge.box hl6))
                      have k42 := k38.go hg15 (k35.new (Ge.box hl6))
                      have k43 := k39.go hg15 (Dj.new k36.lt' (Ge.box hl6))
                      have k44 := k40.stored hB5 (noC (fun x h => Value.noConfusion h) (noC (fun x h => Value.noConfusion h) noN)) hg15
                      refine WL.y rfl (Yld.pure tab_ok rfl) ?_
                      refine WL.nil (WX.then_normal ?_)
                      refine WC.seq ?_
                      refine WC.region ?_
                      refine WL.y rfl (Yld.bagg (vs := [v_t930, v_t9302]) tab_ok hB6 rfl rfl rfl rfl) ?_
                      refine WL.call rfl rfl (W_num_Num_Int k44 H) ?_
                      rintro _ w19 ⟨hg16, t980, t981, rfl, H⟩
                      have gr17 := gr_trans gr16 hg16
                      have k45 := k41.grown hg16
                      have k46 := k42.grown hg16
                      have k47 := k43.grown hg16
                      refine WL.y rfl (Yld.pure tab_ok rfl) ?_
                      refine WL.y rfl (Yld.pure tab_ok rfl) ?_
                      refine WL.y rfl (Yld.pure tab_ok rfl) ?_
                      refine WL.y rfl (Yld.pure tab_ok rfl) ?_
                      refine WL.y rfl (Yld.pure tab_ok rfl) ?_
                      refine WL.nil (WX.then_normal ?_)
                      refine WC.seq ?_
                      refine WC.seq ?_
                      refine WC.region ?_
                      refine WL.y rfl (Yld.pure tab_ok rfl) ?_
                      refine WL.y rfl (Yld.pure tab_ok rfl) ?_
                      refine WL.y rfl (Yld.pure tab_ok rfl) ?_
                      refine WL.midF 5 (fun L' w' => ∃ q4 : Bool, L' = [(108, .bool q4), (0, .slice A_l l.length c_l), (6, .slice A_t530 t530.length c_t530), (8, .slice (some ⟨g5, 0, none⟩) ((l.length : Int).toNat) ((l.length : Int).toNat)), (9, .int .i64 i2), (14, .int .i64 t980)] ∧ ((decide (t980 < (0 : Int))) || (decide ((l.length : Int) ≤ t980))) = q4 ∧ w19 = w') ?_ (fun hQ => ?_)
                      · rintro _ _ ⟨q4, rfl, rfl, rfl⟩
                        refine WL.y rfl (Yld.pure tab_ok rfl) ?_
                        obtain ⟨h10, H⟩ := H
                        refine WL.midF 5 (fun L' w' => ∃ q5 : Bool, L' = [(114, .bool q5), (0, .slice A_l l.length c_l), (6, .slice A_t530 t530.length c_t530), (8, .slice (some ⟨g5, 0, none⟩) ((l.length : Int).toNat) ((l.length : Int).toNat)), (9, .int .i64 i2), (14, .int .i64 t980)] ∧ (((decide (t980 < (0 : Int))) || (decide ((l.length : Int) ≤ t980))) || (seen.getD t980.toNat false)) = q5 ∧ w19 = w') ?_ (fun hQ => ?_)
                        · rintro _ _ ⟨q5, rfl, rfl, rfl⟩
                          refine WL.nil (WX.then_normal ?_)
                          refine WC.cond rfl (fun b7 => ?_) (fun b7 => ?_)
                          · replace H := H.1 (b7)
                            refine WC.seq ?_
                            refine WC.region ?_
                            refine WL.y rfl (Yld.pure tab_ok rfl) ?_
                            refine WL.nil (WX.then_normal ?_)
                            refine WC.ret (WX.then_ret (WX.block_ret (WX.then_ret (WX.then_ret (WX.block_ret (WX.then_ret ?_))))))
                            exact WX.ret1 rfl rfl ⟨gr17, false, rfl, H⟩
                          · replace H := H.2 (b7)
                            refine WC.skip (WX.then_normal ?_)
                            refine WC.seq ?_
                            refine WC.region ?_
                            refine WL.y rfl (Yld.pure tab_ok rfl) ?_
                            refine WL.y rfl (Yld.pure tab_ok rfl) ?_
                            obtain ⟨h11, H⟩ := H
                            refine WL.y rfl (Yld.iaddrW tab_ok k47.rd rfl rfl hn_seen rfl h11.1 h11.2) ?_
                            refine WL.ostore (v := true) one4 One.B k47 rfl rfl (iltN h11 hn_seen) (fun w20 hO7 hg17 => ?_)
                            have gr18 := gr_mod gr17 hg17 k47.ge'
                            have k48 := k45.go hg17 (Dj.new k19.lt' (Ge.box hl5))
                            have k49 := k46.go hg17 (hr_t530.new (Ge.box hl5))
                            refine WL.nil (WX.then_normal ?_)
                            refine WC.seq ?_
                            refine WC.region ?_
                            refine WL.y rfl (Yld.pure tab_ok rfl) ?_
                            refine WL.y rfl (Yld.pure tab_ok rfl) ?_
                            refine WL.nil (WX.then_normal ?_)
                            refine WC.cond rfl (fun b8 => ?_) (fun b8 => ?_)
                            · replace H := H.1 (of_decide_eq_true b8)
                              refine WC.seq ?_
                              refine WC.chainF (fun k => !(Nat.beq k 9)) (LD [3, 8] (fun w' => Rd vv w' A_t530 c_t530 hs_t530)) mixed (by kernel_rfl) (fun k w' h _ => (rd_eqv h k48.rd)) ?_
                              refine WJ.y rfl rfl (fun w' hw' => Yld.pure tab_ok rfl) ?_
                              refine WJ.y rfl rfl (fun w' hw' => Yld.pure tab_ok rfl) ?_
                              obtain ⟨h12, H⟩ := H
                              refine WJ.y rfl rfl (fun w' hw' => Yld.iaddrW tab_ok k48.rd rfl rfl hr_t530.1.symm rfl h12.1 h12.2) ?_
                              obtain ⟨⟨v_el3, F_el3⟩, eh3, hR3⟩ := RelD.at k49 vh0 PV.nil (j := i2.toNat) (Nat.lt_of_lt_of_eq (iltN h12 hr_t530.1.symm) k49.1)
                              have hv3 : RelD deV w20 [(v_el3, F_el3)] [t530.getD i2.toNat PV.nil] := RelD.cons hR3 RelD.nil
                              refine WJ.y rfl rfl (fun w' hw' => Yld.to (v := v_el3.1) (Yld.iload vh0 tab_ok (hw' rfl) rfl rfl (iltN h12 hr_t530.1.symm)) (congrArg vv eh3)) ?_
                              refine WJ.y rfl rfl (fun w' hw' => Yld.pure tab_ok rfl) ?_
                              refine WJ.y rfl rfl (fun w' hw' => Yld.pure tab_ok rfl) ?_
                              obtain ⟨h13, H⟩ := H
                              refine WJ.y rfl rfl (fun w' hw' => Yld.sub rfl rfl h13) ?_
                              obtain ⟨h14, H⟩ := H
                              refine WJ.y rfl rfl (fun w' hw' => Yld.iaddrW tab_ok k48.rd rfl rfl hr_t530.1.symm rfl h14.1 h14.2) ?_
                              obtain ⟨⟨v_el4, F_el4⟩, eh4, hR4⟩ := RelD.at k49 vh0 PV.nil (j := (i2 - (1 : Int)).toNat) (Nat.lt_of_lt_of_eq (iltN h14 hr_t530.1.symm) k49.1)
                              have hv4 : RelD deV w20 [(v_el4, F_el4)] [t530.getD ((i2 - (1 : Int)).toNat) PV.nil] := RelD.cons hR4 RelD.nil
                              refine WJ.y rfl rfl (fun w' hw' => Yld.to (v := v_el4.1) (Yld.iload vh0 tab_ok (hw' rfl) rfl rfl (iltN h14 hr_t530.1.symm)) (congrArg vv eh4)) ?_
                              refine WJ.call rfl (wants_none) rfl rfl (W_val_Less (hG.grown gr18) hS3 hS7 hv3 hv4 H) (fun v w' h w2 e => DD.keep (Rd.grown k48.rd (gr_eqv h.1 e))) ?_
                              rintro _ w21 ⟨hg18, t1300, v_t1301, t1301, rfl, ht1301, H⟩
                              have gr19 := gr_trans gr18 hg18
                              have k50 := k48.grown hg18
                              have k51 := k49.grown hg18
                              have k52 := hO7.grown hg18
                              refine WJ.y rfl rfl (fun w' hw' => Yld.pure tab_ok rfl) ?_
                              refine WJ.y rfl rfl (fun w' hw' => Yld.pure tab_ok rfl) ?_
                              refine WJ.y rfl rfl (fun w' hw' => Yld.pure tab_ok rfl) ?_
                              refine WJ.y rfl rfl (fun w' hw' => Yld.pure tab_ok rfl) ?_
                              refine WJ.y rfl rfl (fun w' hw' => Yld.pure tab_ok rfl) ?_
                              refine WJ.nil (WX.then_normal ?_)
                              refine WC.seq ?_
                              refine WC.region ?_
                              refine WL.y rfl (Yld.pure tab_ok rfl) ?_
                              refine WL.y rfl (Yld.pure tab_ok rfl) ?_
                              refine WL.midF 3 (fun L' w' => ∃ q6 : Bool, L' = [(137, .bool q6), (0, .slice A_l l.length c_l), (6, .slice A_t530 t530.length c_t530), (8, .slice (some ⟨g5, 0, none⟩) ((l.length : Int).toNat) ((l.length : Int).toNat)), (9, .int .i64 i2)] ∧ (t1300 || (!decide (t1301 = Er.ok))) = q6 ∧ w21 = w') ?_ (fun hQ => ?_)
                              · rintro _ _ ⟨q6, rfl, rfl, rfl⟩
                                refine WL.nil (WX.then_normal ?_)
                                refine WC.cond rfl (fun b9 => ?_) (fun b9 => ?_)
                                · replace H := H.1 (b9)
                                  refine WC.seq ?_
                                  refine WC.region ?_
                                  refine WL.y rfl (Yld.pure tab_ok rfl) ?_
                                  refine WL.nil (WX.then_normal ?_)
                                  refine WC.ret (WX.block_ret (WX.then_ret (WX.then_ret (WX.block_ret (WX.then_ret ?_)))))
                                  exact WX.ret1 rfl rfl ⟨gr19, false, rfl, H⟩
                                · replace H := H.2 (b9)
                                  refine WC.skip (WX.block_normal ?_)
                                  exact WX.weaken (by repeat (first | exact Sub.nil | refine Sub.cons rfl ?_)) (hQ _ _ ⟨seen.set t980.toNat true, rfl, H, (hn_seen.trans List.length_set.symm), gr19, k50, k51, k52⟩)
                              · clear H
                                rcases Bool.eq_false_or_eq_true (t1300) with b10 | b10
                                · refine WL.gno rfl rfl (okb b10) rfl ?_
                                  refine WL.gno rfl rfl (okb b10) rfl ?_
                                  refine WL.y rfl (Yld.pickT (okb b10) rfl) ?_
                                  exact WL.weaken (by repeat (first | exact Sub.nil | refine Sub.cons rfl ?_)) (hQ _ _ ⟨true, rfl, by rw [b10] <;> rfl, rfl⟩)
                                · refine WL.gyes rfl rfl (okb b10) rfl (Yld.pure tab_ok rfl) ?_
                                  refine WL.gyes rfl rfl (okb b10) rfl (Yld.errneq Tryd.underlying34 ht1301 rfl) ?_
                                  refine WL.y rfl (Yld.pickF (okb b10) rfl) ?_
                                  exact WL.weaken (by repeat (first | exact Sub.nil | refine Sub.cons rfl ?_)) (hQ _ _ ⟨!decide (t1301 = Er.ok), rfl, by rw [b10] <;> rfl, rfl⟩)
                            · replace H := H.2 (of_decide_eq_false b8)
                              refine WC.skip (WX.block_normal ?_)
                              exact WX.weaken (by repeat (first | exact Sub.nil | refine Sub.cons rfl ?_)) (hQ _ _ ⟨seen.set t980.toNat true, rfl, H, (hn_seen.trans List.length_set.symm), gr18, k48, k49, hO7⟩)
                        · clear H
                          rcases Bool.eq_false_or_eq_true ((decide (t980 < (0 : Int))) || (decide ((l.length : Int) ≤ t980))) with b11 | b11
                          · refine WL.gno rfl rfl (okb b11) rfl ?_
                            refine WL.gno rfl rfl (okb b11) rfl ?_
                            refine WL.gno rfl rfl (okb b11) rfl ?_
                            refine WL.gno rfl rfl (okb b11) rfl ?_
                            refine WL.y rfl (Yld.pickT (okb b11) rfl) ?_
                            exact WL.weaken (by repeat (first | exact Sub.nil | refine Sub.cons rfl ?_)) (hQ _ _ ⟨true, rfl, by rw [b11] <;> rfl, rfl⟩)
                          · refine WL.gyes rfl rfl (okb b11) rfl (Yld.pure tab_ok rfl) ?_
                            refine WL.gyes rfl rfl (okb b11) rfl (Yld.pure tab_ok rfl) ?_
                            refine WL.gyes rfl rfl (okb b11) rfl (Yld.iaddrW tab_ok k47.rd rfl rfl hn_seen rfl (h10 b11).1 (h10 b11).2) ?_
                            refine WL.gyes rfl rfl (okb b11) rfl (Yld.iload false tab_ok k47.rd rfl rfl (iltN (h10 b11) hn_seen)) ?_
                            refine WL.y rfl (Yld.pickF (okb b11) rfl) ?_
                            exact WL.weaken (by repeat (first | exact Sub.nil | refine Sub.cons rfl ?_)) (hQ _ _ ⟨seen.getD t980.toNat false, rfl, by rw [b11] <;> rfl, rfl⟩)
                      · clear H
                        rcases Bool.eq_false_or_eq_true (decide (t980 < (0 : Int))) with b12 | b12
                        · refine WL.gno rfl rfl (okb b12) rfl ?_
                          refine WL.gno rfl rfl (okb b12) rfl ?_
                          refine WL.gno rfl rfl (okb b12) rfl ?_
                          refine WL.gno rfl rfl (okb b12) rfl ?_
                          refine WL.y rfl (Yld.pickT (okb b12) rfl) ?_
                          exact WL.weaken (by repeat (first | exact Sub.nil | refine Sub.cons rfl ?_)) (hQ _ _ ⟨true, rfl, by rw [b12] <;> rfl, rfl⟩)
                        · refine WL.gyes rfl rfl (okb b12) rfl (Yld.pure tab_ok rfl) ?_
                          refine WL.gyes rfl rfl (okb b12) rfl (Yld.pure tab_ok rfl) ?_
                          refine WL.gyes rfl rfl (okb b12) rfl (Yld.pure tab_ok rfl) ?_
                          refine WL.gyes rfl rfl (okb b12) rfl (Yld.pure tab_ok rfl) ?_
                          refine WL.y rfl (Yld.pickF (okb b12) rfl) ?_
                          exact WL.weaken (by repeat (first | exact Sub.nil | refine Sub.cons rfl ?_)) (hQ _ _ ⟨decide ((l.length : Int) ≤ t980), rfl, by rw [b12] <;> rfl, rfl⟩)
                  · clear H
                    rcases Bool.eq_false_or_eq_true (!t791) with b13 | b13
                    · refine WL.gno rfl rfl (okb b13) rfl ?_
                      refine WL.gno rfl rfl (okb b13) rfl ?_
                      refine WL.gno rfl rfl (okb b13) rfl ?_
                      refine WL.y rfl (Yld.pickT (okb b13) rfl) ?_
                      exact WL.weaken (by repeat (first | exact Sub.nil | refine Sub.cons rfl ?_)) (hQ _ _ ⟨true, rfl, by rw [b13] <;> rfl, rfl⟩)
                    · refine WL.gyes rfl rfl (okb b13) rfl (Yld.pure tab_ok rfl) ?_
                      refine WL.gyes rfl rfl (okb b13) rfl (Yld.pure tab_ok rfl) ?_
                      refine WL.gyes rfl rfl (okb b13) rfl (Yld.pure tab_ok rfl) ?_
                      refine WL.y rfl (Yld.pickF (okb b13) rfl) ?_
                      exact WL.weaken (by repeat (first | exact Sub.nil | refine Sub.cons rfl ?_)) (hQ _ _ ⟨!decide ((t790.length : Int) = (2 : Int)), rfl, by rw [b13] <;> rfl, rfl⟩)
              · replace H := H.2 (of_decide_eq_false b5)
                refine WC.exit (WX.then_exit (WX.then_exit (WX.block_same (WX.then_normal ?_))))
                refine WC.seq ?_
                refine WC.region ?_
                refine WL.y rfl (Yld.pure tab_ok rfl) ?_
                refine WL.call rfl rfl (W_list_Sorted (hG.grown gr11) hS3 hS7 k24.rd rfl k25 H) ?_
                rintro _ w22 ⟨hg19, t1400, A_t1400, c_t1400, hs_t1400, v_t1401, t1401, rfl, ht1400, hr_t1400, ho6, dj10, ht1401, H⟩
                have hb3 := ht1400.ge'
                have k53 := ht1400.base (fun g hg => Nat.le_trans (size_le gr11) (hb3 g hg))
                have gr20 := gr_trans gr11 hg19
                have k54 := k24.grown hg19
                have k55 := k25.grown hg19
                refine WL.y rfl (Yld.pure tab_ok rfl) ?_
                refine WL.y rfl (Yld.pure tab_ok rfl) ?_
                refine WL.y rfl (Yld.pure tab_ok rfl) ?_
                refine WL.y rfl (Yld.pure tab_ok rfl) ?_
                refine WL.y rfl (Yld.pure tab_ok rfl) ?_
                refine WL.nil (WX.then_normal ?_)
                refine WC.seq ?_
                refine WC.seq ?_
                refine WC.region ?_
                refine WL.y rfl (Yld.pure tab_ok rfl) ?_
                refine WL.y rfl (Yld.errneq Tryd.underlying34 ht1401 rfl) ?_
                refine WL.y rfl (Yld.pure tab_ok rfl) ?_
                refine WL.midF 6 (fun L' w' => ∃ q7 : Bool, L' = [(151, .bool q7), (6, .slice A_t530 t530.length c_t530), (18, .slice A_t1400 t1400.length c_t1400)] ∧ ((!decide (t1401 = Er.ok)) || (!decide ((t1400.length : Int) = (t530.length : Int)))) = q7 ∧ w22 = w') ?_ (fun hQ => ?_)
                · rintro _ _ ⟨q7, rfl, rfl, rfl⟩
                  refine WL.nil (WX.then_normal ?_)
                  refine WC.cond rfl (fun b14 => ?_) (fun b14 => ?_)
                  · replace H := H.1 (b14)
                    refine WC.seq ?_
                    refine WC.region ?_
                    refine WL.y rfl (Yld.pure tab_ok rfl) ?_
                    refine WL.nil (WX.then_normal ?_)
                    refine WC.ret (WX.then_ret ?_)
                    exact WX.ret1 rfl rfl ⟨gr20, false, rfl, H⟩
                  · replace H := H.2 (b14)
                    refine WC.skip (WX.then_normal ?_)
                    refine WC.seq ?_
                    refine WC.seq ?_
                    refine WC.region ?_
                    refine WL.y rfl (Yld.pure tab_ok rfl) ?_
                    refine WL.nil (WX.then_normal ?_)
                    refine WC.block ?_
                    obtain ⟨I3, mu3, h0_3, HR3⟩ := H
                    refine WC.loopF (fun n' L' w' => ∃ (i3 : Int), n' = mu3 i3 ∧ L' = [(6, .slice A_t530 t530.length c_t530), (18, .slice A_t1400 t1400.length c_t1400), (20, .int .i64 i3)] ∧ I3 i3 ∧ w.grownBy w' none ∧ Own vv w' w.heap.size 41 A_t530 c_t530 hs_t530 ∧ RelD deV w' hs_t530 t530 ∧ Own vv w' w.heap.size 41 A_t1400 c_t1400 hs_t1400 ∧ RelD deV w' hs_t1400 t1400) _ _ ⟨(0 : Int), rfl, rfl, h0_3, gr20, k54, k55, k53, hr_t1400⟩ (by repeat (first | exact Sub.nil | refine Sub.cons rfl ?_)) ?_
                    clear h0_3
                    rintro _ _ w23 ⟨i3, rfl, rfl, hI3, gr21, k56, k57, k58, k59⟩
                    have H := HR3 i3 hI3
                    refine WC.seq ?_
                    refine WC.seq ?_
                    refine WC.region ?_
                    refine WL.y rfl (Yld.pure tab_ok rfl) ?_
                    refine WL.y rfl (Yld.pure tab_ok rfl) ?_
                    refine WL.y rfl (Yld.pure tab_ok rfl) ?_
                    refine WL.y rfl (Yld.pure tab_ok rfl) ?_
                    refine WL.nil (WX.then_normal ?_)
                    refine WC.cond rfl (fun b15 => ?_) (fun b15 => ?_)
                    · replace H := H.1 (of_decide_eq_true b15)
                      refine WC.skip (WX.then_normal ?_)
                      refine WC.seq ?_
                      refine WC.block ?_
                      refine WC.seq ?_
                      refine WC.chainF (fun k => !(Nat.beq k 4 || Nat.beq k 13)) (LD [3, 12] (fun w' => Rd vv w' A_t1400 c_t1400 hs_t1400 ∧ Rd vv w' A_t530 c_t530 hs_t530)) mixed (by kernel_rfl) (fun k w' h _ => ⟨(rd_eqv h k58.rd), (rd_eqv h k56.rd)⟩) ?_
                      refine WJ.y rfl rfl (fun w' hw' => Yld.pure tab_ok rfl) ?_
                      refine WJ.y rfl rfl (fun w' hw' => Yld.pure tab_ok rfl) ?_
                      obtain ⟨h15, H⟩ := H
                      refine WJ.y rfl rfl (fun w' hw' => Yld.iaddrW tab_ok k58.rd rfl rfl hr_t1400.1.symm rfl h15.1 h15.2) ?_
                      obtain ⟨⟨v_el5, F_el5⟩, eh5, hR5⟩ := RelD.at k59 vh0 PV.nil (j := i3.toNat) (Nat.lt_of_lt_of_eq (iltN h15 hr_t1400.1.symm) k59.1)
                      have hv5 : RelD deV w23 [(v_el5, F_el5)] [t1400.getD i3.toNat PV.nil] := RelD.cons hR5 RelD.nil
                      refine WJ.y rfl rfl (fun w' hw' => Yld.to (v := v_el5.1) (Yld.iload vh0 tab_ok (hw' rfl).1 rfl rfl (iltN h15 hr_t1400.1.symm)) (congrArg vv eh5)) ?_
                      refine WJ.call rfl (wants_none) rfl rfl (W_val_Repr hv5 H) (fun v w' h w2 e => DD.keep (⟨(Rd.grown k58.rd (gr_eqv h.1 e)), (Rd.grown k56.rd (gr_eqv h.1 e))⟩)) ?_
                      rintro _ w24 ⟨hg20, t162, rfl, H⟩
                      have gr22 := gr_trans gr21 hg20
                      have k60 := k56.grown hg20
                      have k61 := k57.grown hg20
                      have k62 := k58.grown hg20
                      have k63 := k59.grown hg20
                      refine WJ.y rfl rfl (fun w' hw' => Yld.pure tab_ok rfl) ?_
                      refine WJ.y rfl rfl (fun w' hw' => Yld.pure tab_ok rfl) ?_
                      refine WJ.y rfl rfl (fun w' hw' => Yld.pure tab_ok rfl) ?_
                      obtain ⟨h16, H⟩ := H
                      refine WJ.y rfl rfl (fun w' hw' => Yld.sub rfl rfl h16) ?_
                      refine WJ.y rfl rfl (fun w' hw' => Yld.pure tab_ok rfl) ?_
                      obtain ⟨h17, H⟩ := H
                      refine WJ.y rfl rfl (fun w' hw' => Yld.sub rfl rfl h17) ?_
                      obtain ⟨h18, H⟩ := H
                      refine WJ.y rfl rfl (fun w' hw' => Yld.iaddrW tab_ok k60.rd rfl rfl hr_t530.1.symm rfl h18.1 h18.2) ?_
                      obtain ⟨⟨v_el6, F_el6⟩, eh6, hR6⟩ := RelD.at k61 vh0 PV.nil (j := (((t530.length : Int) - (1 : Int)) - i3).toNat) (Nat.lt_of_lt_of_eq (iltN h18 hr_t530.1.symm) k61.1)
                      have hv6 : RelD deV w24 [(v_el6, F_el6)] [t530.getD ((((t530.length : Int) - (1 : Int)) - i3).toNat) PV.nil] := RelD.cons hR6 RelD.nil
                      refine WJ.y rfl rfl (fun w' hw' => Yld.to (v := v_el6.1) (Yld.iload vh0 tab_ok (hw' rfl).2 rfl rfl (iltN h18 hr_t530.1.symm)) (congrArg vv eh6)) ?_
                      refine WJ.call rfl (wants_none) rfl rfl (W_val_Repr hv6 H) (fun v w' h w2 e => DD.keep (⟨(Rd.grown k62.rd (gr_eqv h.1 e)), (Rd.grown k60.rd (gr_eqv h.1 e))⟩)) ?_
                      rintro _ w25 ⟨hg21, t171, rfl, H⟩
                      have gr23 := gr_trans gr22 hg21
                      have k64 := k60.grown hg21
                      have k65 := k61.grown hg21
                      have k66 := k62.grown hg21
                      have k67 := k63.grown hg21
                      refine WJ.y rfl rfl (fun w' hw' => Yld.pure tab_ok rfl) ?_
                      refine WJ.nil (WX.then_normal ?_)
                      refine WC.cond rfl (fun b16 => ?_) (fun b16 => ?_)
                      · replace H := H.1 (nd_true b16)
                        refine WC.seq ?_
                        refine WC.region ?_
                        refine WL.y rfl (Yld.pure tab_ok rfl) ?_
                        refine WL.nil (WX.then_normal ?_)
                        refine WC.ret (WX.block_ret (WX.then_ret (WX.then_ret (WX.block_ret (WX.then_ret ?_)))))
                        exact WX.ret1 rfl rfl ⟨gr23, false, rfl, H⟩
                      · replace H := H.2 (nd_false b16)
                        refine WC.skip (WX.block_normal (WX.then_normal ?_))
                        refine WC.region ?_
                        refine WL.y rfl (Yld.pure tab_ok rfl) ?_
                        obtain ⟨h19, H⟩ := H
                        refine WL.y rfl (Yld.add rfl rfl h19) ?_
                        refine WL.y rfl (Yld.pure tab_ok rfl) ?_
                        refine WL.nil ?_
                        exact WX.roundF _ ⟨i3 + (1 : Int), rfl, rfl, H.1, gr23, k64, k65, k66, k67⟩ (by repeat (first | exact Sub.nil | refine Sub.cons rfl ?_)) H.2
                    · replace H := H.2 (of_decide_eq_false b15)
                      refine WC.exit (WX.then_exit (WX.then_exit (WX.block_same (WX.then_normal ?_))))
                      refine WC.seq ?_
                      refine WC.region ?_
                      refine WL.y rfl (Yld.pure tab_ok rfl) ?_
                      refine WL.nil (WX.then_normal ?_)
                      refine WC.ret ?_
                      exact WX.ret1 rfl rfl ⟨gr21, true, rfl, H⟩
                · clear H
                  rcases Bool.eq_false_or_eq_true (!decide (t1401 = Er.ok)) with b17 | b17
                  · refine WL.gno rfl rfl (okb b17) rfl ?_
                    refine WL.gno rfl rfl (okb b17) rfl ?_
                    refine WL.gno rfl rfl (okb b17) rfl ?_
                    refine WL.gno rfl rfl (okb b17) rfl ?_
                    refine WL.gno rfl rfl (okb b17) rfl ?_
                    refine WL.y rfl (Yld.pickT (okb b17) rfl) ?_
                    exact WL.weaken (by repeat (first | exact Sub.nil | refine Sub.cons rfl ?_)) (hQ _ _ ⟨true, rfl, by rw [b17] <;> rfl, rfl⟩)
                  · refine WL.gyes rfl rfl (okb b17) rfl (Yld.pure tab_ok rfl) ?_
                    refine WL.gyes rfl rfl (okb b17) rfl (Yld.pure tab_ok rfl) ?_
                    refine WL.gyes rfl rfl (okb b17) rfl (Yld.pure tab_ok rfl) ?_
                    refine WL.gyes rfl rfl (okb b17) rfl (Yld.pure tab_ok rfl) ?_
                    refine WL.gyes rfl rfl (okb b17) rfl (Yld.pure tab_ok rfl) ?_
                    refine WL.y rfl (Yld.pickF (okb b17) rfl) ?_
                    exact WL.weaken (by repeat (first | exact Sub.nil | refine Sub.cons rfl ?_)) (hQ _ _ ⟨!decide ((t1400.length : Int) = (t530.length : Int)), rfl, by rw [b17] <;> rfl, rfl⟩)
          · clear H
            rcases Bool.eq_false_or_eq_true (!decide (t531 = Er.ok)) with b18 | b18
            · refine WL.gno rfl rfl (okb b18) rfl ?_
              refine WL.gno rfl rfl (okb b18) rfl ?_
              refine WL.gno rfl rfl (okb b18) rfl ?_
              refine WL.gno rfl rfl (okb b18) rfl ?_
              refine WL.gno rfl rfl (okb b18) rfl ?_
              refine WL.y rfl (Yld.pickT (okb b18) rfl) ?_
              exact WL.weaken (by repeat (first | exact Sub.nil | refine Sub.cons rfl ?_)) (hQ _ _ ⟨true, rfl, by rw [b18] <;> rfl, rfl⟩)
            · refine WL.gyes rfl rfl (okb b18) rfl (Yld.pure tab_ok rfl) ?_
              refine WL.gyes rfl rfl (okb b18) rfl (Yld.pure tab_ok rfl) ?_
              refine WL.gyes rfl rfl (okb b18) rfl (Yld.pure tab_ok rfl) ?_
              refine WL.gyes rfl rfl (okb b18) rfl (Yld.pure tab_ok rfl) ?_
              refine WL.gyes rfl rfl (okb b18) rfl (Yld.pure tab_ok rfl) ?_
              refine WL.y rfl (Yld.pickF (okb b18) rfl) ?_
              exact WL.weaken (by repeat (first | exact Sub.nil | refine Sub.cons rfl ?_)) (hQ _ _ ⟨!decide ((t530.length : Int) = (p.length : Int)), rfl, by rw [b18] <;> rfl, rfl⟩)
    · clear H
      rcases Bool.eq_false_or_eq_true (decide ((40 : Int) < (l.length : Int))) with b19 | b19
      · refine WL.gno rfl rfl (okb b19) rfl ?_
        refine WL.gno rfl rfl (okb b19) rfl ?_
        refine WL.y rfl (Yld.pickT (okb b19) rfl) ?_
        exact WL.weaken (by repeat (first | exact Sub.nil | refine Sub.cons rfl ?_)) (hQ _ _ ⟨true, rfl, by rw [b19] <;> rfl, rfl⟩)
      · refine WL.gyes rfl rfl (okb b19) rfl (Yld.pure tab_ok rfl) ?_
        refine WL.gyes rfl rfl (okb b19) rfl (Yld.pure tab_ok rfl) ?_
        refine WL.y rfl (Yld.pickF (okb b19) rfl) ?_
        exact WL.weaken (by repeat (first | exact Sub.nil | refine Sub.cons rfl ?_)) (hQ _ _ ⟨!ok, rfl, by rw [b19] <;> rfl, rfl⟩)

end Go.Proofs.YtjoepdjeekadcaaDoor

 /- ListSorts, plainly. -/
namespace Go.Proofs.YtjoepdjeekadcaaDoor
open Go Go.RowKit
def rowS7 (l : List Int) (i : Nat) : PV := .tup [(l.getD i 0).tmod 7, (i : Int)]
def rowsS7 (l : List Int) (n : Nat) : List PV := (List.range n).map (rowS7 l)
theorem rowsS7_succ (l : List Int) (n : Nat) : rowsS7 l (n + 1) = rowsS7 l n ++ [rowS7 l n] := by
  unfold rowsS7; rw [List.range_succ, List.map_append]; rfl
theorem rowsS7_len (l : List Int) (n : Nat) : (rowsS7 l n).length = n := by simp [rowsS7]
def sndS : PV → Int
  | .tup [_, k] => k
  | _ => 0
theorem mod7 (x : Int) : -7 < x.tmod 7 ∧ x.tmod 7 < 7 := by
  have h1 := Int.tmod_lt_of_pos x (b := 7) (by omega)
  have h2 := Int.tmod_lt_of_pos (-x) (b := 7) (by omega)
  rw [Int.neg_tmod] at h2
  omega
theorem rowsS7_mem {l : List Int} {n : Nat} {x : PV} (h : x ∈ rowsS7 l n) : ∃ u : Int, ∃ k : Nat, x = .tup [u, (k : Int)] ∧ -7 < u ∧ u < 7 ∧ k < n := by
  unfold rowsS7 at h
  obtain ⟨k, hk, rfl⟩ := List.mem_map.1 h
  exact ⟨_, k, rfl, (mod7 _).1, (mod7 _).2, List.mem_range.1 hk⟩
theorem tuple2_M {a b : Int} {K : PV → Prop} (h : K (.tup [a, b])) : M_val_Tuple [.int a, .int b] K := ⟨by simp, [a, b], rfl, h⟩
theorem less_sorted {x y : PV} {K : Bool → Er → Prop} (hx : Okv true x) (hy : Okv true y) (h : ltP false x y = false) (k : K false .ok) : M_val_Less x y K := vless_M hx hy (by rw [show lexB (keyQ x) (keyQ y) = false from h]; exact k)
theorem reprT_M {x : PV} {K : List UInt8 → Prop} (hx : ∃ u : Int, ∃ k : Nat, x = .tup [u, (k : Int)] ∧ -7 < u ∧ u < 7 ∧ k < 41) (h : ∀ t, (t = tupT (keyQ x)) → K t) : M_val_Repr x K := by
  obtain ⟨u, k, rfl, h1, h2, h3⟩ := hx
  refine vrepr_tup (by simp) (fun z hz => ?_) (h _ rfl)
  simp only [List.mem_cons, List.not_mem_nil, or_false] at hz
  rcases hz with rfl | rfl <;> exact txt_len (by omega)
theorem sorts_ls {l : List Int} {K : Bool → Prop} (hin : ∀ x ∈ l, (Lit.int .i64 x).wf = true) (h : K true) : M_smithylaw12_ListSorts l K := by
  intro _
  refine lfirst_M ⟨fun e => (by cases e), fun _ => ⟨fun _ => h, fun e => ?_⟩⟩
  have hl : l.length ≤ 40 := by simp at e; omega
  refine ⟨fun p i => 0 ≤ i ∧ i ≤ l.length ∧ p = rowsS7 l i.toNat, fun _ i => ((l.length : Int) - i).toNat, ⟨by omega, by omega, rfl⟩, ?_⟩
  rintro p i ⟨h0, h1, rfl⟩
  refine ⟨fun hi => ?_, fun hi => ?_⟩
  · have hm := mod7 (l.getD i.toNat 0)
    refine ⟨⟨h0, hi⟩, by omega, lsmall_M (by omega) (lsmall_M (by omega) (tuple2_M ⟨by rw [rowsS7_len]; simp; omega, by simp only [In]; omega, ⟨by omega, by omega, ?_⟩, by first | omega | (dsimp only; omega)⟩))⟩
    rw [show (i + 1).toNat = i.toNat + 1 by omega, rowsS7_succ]
    unfold rowS7
    rw [Int.toNat_of_nonneg h0]
  have ei : i.toNat = l.length := by omega
  rw [ei]
  generalize hpp : rowsS7 l l.length = p
  have hpl : p.length = l.length := by rw [← hpp, rowsS7_len]
  have hm : ∀ x ∈ p, ∃ u : Int, ∃ k : Nat, x = .tup [u, (k : Int)] ∧ -7 < u ∧ u < 7 ∧ k < l.length := fun x hx => rowsS7_mem (l := l) (by rw [hpp]; exact hx)
  have hP : Okl true p := fun x hx => by obtain ⟨u, k, rfl, _⟩ := hm x hx; exact ⟨_, rfl, by simp⟩
  have hnd : (p.map sndS).Nodup := by
    rw [← hpp]
    unfold rowsS7
    rw [List.map_map, List.nodup_iff_pairwise_ne, List.pairwise_map]
    refine List.Pairwise.imp ?_ (List.nodup_iff_pairwise_ne.1 List.nodup_range)
    intro a b hab
    show (a : Int) ≠ (b : Int)
    omega
  refine sorted_M hP (by omega) fun a ha => ?_
  have hal := ha.1.len
  have hPa : Okl true a := hP.perm ha.1.perm
  have hma : ∀ x ∈ a, ∃ u : Int, ∃ k : Nat, x = .tup [u, (k : Int)] ∧ -7 < u ∧ u < 7 ∧ k < l.length := fun x hx => hm x (ha.1.perm.mem_iff.1 hx)
  have hnda : (a.map sndS).Nodup := (ha.1.perm.map sndS).nodup_iff.2 hnd
  have inj : ∀ i j, i < a.length → j < a.length → sndS (a.getD i .nil) = sndS (a.getD j .nil) → i = j := fun i j hi hj e => by
    have h1 := hnda
    rw [List.nodup_iff_pairwise_ne, List.pairwise_iff_getElem] at h1
    simp only [List.length_map, List.getElem_map] at h1
    simp only [List.getD, List.getElem?_eq_getElem hi, List.getElem?_eq_getElem hj, Option.getD_some] at e
    rcases Nat.lt_trichotomy i j with q | q | q
    · exact absurd e (h1 i j hi hj q)
    · exact q
    · exact absurd e.symm (h1 j i hj hi q)
  refine ⟨fun e => absurd e (by simp [hal]), fun _ => ⟨⟨by omega, by omega, by omega⟩, ?_⟩⟩
  have hn0 : ((l.length : Nat) : Int).toNat = l.length := by omega
  refine ⟨fun i seen => 0 ≤ i ∧ i ≤ a.length ∧ seen.length = l.length ∧ ∀ j, j < l.length → (seen.getD j false = true → ∃ i' : Nat, (i' : Int) < i ∧ sndS (a.getD i' .nil) = (j : Int)), fun i _ => ((a.length : Int) - i).toNat, ⟨by omega, by omega, by simp, fun j hj e => ?_⟩, ?_⟩
  · rw [hn0] at e
    simp [List.getD, List.getElem?_replicate, hj] at e
  rintro i seen ⟨h0, h1, hs, hse⟩ _
  refine ⟨fun hi => ?_, fun hi => ?_⟩
  · have hia : i.toNat < a.length := by omega
    have hx := hma (a.getD i.toNat .nil) (by simp [List.getD, hia])
    obtain ⟨u, k, ex, hu1, hu2, hk⟩ := hx
    have hsk : seen.getD k false = false := by
      cases hq : seen.getD k false with
      | false => rfl
      | true =>
        obtain ⟨i', q1, q2⟩ := hse k hk hq
        have := inj i' i.toNat (by omega) hia (by rw [q2, ex]; rfl)
        omega
    refine ⟨fun s => s = seen.set k true, ⟨⟨h0, hi⟩, ?_⟩, ?_⟩
    · rw [ex]
      refine ⟨fun e => (by cases e), fun _ => ⟨fun l' e => ?_, fun e => absurd rfl (e _)⟩⟩
      cases e
      refine cloneV_M (by simp) ⟨fun e => absurd e (by simp), fun _ => ⟨by simp, ⟨fun z e => ?_, fun e => absurd rfl (e k)⟩⟩⟩
      have e : (k : Int) = z := by simpa using e
      subst e
      refine ⟨by omega, fun _ => ⟨fun _ => ⟨by omega, by omega⟩, fun e => ?_, fun _ => ⟨⟨by omega, by omega⟩, fun hpos => ?_, fun _ => rfl⟩⟩, fun e => absurd (by unfold In64; omega) e⟩
      · exfalso
        rw [Int.toNat_natCast, hsk] at e
        simp at e
        omega
      · refine ⟨⟨h0, hi⟩, by simp only [In]; omega, ⟨by omega, by omega⟩, ?_⟩
        rw [← ex]
        refine less_sorted (hPa.at hia) (hPa.at (by omega)) ?_ ⟨fun e => absurd e (by simp), fun _ => rfl⟩
        exact ha.2 (i - 1).toNat i.toNat (by omega) (by omega) (by omega)
    · rintro _ rfl
      refine fun _ => ⟨by simp only [In]; omega, ⟨by omega, by omega, by simpa using hs, fun j hj e => ?_⟩, by first | omega | (dsimp only; omega)⟩
      rw [getD_setY] at e
      by_cases hkj : k = j ∧ k < seen.length
      · refine ⟨i.toNat, by omega, ?_⟩
        rw [ex, ← hkj.1]; rfl
      · rw [if_neg hkj] at e
        obtain ⟨i', q1, q2⟩ := hse j hj e
        exact ⟨i', by omega, q2⟩
  · refine sorted_M hPa (by omega) fun b hb => ?_
    have eb : b = a.reverse := by
      refine SySrt.one hPa hb (fun i j q1 q2 q3 => ?_) (List.reverse_perm a)
      rw [List.length_reverse] at q3
      have g : ∀ k, k < a.length → a.reverse.getD k PV.nil = a.getD (a.length - 1 - k) PV.nil := fun k hk => by
        have : a.length - 1 - k < a.length := by omega
        simp [List.getD, hk, List.getElem_reverse, this]
      rw [g i (by omega), g j q3]
      exact ha.2 (a.length - 1 - j) (a.length - 1 - i) (by omega) (by omega) (by omega)
    subst eb
    refine ⟨fun e => absurd e (by simp), fun _ => ?_⟩
    refine ⟨fun i => 0 ≤ i ∧ i ≤ a.length, fun i => ((a.length : Int) - i).toNat, ⟨by omega, by omega⟩, ?_⟩
    rintro i ⟨q0, q1⟩
    refine ⟨fun hi => ?_, fun _ => h⟩
    have g : a.reverse.getD i.toNat PV.nil = a.getD ((a.length : Int) - 1 - i).toNat PV.nil := by
      have h1 : i.toNat < a.length := by omega
      have h2 : ((a.length : Int) - 1 - i).toNat = a.length - 1 - i.toNat := by omega
      have h3 : a.length - 1 - i.toNat < a.length := by omega
      simp [List.getD, h1, h2, List.getElem_reverse, h3]
    rw [g]
    have hx : ∃ u : Int, ∃ k : Nat, a.getD ((a.length : Int) - 1 - i).toNat PV.nil = .tup [u, (k : Int)] ∧ -7 < u ∧ u < 7 ∧ k < 41 := by
      have h3 : ((a.length : Int) - 1 - i).toNat < a.length := by omega
      obtain ⟨u, k, e, k1, k2, k3⟩ := hma _ (by simp [List.getD, h3] : a.getD ((a.length : Int) - 1 - i).toNat PV.nil ∈ a)
      exact ⟨u, k, e, k1, k2, by omega⟩
    refine ⟨⟨q0, by simp; omega⟩, reprT_M hx fun t1 e1 => ⟨by simp only [In]; omega, by simp only [In]; omega, ⟨by omega, by omega⟩, reprT_M hx fun t2 e2 => ⟨fun e => absurd (e1.trans e2.symm) e, fun _ => ⟨by simp only [In]; omega, ⟨by omega, by omega⟩, by first | omega | (dsimp only; omega)⟩⟩⟩⟩
end Go.Proofs.YtjoepdjeekadcaaDoor


 