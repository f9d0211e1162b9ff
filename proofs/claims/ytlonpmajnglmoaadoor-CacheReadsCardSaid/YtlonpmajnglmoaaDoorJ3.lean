/- Texts of this claim, joined by a program: Sha10, KeyA, Ord, Enc, GKa, GSa, Sent, GSb, Map, Mut, Pool. -/
import Derived.Test.YtlonpmajnglmoaaDoorJ2
import Derived.Maps.RangeRun
import Derived.Maps.Keyed
import Derived.Carry
import Derived.StringKeys
namespace Go.Proofs.YtlonpmajnglmoaaDoor
open Go Go.RowKit
attribute [local irreducible] WL WC WX WQ WK Yld Eff Ef0 Fn
/-- what a digit says -/
def digV (c : UInt8) : Option Nat := if 48 ≤ c.toNat ∧ c.toNat ≤ 57 then some (c.toNat - 48) else if 97 ≤ c.toNat ∧ c.toNat ≤ 102 then some (c.toNat - 87) else none
theorem digV_lt {c : UInt8} {n : Nat} (h : digV c = some n) : n < 16 := by
  unfold digV at h
  split at h
  · injection h with h; omega
  · split at h
    · injection h with h; omega
    · cases h
def digR (c : UInt8) : Value := .tuple #[.int .u8 (((digV c).getD 0 : Nat) : Int), .bool (digV c).isSome]
theorem digit_fn (c : UInt8) (w : World) : Fn Tryd.prog 143 ⟨[vb c]⟩ w fun v w' => v = digR c ∧ w' = w := by
  have hc := c.toNat_lt
  refine Fn.enter (by kernel_rfl) Tryd.func143 rfl Tryd.ntmps143 rfl ?_
  repeat (first | refine WC.seq ?_ | refine WC.block ?_ | refine WC.region ?_ | refine WL.nil ?_ | refine WX.then_normal ?_ | refine WC.skip ?_ | refine WC.exit ?_ | refine WC.ret ?_ | refine WX.then_exit ?_ | refine WX.then_ret ?_ | refine WX.block_normal ?_ | refine WX.block_ret ?_ | refine WX.block_same ?_ | refine WX.block_other rfl ?_ | refine WC.label ?_ | refine WC.scope ?_ | refine WX.scope_normal ?_ | refine WX.scope_ret ?_ | refine WX.scope_exit ?_ | refine WL.y rfl (Yld.add rfl rfl (by simp only [In]; omega)) ?_ | refine WL.y rfl (Yld.sub rfl rfl (by simp only [In]; omega)) ?_ | refine WL.y rfl (Yld.mul rfl rfl (by simp only [In]; omega)) ?_ | refine WL.y rfl (Yld.convB tab_ok rfl rfl rfl rfl) ?_ | refine WL.y rfl (Yld.conv tab_ok rfl rfl rfl (by simp only [In]; omega)) ?_ | refine WL.y rfl (Yld.quo rfl rfl (by omega) (by omega) (by simp only [In]; omega)) ?_ | refine WL.y rfl (Yld.rem rfl rfl (by omega) (by omega)) ?_ | refine WL.y rfl (Yld.shl rfl rfl (by omega)) ?_ | refine WL.y rfl (Yld.shr rfl rfl (by omega)) ?_ | refine WL.y rfl (Yld.pure tab_ok rfl) ?_ | refine WL.y rfl (Yld.fld flds_ok rfl rfl rfl) ?_ | refine WL.y rfl (Yld.max2 rfl rfl) ?_ | refine WL.y rfl (Yld.min2 rfl rfl) ?_ | refine WL.y rfl (Yld.pickV rfl rfl rfl) ?_ | refine WL.gno rfl rfl rfl rfl ?_ | refine WL.gyes rfl rfl rfl rfl (Yld.add rfl rfl (by simp only [In]; omega)) ?_ | refine WL.gyes rfl rfl rfl rfl (Yld.sub rfl rfl (by simp only [In]; omega)) ?_ | refine WL.gyes rfl rfl rfl rfl (Yld.mul rfl rfl (by simp only [In]; omega)) ?_ | refine WL.gyes rfl rfl rfl rfl (Yld.convB tab_ok rfl rfl rfl rfl) ?_ | refine WL.gyes rfl rfl rfl rfl (Yld.conv tab_ok rfl rfl rfl (by simp only [In]; omega)) ?_ | refine WL.gyes rfl rfl rfl rfl (Yld.quo rfl rfl (by omega) (by omega) (by simp only [In]; omega)) ?_ | refine WL.gyes rfl rfl rfl rfl (Yld.rem rfl rfl (by omega) (by omega)) ?_ | refine WL.gyes rfl rfl rfl rfl (Yld.shl rfl rfl (by omega)) ?_ | refine WL.gyes rfl rfl rfl rfl (Yld.shr rfl rfl (by omega)) ?_ | refine WL.gyes rfl rfl rfl rfl (Yld.pure tab_ok rfl) ?_ | refine WL.gyes rfl rfl rfl rfl (Yld.fld flds_ok rfl rfl rfl) ?_ | refine WL.gyes rfl rfl rfl rfl (Yld.max2 rfl rfl) ?_ | refine WL.gyes rfl rfl rfl rfl (Yld.min2 rfl rfl) ?_ | refine WL.gyes rfl rfl rfl rfl (Yld.pickV rfl rfl rfl) ?_)
  generalize hb : decide ((48 : Int) ≤ (c.toNat : Int)) = b
  cases b
  · simp only [decide_eq_false_iff_not] at hb
    repeat (first | refine WC.seq ?_ | refine WC.block ?_ | refine WC.region ?_ | refine WL.nil ?_ | refine WX.then_normal ?_ | refine WC.skip ?_ | refine WC.exit ?_ | refine WC.ret ?_ | refine WX.then_exit ?_ | refine WX.then_ret ?_ | refine WX.block_normal ?_ | refine WX.block_ret ?_ | refine WX.block_same ?_ | refine WX.block_other rfl ?_ | refine WC.label ?_ | refine WC.scope ?_ | refine WX.scope_normal ?_ | refine WX.scope_ret ?_ | refine WX.scope_exit ?_ | refine WL.y rfl (Yld.add rfl rfl (by simp only [In]; omega)) ?_ | refine WL.y rfl (Yld.sub rfl rfl (by simp only [In]; omega)) ?_ | refine WL.y rfl (Yld.mul rfl rfl (by simp only [In]; omega)) ?_ | refine WL.y rfl (Yld.convB tab_ok rfl rfl rfl rfl) ?_ | refine WL.y rfl (Yld.conv tab_ok rfl rfl rfl (by simp only [In]; omega)) ?_ | refine WL.y rfl (Yld.quo rfl rfl (by omega) (by omega) (by simp only [In]; omega)) ?_ | refine WL.y rfl (Yld.rem rfl rfl (by omega) (by omega)) ?_ | refine WL.y rfl (Yld.shl rfl rfl (by omega)) ?_ | refine WL.y rfl (Yld.shr rfl rfl (by omega)) ?_ | refine WL.y rfl (Yld.pure tab_ok rfl) ?_ | refine WL.y rfl (Yld.fld flds_ok rfl rfl rfl) ?_ | refine WL.y rfl (Yld.max2 rfl rfl) ?_ | refine WL.y rfl (Yld.min2 rfl rfl) ?_ | refine WL.y rfl (Yld.pickV rfl rfl rfl) ?_ | refine WL.gno rfl rfl rfl rfl ?_ | refine WL.gyes rfl rfl rfl rfl (Yld.add rfl rfl (by simp only [In]; omega)) ?_ | refine WL.gyes rfl rfl rfl rfl (Yld.sub rfl rfl (by simp only [In]; omega)) ?_ | refine WL.gyes rfl rfl rfl rfl (Yld.mul rfl rfl (by simp only [In]; omega)) ?_ | refine WL.gyes rfl rfl rfl rfl (Yld.convB tab_ok rfl rfl rfl rfl) ?_ | refine WL.gyes rfl rfl rfl rfl (Yld.conv tab_ok rfl rfl rfl (by simp only [In]; omega)) ?_ | refine WL.gyes rfl rfl rfl rfl (Yld.quo rfl rfl (by omega) (by omega) (by simp only [In]; omega)) ?_ | refine WL.gyes rfl rfl rfl rfl (Yld.rem rfl rfl (by omega) (by omega)) ?_ | refine WL.gyes rfl rfl rfl rfl (Yld.shl rfl rfl (by omega)) ?_ | refine WL.gyes rfl rfl rfl rfl (Yld.shr rfl rfl (by omega)) ?_ | refine WL.gyes rfl rfl rfl rfl (Yld.pure tab_ok rfl) ?_ | refine WL.gyes rfl rfl rfl rfl (Yld.fld flds_ok rfl rfl rfl) ?_ | refine WL.gyes rfl rfl rfl rfl (Yld.max2 rfl rfl) ?_ | refine WL.gyes rfl rfl rfl rfl (Yld.min2 rfl rfl) ?_ | refine WL.gyes rfl rfl rfl rfl (Yld.pickV rfl rfl rfl) ?_)
    refine WC.cond rfl (fun h => by cases h) (fun _ => ?_)
    repeat (first | refine WC.seq ?_ | refine WC.block ?_ | refine WC.region ?_ | refine WL.nil ?_ | refine WX.then_normal ?_ | refine WC.skip ?_ | refine WC.exit ?_ | refine WC.ret ?_ | refine WX.then_exit ?_ | refine WX.then_ret ?_ | refine WX.block_normal ?_ | refine WX.block_ret ?_ | refine WX.block_same ?_ | refine WX.block_other rfl ?_ | refine WC.label ?_ | refine WC.scope ?_ | refine WX.scope_normal ?_ | refine WX.scope_ret ?_ | refine WX.scope_exit ?_ | refine WL.y rfl (Yld.add rfl rfl (by simp only [In]; omega)) ?_ | refine WL.y rfl (Yld.sub rfl rfl (by simp only [In]; omega)) ?_ | refine WL.y rfl (Yld.mul rfl rfl (by simp only [In]; omega)) ?_ | refine WL.y rfl (Yld.convB tab_ok rfl rfl rfl rfl) ?_ | refine WL.y rfl (Yld.conv tab_ok rfl rfl rfl (by simp only [In]; omega)) ?_ | refine WL.y rfl (Yld.quo rfl rfl (by omega) (by omega) (by simp only [In]; omega)) ?_ | refine WL.y rfl (Yld.rem rfl rfl (by omega) (by omega)) ?_ | refine WL.y rfl (Yld.shl rfl rfl (by omega)) ?_ | refine WL.y rfl (Yld.shr rfl rfl (by omega)) ?_ | refine WL.y rfl (Yld.pure tab_ok rfl) ?_ | refine WL.y rfl (Yld.fld flds_ok rfl rfl rfl) ?_ | refine WL.y rfl (Yld.max2 rfl rfl) ?_ | refine WL.y rfl (Yld.min2 rfl rfl) ?_ | refine WL.y rfl (Yld.pickV rfl rfl rfl) ?_ | refine WL.gno rfl rfl rfl rfl ?_ | refine WL.gyes rfl rfl rfl rfl (Yld.add rfl rfl (by simp only [In]; omega)) ?_ | refine WL.gyes rfl rfl rfl rfl (Yld.sub rfl rfl (by simp only [In]; omega)) ?_ | refine WL.gyes rfl rfl rfl rfl (Yld.mul rfl rfl (by simp only [In]; omega)) ?_ | refine WL.gyes rfl rfl rfl rfl (Yld.convB tab_ok rfl rfl rfl rfl) ?_ | refine WL.gyes rfl rfl rfl rfl (Yld.conv tab_ok rfl rfl rfl (by simp only [In]; omega)) ?_ | refine WL.gyes rfl rfl rfl rfl (Yld.quo rfl rfl (by omega) (by omega) (by simp only [In]; omega)) ?_ | refine WL.gyes rfl rfl rfl rfl (Yld.rem rfl rfl (by omega) (by omega)) ?_ | refine WL.gyes rfl rfl rfl rfl (Yld.shl rfl rfl (by omega)) ?_ | refine WL.gyes rfl rfl rfl rfl (Yld.shr rfl rfl (by omega)) ?_ | refine WL.gyes rfl rfl rfl rfl (Yld.pure tab_ok rfl) ?_ | refine WL.gyes rfl rfl rfl rfl (Yld.fld flds_ok rfl rfl rfl) ?_ | refine WL.gyes rfl rfl rfl rfl (Yld.max2 rfl rfl) ?_ | refine WL.gyes rfl rfl rfl rfl (Yld.min2 rfl rfl) ?_ | refine WL.gyes rfl rfl rfl rfl (Yld.pickV rfl rfl rfl) ?_)
    generalize hb2 : decide ((97 : Int) ≤ (c.toNat : Int)) = b2
    cases b2
    · repeat (first | refine WC.seq ?_ | refine WC.block ?_ | refine WC.region ?_ | refine WL.nil ?_ | refine WX.then_normal ?_ | refine WC.skip ?_ | refine WC.exit ?_ | refine WC.ret ?_ | refine WX.then_exit ?_ | refine WX.then_ret ?_ | refine WX.block_normal ?_ | refine WX.block_ret ?_ | refine WX.block_same ?_ | refine WX.block_other rfl ?_ | refine WC.label ?_ | refine WC.scope ?_ | refine WX.scope_normal ?_ | refine WX.scope_ret ?_ | refine WX.scope_exit ?_ | refine WL.y rfl (Yld.add rfl rfl (by simp only [In]; omega)) ?_ | refine WL.y rfl (Yld.sub rfl rfl (by simp only [In]; omega)) ?_ | refine WL.y rfl (Yld.mul rfl rfl (by simp only [In]; omega)) ?_ | refine WL.y rfl (Yld.convB tab_ok rfl rfl rfl rfl) ?_ | refine WL.y rfl (Yld.conv tab_ok rfl rfl rfl (by simp only [In]; omega)) ?_ | refine WL.y rfl (Yld.quo rfl rfl (by omega) (by omega) (by simp only [In]; omega)) ?_ | refine WL.y rfl (Yld.rem rfl rfl (by omega) (by omega)) ?_ | refine WL.y rfl (Yld.shl rfl rfl (by omega)) ?_ | refine WL.y rfl (Yld.shr rfl rfl (by omega)) ?_ | refine WL.y rfl (Yld.pure tab_ok rfl) ?_ | refine WL.y rfl (Yld.fld flds_ok rfl rfl rfl) ?_ | refine WL.y rfl (Yld.max2 rfl rfl) ?_ | refine WL.y rfl (Yld.min2 rfl rfl) ?_ | refine WL.y rfl (Yld.pickV rfl rfl rfl) ?_ | refine WL.gno rfl rfl rfl rfl ?_ | refine WL.gyes rfl rfl rfl rfl (Yld.add rfl rfl (by simp only [In]; omega)) ?_ | refine WL.gyes rfl rfl rfl rfl (Yld.sub rfl rfl (by simp only [In]; omega)) ?_ | refine WL.gyes rfl rfl rfl rfl (Yld.mul rfl rfl (by simp only [In]; omega)) ?_ | refine WL.gyes rfl rfl rfl rfl (Yld.convB tab_ok rfl rfl rfl rfl) ?_ | refine WL.gyes rfl rfl rfl rfl (Yld.conv tab_ok rfl rfl rfl (by simp only [In]; omega)) ?_ | refine WL.gyes rfl rfl rfl rfl (Yld.quo rfl rfl (by omega) (by omega) (by simp only [In]; omega)) ?_ | refine WL.gyes rfl rfl rfl rfl (Yld.rem rfl rfl (by omega) (by omega)) ?_ | refine WL.gyes rfl rfl rfl rfl (Yld.shl rfl rfl (by omega)) ?_ | refine WL.gyes rfl rfl rfl rfl (Yld.shr rfl rfl (by omega)) ?_ | refine WL.gyes rfl rfl rfl rfl (Yld.pure tab_ok rfl) ?_ | refine WL.gyes rfl rfl rfl rfl (Yld.fld flds_ok rfl rfl rfl) ?_ | refine WL.gyes rfl rfl rfl rfl (Yld.max2 rfl rfl) ?_ | refine WL.gyes rfl rfl rfl rfl (Yld.min2 rfl rfl) ?_ | refine WL.gyes rfl rfl rfl rfl (Yld.pickV rfl rfl rfl) ?_)
      refine WC.cond rfl (fun h => by cases h) (fun _ => ?_)
      repeat (first | refine WC.seq ?_ | refine WC.block ?_ | refine WC.region ?_ | refine WL.nil ?_ | refine WX.then_normal ?_ | refine WC.skip ?_ | refine WC.exit ?_ | refine WC.ret ?_ | refine WX.then_exit ?_ | refine WX.then_ret ?_ | refine WX.block_normal ?_ | refine WX.block_ret ?_ | refine WX.block_same ?_ | refine WX.block_other rfl ?_ | refine WC.label ?_ | refine WC.scope ?_ | refine WX.scope_normal ?_ | refine WX.scope_ret ?_ | refine WX.scope_exit ?_ | refine WL.y rfl (Yld.add rfl rfl (by simp only [In]; omega)) ?_ | refine WL.y rfl (Yld.sub rfl rfl (by simp only [In]; omega)) ?_ | refine WL.y rfl (Yld.mul rfl rfl (by simp only [In]; omega)) ?_ | refine WL.y rfl (Yld.convB tab_ok rfl rfl rfl rfl) ?_ | refine WL.y rfl (Yld.conv tab_ok rfl rfl rfl (by simp only [In]; omega)) ?_ | refine WL.y rfl (Yld.quo rfl rfl (by omega) (by omega) (by simp only [In]; omega)) ?_ | refine WL.y rfl (Yld.rem rfl rfl (by omega) (by omega)) ?_ | refine WL.y rfl (Yld.shl rfl rfl (by omega)) ?_ | refine WL.y rfl (Yld.shr rfl rfl (by omega)) ?_ | refine WL.y rfl (Yld.pure tab_ok rfl) ?_ | refine WL.y rfl (Yld.fld flds_ok rfl rfl rfl) ?_ | refine WL.y rfl (Yld.max2 rfl rfl) ?_ | refine WL.y rfl (Yld.min2 rfl rfl) ?_ | refine WL.y rfl (Yld.pickV rfl rfl rfl) ?_ | refine WL.gno rfl rfl rfl rfl ?_ | refine WL.gyes rfl rfl rfl rfl (Yld.add rfl rfl (by simp only [In]; omega)) ?_ | refine WL.gyes rfl rfl rfl rfl (Yld.sub rfl rfl (by simp only [In]; omega)) ?_ | refine WL.gyes rfl rfl rfl rfl (Yld.mul rfl rfl (by simp only [In]; omega)) ?_ | refine WL.gyes rfl rfl rfl rfl (Yld.convB tab_ok rfl rfl rfl rfl) ?_ | refine WL.gyes rfl rfl rfl rfl (Yld.conv tab_ok rfl rfl rfl (by simp only [In]; omega)) ?_ | refine WL.gyes rfl rfl rfl rfl (Yld.quo rfl rfl (by omega) (by omega) (by simp only [In]; omega)) ?_ | refine WL.gyes rfl rfl rfl rfl (Yld.rem rfl rfl (by omega) (by omega)) ?_ | refine WL.gyes rfl rfl rfl rfl (Yld.shl rfl rfl (by omega)) ?_ | refine WL.gyes rfl rfl rfl rfl (Yld.shr rfl rfl (by omega)) ?_ | refine WL.gyes rfl rfl rfl rfl (Yld.pure tab_ok rfl) ?_ | refine WL.gyes rfl rfl rfl rfl (Yld.fld flds_ok rfl rfl rfl) ?_ | refine WL.gyes rfl rfl rfl rfl (Yld.max2 rfl rfl) ?_ | refine WL.gyes rfl rfl rfl rfl (Yld.min2 rfl rfl) ?_ | refine WL.gyes rfl rfl rfl rfl (Yld.pickV rfl rfl rfl) ?_)
      have : digV c = none := by unfold digV; rw [if_neg (by omega), if_neg (by omega)]
      exact WX.ret2 rfl rfl rfl ⟨by rw [digR, this]; rfl, rfl⟩
    · simp only [decide_eq_true_eq] at hb2
      omega
  · simp only [decide_eq_true_eq] at hb
    repeat (first | refine WC.seq ?_ | refine WC.block ?_ | refine WC.region ?_ | refine WL.nil ?_ | refine WX.then_normal ?_ | refine WC.skip ?_ | refine WC.exit ?_ | refine WC.ret ?_ | refine WX.then_exit ?_ | refine WX.then_ret ?_ | refine WX.block_normal ?_ | refine WX.block_ret ?_ | refine WX.block_same ?_ | refine WX.block_other rfl ?_ | refine WC.label ?_ | refine WC.scope ?_ | refine WX.scope_normal ?_ | refine WX.scope_ret ?_ | refine WX.scope_exit ?_ | refine WL.y rfl (Yld.add rfl rfl (by simp only [In]; omega)) ?_ | refine WL.y rfl (Yld.sub rfl rfl (by simp only [In]; omega)) ?_ | refine WL.y rfl (Yld.mul rfl rfl (by simp only [In]; omega)) ?_ | refine WL.y rfl (Yld.convB tab_ok rfl rfl rfl rfl) ?_ | refine WL.y rfl (Yld.conv tab_ok rfl rfl rfl (by simp only [In]; omega)) ?_ | refine WL.y rfl (Yld.quo rfl rfl (by omega) (by omega) (by simp only [In]; omega)) ?_ | refine WL.y rfl (Yld.rem rfl rfl (by omega) (by omega)) ?_ | refine WL.y rfl (Yld.shl rfl rfl (by omega)) ?_ | refine WL.y rfl (Yld.shr rfl rfl (by omega)) ?_ | refine WL.y rfl (Yld.pure tab_ok rfl) ?_ | refine WL.y rfl (Yld.fld flds_ok rfl rfl rfl) ?_ | refine WL.y rfl (Yld.max2 rfl rfl) ?_ | refine WL.y rfl (Yld.min2 rfl rfl) ?_ | refine WL.y rfl (Yld.pickV rfl rfl rfl) ?_ | refine WL.gno rfl rfl rfl rfl ?_ | refine WL.gyes rfl rfl rfl rfl (Yld.add rfl rfl (by simp only [In]; omega)) ?_ | refine WL.gyes rfl rfl rfl rfl (Yld.sub rfl rfl (by simp only [In]; omega)) ?_ | refine WL.gyes rfl rfl rfl rfl (Yld.mul rfl rfl (by simp only [In]; omega)) ?_ | refine WL.gyes rfl rfl rfl rfl (Yld.convB tab_ok rfl rfl rfl rfl) ?_ | refine WL.gyes rfl rfl rfl rfl (Yld.conv tab_ok rfl rfl rfl (by simp only [In]; omega)) ?_ | refine WL.gyes rfl rfl rfl rfl (Yld.quo rfl rfl (by omega) (by omega) (by simp only [In]; omega)) ?_ | refine WL.gyes rfl rfl rfl rfl (Yld.rem rfl rfl (by omega) (by omega)) ?_ | refine WL.gyes rfl rfl rfl rfl (Yld.shl rfl rfl (by omega)) ?_ | refine WL.gyes rfl rfl rfl rfl (Yld.shr rfl rfl (by omega)) ?_ | refine WL.gyes rfl rfl rfl rfl (Yld.pure tab_ok rfl) ?_ | refine WL.gyes rfl rfl rfl rfl (Yld.fld flds_ok rfl rfl rfl) ?_ | refine WL.gyes rfl rfl rfl rfl (Yld.max2 rfl rfl) ?_ | refine WL.gyes rfl rfl rfl rfl (Yld.min2 rfl rfl) ?_ | refine WL.gyes rfl rfl rfl rfl (Yld.pickV rfl rfl rfl) ?_)
    refine WC.cond rfl (fun h => ?_) (fun h => ?_)
    · simp only [cond_true, decide_eq_true_eq] at h
      repeat (first | refine WC.seq ?_ | refine WC.block ?_ | refine WC.region ?_ | refine WL.nil ?_ | refine WX.then_normal ?_ | refine WC.skip ?_ | refine WC.exit ?_ | refine WC.ret ?_ | refine WX.then_exit ?_ | refine WX.then_ret ?_ | refine WX.block_normal ?_ | refine WX.block_ret ?_ | refine WX.block_same ?_ | refine WX.block_other rfl ?_ | refine WC.label ?_ | refine WC.scope ?_ | refine WX.scope_normal ?_ | refine WX.scope_ret ?_ | refine WX.scope_exit ?_ | refine WL.y rfl (Yld.add rfl rfl (by simp only [In]; omega)) ?_ | refine WL.y rfl (Yld.sub rfl rfl (by simp only [In]; omega)) ?_ | refine WL.y rfl (Yld.mul rfl rfl (by simp only [In]; omega)) ?_ | refine WL.y rfl (Yld.convB tab_ok rfl rfl rfl rfl) ?_ | refine WL.y rfl (Yld.conv tab_ok rfl rfl rfl (by simp only [In]; omega)) ?_ | refine WL.y rfl (Yld.quo rfl rfl (by omega) (by omega) (by simp only [In]; omega)) ?_ | refine WL.y rfl (Yld.rem rfl rfl (by omega) (by omega)) ?_ | refine WL.y rfl (Yld.shl rfl rfl (by omega)) ?_ | refine WL.y rfl (Yld.shr rfl rfl (by omega)) ?_ | refine WL.y rfl (Yld.pure tab_ok rfl) ?_ | refine WL.y rfl (Yld.fld flds_ok rfl rfl rfl) ?_ | refine WL.y rfl (Yld.max2 rfl rfl) ?_ | refine WL.y rfl (Yld.min2 rfl rfl) ?_ | refine WL.y rfl (Yld.pickV rfl rfl rfl) ?_ | refine WL.gno rfl rfl rfl rfl ?_ | refine WL.gyes rfl rfl rfl rfl (Yld.add rfl rfl (by simp only [In]; omega)) ?_ | refine WL.gyes rfl rfl rfl rfl (Yld.sub rfl rfl (by simp only [In]; omega)) ?_ | refine WL.gyes rfl rfl rfl rfl (Yld.mul rfl rfl (by simp only [In]; omega)) ?_ | refine WL.gyes rfl rfl rfl rfl (Yld.convB tab_ok rfl rfl rfl rfl) ?_ | refine WL.gyes rfl rfl rfl rfl (Yld.conv tab_ok rfl rfl rfl (by simp only [In]; omega)) ?_ | refine WL.gyes rfl rfl rfl rfl (Yld.quo rfl rfl (by omega) (by omega) (by simp only [In]; omega)) ?_ | refine WL.gyes rfl rfl rfl rfl (Yld.rem rfl rfl (by omega) (by omega)) ?_ | refine WL.gyes rfl rfl rfl rfl (Yld.shl rfl rfl (by omega)) ?_ | refine WL.gyes rfl rfl rfl rfl (Yld.shr rfl rfl (by omega)) ?_ | refine WL.gyes rfl rfl rfl rfl (Yld.pure tab_ok rfl) ?_ | refine WL.gyes rfl rfl rfl rfl (Yld.fld flds_ok rfl rfl rfl) ?_ | refine WL.gyes rfl rfl rfl rfl (Yld.max2 rfl rfl) ?_ | refine WL.gyes rfl rfl rfl rfl (Yld.min2 rfl rfl) ?_ | refine WL.gyes rfl rfl rfl rfl (Yld.pickV rfl rfl rfl) ?_)
      have : digV c = some (c.toNat - 48) := by unfold digV; rw [if_pos (by omega)]
      refine WX.ret2 rfl rfl rfl ⟨?_, rfl⟩
      rw [digR, this, Option.getD_some, show ((c.toNat - 48 : Nat) : Int) = (c.toNat : Int) - 48 by omega]
      rfl
    · simp only [cond_true, decide_eq_false_iff_not] at h
      repeat (first | refine WC.seq ?_ | refine WC.block ?_ | refine WC.region ?_ | refine WL.nil ?_ | refine WX.then_normal ?_ | refine WC.skip ?_ | refine WC.exit ?_ | refine WC.ret ?_ | refine WX.then_exit ?_ | refine WX.then_ret ?_ | refine WX.block_normal ?_ | refine WX.block_ret ?_ | refine WX.block_same ?_ | refine WX.block_other rfl ?_ | refine WC.label ?_ | refine WC.scope ?_ | refine WX.scope_normal ?_ | refine WX.scope_ret ?_ | refine WX.scope_exit ?_ | refine WL.y rfl (Yld.add rfl rfl (by simp only [In]; omega)) ?_ | refine WL.y rfl (Yld.sub rfl rfl (by simp only [In]; omega)) ?_ | refine WL.y rfl (Yld.mul rfl rfl (by simp only [In]; omega)) ?_ | refine WL.y rfl (Yld.convB tab_ok rfl rfl rfl rfl) ?_ | refine WL.y rfl (Yld.conv tab_ok rfl rfl rfl (by simp only [In]; omega)) ?_ | refine WL.y rfl (Yld.quo rfl rfl (by omega) (by omega) (by simp only [In]; omega)) ?_ | refine WL.y rfl (Yld.rem rfl rfl (by omega) (by omega)) ?_ | refine WL.y rfl (Yld.shl rfl rfl (by omega)) ?_ | refine WL.y rfl (Yld.shr rfl rfl (by omega)) ?_ | refine WL.y rfl (Yld.pure tab_ok rfl) ?_ | refine WL.y rfl (Yld.fld flds_ok rfl rfl rfl) ?_ | refine WL.y rfl (Yld.max2 rfl rfl) ?_ | refine WL.y rfl (Yld.min2 rfl rfl) ?_ | refine WL.y rfl (Yld.pickV rfl rfl rfl) ?_ | refine WL.gno rfl rfl rfl rfl ?_ | refine WL.gyes rfl rfl rfl rfl (Yld.add rfl rfl (by simp only [In]; omega)) ?_ | refine WL.gyes rfl rfl rfl rfl (Yld.sub rfl rfl (by simp only [In]; omega)) ?_ | refine WL.gyes rfl rfl rfl rfl (Yld.mul rfl rfl (by simp only [In]; omega)) ?_ | refine WL.gyes rfl rfl rfl rfl (Yld.convB tab_ok rfl rfl rfl rfl) ?_ | refine WL.gyes rfl rfl rfl rfl (Yld.conv tab_ok rfl rfl rfl (by simp only [In]; omega)) ?_ | refine WL.gyes rfl rfl rfl rfl (Yld.quo rfl rfl (by omega) (by omega) (by simp only [In]; omega)) ?_ | refine WL.gyes rfl rfl rfl rfl (Yld.rem rfl rfl (by omega) (by omega)) ?_ | refine WL.gyes rfl rfl rfl rfl (Yld.shl rfl rfl (by omega)) ?_ | refine WL.gyes rfl rfl rfl rfl (Yld.shr rfl rfl (by omega)) ?_ | refine WL.gyes rfl rfl rfl rfl (Yld.pure tab_ok rfl) ?_ | refine WL.gyes rfl rfl rfl rfl (Yld.fld flds_ok rfl rfl rfl) ?_ | refine WL.gyes rfl rfl rfl rfl (Yld.max2 rfl rfl) ?_ | refine WL.gyes rfl rfl rfl rfl (Yld.min2 rfl rfl) ?_ | refine WL.gyes rfl rfl rfl rfl (Yld.pickV rfl rfl rfl) ?_)
      generalize hb2 : decide ((97 : Int) ≤ (c.toNat : Int)) = b2
      cases b2
      · simp only [decide_eq_false_iff_not] at hb2
        repeat (first | refine WC.seq ?_ | refine WC.block ?_ | refine WC.region ?_ | refine WL.nil ?_ | refine WX.then_normal ?_ | refine WC.skip ?_ | refine WC.exit ?_ | refine WC.ret ?_ | refine WX.then_exit ?_ | refine WX.then_ret ?_ | refine WX.block_normal ?_ | refine WX.block_ret ?_ | refine WX.block_same ?_ | refine WX.block_other rfl ?_ | refine WC.label ?_ | refine WC.scope ?_ | refine WX.scope_normal ?_ | refine WX.scope_ret ?_ | refine WX.scope_exit ?_ | refine WL.y rfl (Yld.add rfl rfl (by simp only [In]; omega)) ?_ | refine WL.y rfl (Yld.sub rfl rfl (by simp only [In]; omega)) ?_ | refine WL.y rfl (Yld.mul rfl rfl (by simp only [In]; omega)) ?_ | refine WL.y rfl (Yld.convB tab_ok rfl rfl rfl rfl) ?_ | refine WL.y rfl (Yld.conv tab_ok rfl rfl rfl (by simp only [In]; omega)) ?_ | refine WL.y rfl (Yld.quo rfl rfl (by omega) (by omega) (by simp only [In]; omega)) ?_ | refine WL.y rfl (Yld.rem rfl rfl (by omega) (by omega)) ?_ | refine WL.y rfl (Yld.shl rfl rfl (by omega)) ?_ | refine WL.y rfl (Yld.shr rfl rfl (by omega)) ?_ | refine WL.y rfl (Yld.pure tab_ok rfl) ?_ | refine WL.y rfl (Yld.fld flds_ok rfl rfl rfl) ?_ | refine WL.y rfl (Yld.max2 rfl rfl) ?_ | refine WL.y rfl (Yld.min2 rfl rfl) ?_ | refine WL.y rfl (Yld.pickV rfl rfl rfl) ?_ | refine WL.gno rfl rfl rfl rfl ?_ | refine WL.gyes rfl rfl rfl rfl (Yld.add rfl rfl (by simp only [In]; omega)) ?_ | refine WL.gyes rfl rfl rfl rfl (Yld.sub rfl rfl (by simp only [In]; omega)) ?_ | refine WL.gyes rfl rfl rfl rfl (Yld.mul rfl rfl (by simp only [In]; omega)) ?_ | refine WL.gyes rfl rfl rfl rfl (Yld.convB tab_ok rfl rfl rfl rfl) ?_ | refine WL.gyes rfl rfl rfl rfl (Yld.conv tab_ok rfl rfl rfl (by simp only [In]; omega)) ?_ | refine WL.gyes rfl rfl rfl rfl (Yld.quo rfl rfl (by omega) (by omega) (by simp only [In]; omega)) ?_ | refine WL.gyes rfl rfl rfl rfl (Yld.rem rfl rfl (by omega) (by omega)) ?_ | refine WL.gyes rfl rfl rfl rfl (Yld.shl rfl rfl (by omega)) ?_ | refine WL.gyes rfl rfl rfl rfl (Yld.shr rfl rfl (by omega)) ?_ | refine WL.gyes rfl rfl rfl rfl (Yld.pure tab_ok rfl) ?_ | refine WL.gyes rfl rfl rfl rfl (Yld.fld flds_ok rfl rfl rfl) ?_ | refine WL.gyes rfl rfl rfl rfl (Yld.max2 rfl rfl) ?_ | refine WL.gyes rfl rfl rfl rfl (Yld.min2 rfl rfl) ?_ | refine WL.gyes rfl rfl rfl rfl (Yld.pickV rfl rfl rfl) ?_)
        refine WC.cond rfl (fun h => by cases h) (fun _ => ?_)
        repeat (first | refine WC.seq ?_ | refine WC.block ?_ | refine WC.region ?_ | refine WL.nil ?_ | refine WX.then_normal ?_ | refine WC.skip ?_ | refine WC.exit ?_ | refine WC.ret ?_ | refine WX.then_exit ?_ | refine WX.then_ret ?_ | refine WX.block_normal ?_ | refine WX.block_ret ?_ | refine WX.block_same ?_ | refine WX.block_other rfl ?_ | refine WC.label ?_ | refine WC.scope ?_ | refine WX.scope_normal ?_ | refine WX.scope_ret ?_ | refine WX.scope_exit ?_ | refine WL.y rfl (Yld.add rfl rfl (by simp only [In]; omega)) ?_ | refine WL.y rfl (Yld.sub rfl rfl (by simp only [In]; omega)) ?_ | refine WL.y rfl (Yld.mul rfl rfl (by simp only [In]; omega)) ?_ | refine WL.y rfl (Yld.convB tab_ok rfl rfl rfl rfl) ?_ | refine WL.y rfl (Yld.conv tab_ok rfl rfl rfl (by simp only [In]; omega)) ?_ | refine WL.y rfl (Yld.quo rfl rfl (by omega) (by omega) (by simp only [In]; omega)) ?_ | refine WL.y rfl (Yld.rem rfl rfl (by omega) (by omega)) ?_ | refine WL.y rfl (Yld.shl rfl rfl (by omega)) ?_ | refine WL.y rfl (Yld.shr rfl rfl (by omega)) ?_ | refine WL.y rfl (Yld.pure tab_ok rfl) ?_ | refine WL.y rfl (Yld.fld flds_ok rfl rfl rfl) ?_ | refine WL.y rfl (Yld.max2 rfl rfl) ?_ | refine WL.y rfl (Yld.min2 rfl rfl) ?_ | refine WL.y rfl (Yld.pickV rfl rfl rfl) ?_ | refine WL.gno rfl rfl rfl rfl ?_ | refine WL.gyes rfl rfl rfl rfl (Yld.add rfl rfl (by simp only [In]; omega)) ?_ | refine WL.gyes rfl rfl rfl rfl (Yld.sub rfl rfl (by simp only [In]; omega)) ?_ | refine WL.gyes rfl rfl rfl rfl (Yld.mul rfl rfl (by simp only [In]; omega)) ?_ | refine WL.gyes rfl rfl rfl rfl (Yld.convB tab_ok rfl rfl rfl rfl) ?_ | refine WL.gyes rfl rfl rfl rfl (Yld.conv tab_ok rfl rfl rfl (by simp only [In]; omega)) ?_ | refine WL.gyes rfl rfl rfl rfl (Yld.quo rfl rfl (by omega) (by omega) (by simp only [In]; omega)) ?_ | refine WL.gyes rfl rfl rfl rfl (Yld.rem rfl rfl (by omega) (by omega)) ?_ | refine WL.gyes rfl rfl rfl rfl (Yld.shl rfl rfl (by omega)) ?_ | refine WL.gyes rfl rfl rfl rfl (Yld.shr rfl rfl (by omega)) ?_ | refine WL.gyes rfl rfl rfl rfl (Yld.pure tab_ok rfl) ?_ | refine WL.gyes rfl rfl rfl rfl (Yld.fld flds_ok rfl rfl rfl) ?_ | refine WL.gyes rfl rfl rfl rfl (Yld.max2 rfl rfl) ?_ | refine WL.gyes rfl rfl rfl rfl (Yld.min2 rfl rfl) ?_ | refine WL.gyes rfl rfl rfl rfl (Yld.pickV rfl rfl rfl) ?_)
        have : digV c = none := by unfold digV; rw [if_neg (by omega), if_neg (by omega)]
        exact WX.ret2 rfl rfl rfl ⟨by rw [digR, this]; rfl, rfl⟩
      · simp only [decide_eq_true_eq] at hb2
        repeat (first | refine WC.seq ?_ | refine WC.block ?_ | refine WC.region ?_ | refine WL.nil ?_ | refine WX.then_normal ?_ | refine WC.skip ?_ | refine WC.exit ?_ | refine WC.ret ?_ | refine WX.then_exit ?_ | refine WX.then_ret ?_ | refine WX.block_normal ?_ | refine WX.block_ret ?_ | refine WX.block_same ?_ | refine WX.block_other rfl ?_ | refine WC.label ?_ | refine WC.scope ?_ | refine WX.scope_normal ?_ | refine WX.scope_ret ?_ | refine WX.scope_exit ?_ | refine WL.y rfl (Yld.add rfl rfl (by simp only [In]; omega)) ?_ | refine WL.y rfl (Yld.sub rfl rfl (by simp only [In]; omega)) ?_ | refine WL.y rfl (Yld.mul rfl rfl (by simp only [In]; omega)) ?_ | refine WL.y rfl (Yld.convB tab_ok rfl rfl rfl rfl) ?_ | refine WL.y rfl (Yld.conv tab_ok rfl rfl rfl (by simp only [In]; omega)) ?_ | refine WL.y rfl (Yld.quo rfl rfl (by omega) (by omega) (by simp only [In]; omega)) ?_ | refine WL.y rfl (Yld.rem rfl rfl (by omega) (by omega)) ?_ | refine WL.y rfl (Yld.shl rfl rfl (by omega)) ?_ | refine WL.y rfl (Yld.shr rfl rfl (by omega)) ?_ | refine WL.y rfl (Yld.pure tab_ok rfl) ?_ | refine WL.y rfl (Yld.fld flds_ok rfl rfl rfl) ?_ | refine WL.y rfl (Yld.max2 rfl rfl) ?_ | refine WL.y rfl (Yld.min2 rfl rfl) ?_ | refine WL.y rfl (Yld.pickV rfl rfl rfl) ?_ | refine WL.gno rfl rfl rfl rfl ?_ | refine WL.gyes rfl rfl rfl rfl (Yld.add rfl rfl (by simp only [In]; omega)) ?_ | refine WL.gyes rfl rfl rfl rfl (Yld.sub rfl rfl (by simp only [In]; omega)) ?_ | refine WL.gyes rfl rfl rfl rfl (Yld.mul rfl rfl (by simp only [In]; omega)) ?_ | refine WL.gyes rfl rfl rfl rfl (Yld.convB tab_ok rfl rfl rfl rfl) ?_ | refine WL.gyes rfl rfl rfl rfl (Yld.conv tab_ok rfl rfl rfl (by simp only [In]; omega)) ?_ | refine WL.gyes rfl rfl rfl rfl (Yld.quo rfl rfl (by omega) (by omega) (by simp only [In]; omega)) ?_ | refine WL.gyes rfl rfl rfl rfl (Yld.rem rfl rfl (by omega) (by omega)) ?_ | refine WL.gyes rfl rfl rfl rfl (Yld.shl rfl rfl (by omega)) ?_ | refine WL.gyes rfl rfl rfl rfl (Yld.shr rfl rfl (by omega)) ?_ | refine WL.gyes rfl rfl rfl rfl (Yld.pure tab_ok rfl) ?_ | refine WL.gyes rfl rfl rfl rfl (Yld.fld flds_ok rfl rfl rfl) ?_ | refine WL.gyes rfl rfl rfl rfl (Yld.max2 rfl rfl) ?_ | refine WL.gyes rfl rfl rfl rfl (Yld.min2 rfl rfl) ?_ | refine WL.gyes rfl rfl rfl rfl (Yld.pickV rfl rfl rfl) ?_)
        refine WC.cond rfl (fun h => ?_) (fun h => ?_)
        · simp only [cond_true, decide_eq_true_eq] at h
          repeat (first | refine WC.seq ?_ | refine WC.block ?_ | refine WC.region ?_ | refine WL.nil ?_ | refine WX.then_normal ?_ | refine WC.skip ?_ | refine WC.exit ?_ | refine WC.ret ?_ | refine WX.then_exit ?_ | refine WX.then_ret ?_ | refine WX.block_normal ?_ | refine WX.block_ret ?_ | refine WX.block_same ?_ | refine WX.block_other rfl ?_ | refine WC.label ?_ | refine WC.scope ?_ | refine WX.scope_normal ?_ | refine WX.scope_ret ?_ | refine WX.scope_exit ?_ | refine WL.y rfl (Yld.add rfl rfl (by simp only [In]; omega)) ?_ | refine WL.y rfl (Yld.sub rfl rfl (by simp only [In]; omega)) ?_ | refine WL.y rfl (Yld.mul rfl rfl (by simp only [In]; omega)) ?_ | refine WL.y rfl (Yld.convB tab_ok rfl rfl rfl rfl) ?_ | refine WL.y rfl (Yld.conv tab_ok rfl rfl rfl (by simp only [In]; omega)) ?_ | refine WL.y rfl (Yld.quo rfl rfl (by omega) (by omega) (by simp only [In]; omega)) ?_ | refine WL.y rfl (Yld.rem rfl rfl (by omega) (by omega)) ?_ | refine WL.y rfl (Yld.shl rfl rfl (by omega)) ?_ | refine WL.y rfl (Yld.shr rfl rfl (by omega)) ?_ | refine WL.y rfl (Yld.pure tab_ok rfl) ?_ | refine WL.y rfl (Yld.fld flds_ok rfl rfl rfl) ?_ | refine WL.y rfl (Yld.max2 rfl rfl) ?_ | refine WL.y rfl (Yld.min2 rfl rfl) ?_ | refine WL.y rfl (Yld.pickV rfl rfl rfl) ?_ | refine WL.gno rfl rfl rfl rfl ?_ | refine WL.gyes rfl rfl rfl rfl (Yld.add rfl rfl (by simp only [In]; omega)) ?_ | refine WL.gyes rfl rfl rfl rfl (Yld.sub rfl rfl (by simp only [In]; omega)) ?_ | refine WL.gyes rfl rfl rfl rfl (Yld.mul rfl rfl (by simp only [In]; omega)) ?_ | refine WL.gyes rfl rfl rfl rfl (Yld.convB tab_ok rfl rfl rfl rfl) ?_ | refine WL.gyes rfl rfl rfl rfl (Yld.conv tab_ok rfl rfl rfl (by simp only [In]; omega)) ?_ | refine WL.gyes rfl rfl rfl rfl (Yld.quo rfl rfl (by omega) (by omega) (by simp only [In]; omega)) ?_ | refine WL.gyes rfl rfl rfl rfl (Yld.rem rfl rfl (by omega) (by omega)) ?_ | refine WL.gyes rfl rfl rfl rfl (Yld.shl rfl rfl (by omega)) ?_ | refine WL.gyes rfl rfl rfl rfl (Yld.shr rfl rfl (by omega)) ?_ | refine WL.gyes rfl rfl rfl rfl (Yld.pure tab_ok rfl) ?_ | refine WL.gyes rfl rfl rfl rfl (Yld.fld flds_ok rfl rfl rfl) ?_ | refine WL.gyes rfl rfl rfl rfl (Yld.max2 rfl rfl) ?_ | refine WL.gyes rfl rfl rfl rfl (Yld.min2 rfl rfl) ?_ | refine WL.gyes rfl rfl rfl rfl (Yld.pickV rfl rfl rfl) ?_)
          have : digV c = some (c.toNat - 87) := by unfold digV; rw [if_neg (by omega), if_pos (by omega)]
          refine WX.ret2 rfl rfl rfl ⟨?_, rfl⟩
          rw [digR, this, Option.getD_some, show ((c.toNat - 87 : Nat) : Int) = (c.toNat : Int) - 97 + 10 by omega]
          rfl
        · simp only [cond_true, decide_eq_false_iff_not] at h
          repeat (first | refine WC.seq ?_ | refine WC.block ?_ | refine WC.region ?_ | refine WL.nil ?_ | refine WX.then_normal ?_ | refine WC.skip ?_ | refine WC.exit ?_ | refine WC.ret ?_ | refine WX.then_exit ?_ | refine WX.then_ret ?_ | refine WX.block_normal ?_ | refine WX.block_ret ?_ | refine WX.block_same ?_ | refine WX.block_other rfl ?_ | refine WC.label ?_ | refine WC.scope ?_ | refine WX.scope_normal ?_ | refine WX.scope_ret ?_ | refine WX.scope_exit ?_ | refine WL.y rfl (Yld.add rfl rfl (by simp only [In]; omega)) ?_ | refine WL.y rfl (Yld.sub rfl rfl (by simp only [In]; omega)) ?_ | refine WL.y rfl (Yld.mul rfl rfl (by simp only [In]; omega)) ?_ | refine WL.y rfl (Yld.convB tab_ok rfl rfl rfl rfl) ?_ | refine WL.y rfl (Yld.conv tab_ok rfl rfl rfl (by simp only [In]; omega)) ?_ | refine WL.y rfl (Yld.quo rfl rfl (by omega) (by omega) (by simp only [In]; omega)) ?_ | refine WL.y rfl (Yld.rem rfl rfl (by omega) (by omega)) ?_ | refine WL.y rfl (Yld.shl rfl rfl (by omega)) ?_ | refine WL.y rfl (Yld.shr rfl rfl (by omega)) ?_ | refine WL.y rfl (Yld.pure tab_ok rfl) ?_ | refine WL.y rfl (Yld.fld flds_ok rfl rfl rfl) ?_ | refine WL.y rfl (Yld.max2 rfl rfl) ?_ | refine WL.y rfl (Yld.min2 rfl rfl) ?_ | refine WL.y rfl (Yld.pickV rfl rfl rfl) ?_ | refine WL.gno rfl rfl rfl rfl ?_ | refine WL.gyes rfl rfl rfl rfl (Yld.add rfl rfl (by simp only [In]; omega)) ?_ | refine WL.gyes rfl rfl rfl rfl (Yld.sub rfl rfl (by simp only [In]; omega)) ?_ | refine WL.gyes rfl rfl rfl rfl (Yld.mul rfl rfl (by simp only [In]; omega)) ?_ | refine WL.gyes rfl rfl rfl rfl (Yld.convB tab_ok rfl rfl rfl rfl) ?_ | refine WL.gyes rfl rfl rfl rfl (Yld.conv tab_ok rfl rfl rfl (by simp only [In]; omega)) ?_ | refine WL.gyes rfl rfl rfl rfl (Yld.quo rfl rfl (by omega) (by omega) (by simp only [In]; omega)) ?_ | refine WL.gyes rfl rfl rfl rfl (Yld.rem rfl rfl (by omega) (by omega)) ?_ | refine WL.gyes rfl rfl rfl rfl (Yld.shl rfl rfl (by omega)) ?_ | refine WL.gyes rfl rfl rfl rfl (Yld.shr rfl rfl (by omega)) ?_ | refine WL.gyes rfl rfl rfl rfl (Yld.pure tab_ok rfl) ?_ | refine WL.gyes rfl rfl rfl rfl (Yld.fld flds_ok rfl rfl rfl) ?_ | refine WL.gyes rfl rfl rfl rfl (Yld.max2 rfl rfl) ?_ | refine WL.gyes rfl rfl rfl rfl (Yld.min2 rfl rfl) ?_ | refine WL.gyes rfl rfl rfl rfl (Yld.pickV rfl rfl rfl) ?_)
          have : digV c = none := by unfold digV; rw [if_neg (by omega), if_neg (by omega)]
          exact WX.ret2 rfl rfl rfl ⟨by rw [digR, this]; rfl, rfl⟩
/-- the bytes that the first n pairs of digits say -/
def parN (s : List UInt8) : Nat → Option (List UInt8)
  | 0 => some []
  | n + 1 => match parN s n, digV (s.getD (2 * n) 0), digV (s.getD (2 * n + 1) 0) with
    | some l, some a, some b => some (l ++ [u8v (bits .or .u8 (shlV .u8 (a : Int) 4) (b : Int))])
    | _, _, _ => none
def parS (s : List UInt8) : Option (List UInt8) := if s.length = 64 then parN s 32 else none
theorem parN_len (s : List UInt8) : ∀ n l, parN s n = some l → l.length = n
  | 0, l, h => by injection h with h; subst h; rfl
  | n + 1, l, h => by
    unfold parN at h
    split at h
    · rename_i k a b hk _ _
      injection h with h
      subst h
      simp [parN_len s n _ hk]
    · cases h
theorem parN_none (s : List UInt8) (n : Nat) (h : parN s n = none) : ∀ k, parN s (n + k) = none
  | 0 => h
  | k + 1 => by rw [← Nat.add_assoc, parN, parN_none s n h k]
theorem cell_grown {w w' : World} {p : Addr} {v : Value} {row : Option Nat} (hg : w.grownBy w' row) (hv : w.cell? p = some v) (hr : row ≠ some p.block) : w'.cell? p = some v := hg.cell hv (fun e => hr e.symm)
theorem fill_set (l : List UInt8) (i n : Nat) (x : UInt8) (hl : l.length = i) (hi : i < n) : (l.map vb ++ List.replicate (n - i) (Value.int .u8 0)).set i (vb x) = (l ++ [x]).map vb ++ List.replicate (n - (i + 1)) (Value.int .u8 0) := by
  subst hl
  rw [List.set_append_right _ _ (by simp), List.length_map, Nat.sub_self, show n - l.length = (n - (l.length + 1)) + 1 by omega, List.replicate_succ, List.set_cons_zero]
  simp
/-- what Parse answers: the digest, and no error; or nothing, and the error E -/
def parR (E : Value) (s : List UInt8) : Value := match parS s with
  | some l => .tuple #[.agg ⟨l.map vb⟩, .nilIface]
  | none => .tuple #[.agg ⟨(List.replicate 32 (0 : UInt8)).map vb⟩, E]
theorem or_in {a b : Nat} (ha : a < 16) (hb : b < 16) : (u8v (bits .or .u8 (shlV .u8 (a : Int) 4) (b : Int))).toNat = bits .or .u8 (shlV .u8 (a : Int) 4) (b : Int) := by
  have : ∀ a b : Fin 16, ((u8v (bits .or .u8 (shlV .u8 (a.val : Int) 4) (b.val : Int))).toNat : Int) = bits .or .u8 (shlV .u8 (a.val : Int) 4) (b.val : Int) := by decide
  exact this ⟨a, ha⟩ ⟨b, hb⟩
theorem parse_fn (s : List UInt8) (E : Value) (w : World) (hE : w.cell? ⟨6, 0, none⟩ = some E) :
    Fn Tryd.prog 114 ⟨[vs s]⟩ w fun v w' => v = parR E s ∧ w.grownBy w' none := by
  refine Fn.enter (by kernel_rfl) Tryd.func114 rfl Tryd.ntmps114 rfl ?_
  repeat (first | refine WC.seq ?_ | refine WC.block ?_ | refine WC.region ?_ | refine WL.nil ?_ | refine WX.then_normal ?_ | refine WC.skip ?_ | refine WC.exit ?_ | refine WC.ret ?_ | refine WX.then_exit ?_ | refine WX.then_ret ?_ | refine WX.block_normal ?_ | refine WX.block_ret ?_ | refine WX.block_same ?_ | refine WX.block_other rfl ?_ | refine WC.label ?_ | refine WC.scope ?_ | refine WX.scope_normal ?_ | refine WX.scope_ret ?_ | refine WX.scope_exit ?_ | refine WL.y rfl (Yld.add rfl rfl (by simp only [In]; omega)) ?_ | refine WL.y rfl (Yld.sub rfl rfl (by simp only [In]; omega)) ?_ | refine WL.y rfl (Yld.mul rfl rfl (by simp only [In]; omega)) ?_ | refine WL.y rfl (Yld.convB tab_ok rfl rfl rfl rfl) ?_ | refine WL.y rfl (Yld.conv tab_ok rfl rfl rfl (by simp only [In]; omega)) ?_ | refine WL.y rfl (Yld.quo rfl rfl (by omega) (by omega) (by simp only [In]; omega)) ?_ | refine WL.y rfl (Yld.rem rfl rfl (by omega) (by omega)) ?_ | refine WL.y rfl (Yld.shl rfl rfl (by omega)) ?_ | refine WL.y rfl (Yld.shr rfl rfl (by omega)) ?_ | refine WL.y rfl (Yld.pure tab_ok rfl) ?_ | refine WL.y rfl (Yld.fld flds_ok rfl rfl rfl) ?_ | refine WL.y rfl (Yld.max2 rfl rfl) ?_ | refine WL.y rfl (Yld.min2 rfl rfl) ?_ | refine WL.y rfl (Yld.pickV rfl rfl rfl) ?_ | refine WL.gno rfl rfl rfl rfl ?_ | refine WL.gyes rfl rfl rfl rfl (Yld.add rfl rfl (by simp only [In]; omega)) ?_ | refine WL.gyes rfl rfl rfl rfl (Yld.sub rfl rfl (by simp only [In]; omega)) ?_ | refine WL.gyes rfl rfl rfl rfl (Yld.mul rfl rfl (by simp only [In]; omega)) ?_ | refine WL.gyes rfl rfl rfl rfl (Yld.convB tab_ok rfl rfl rfl rfl) ?_ | refine WL.gyes rfl rfl rfl rfl (Yld.conv tab_ok rfl rfl rfl (by simp only [In]; omega)) ?_ | refine WL.gyes rfl rfl rfl rfl (Yld.quo rfl rfl (by omega) (by omega) (by simp only [In]; omega)) ?_ | refine WL.gyes rfl rfl rfl rfl (Yld.rem rfl rfl (by omega) (by omega)) ?_ | refine WL.gyes rfl rfl rfl rfl (Yld.shl rfl rfl (by omega)) ?_ | refine WL.gyes rfl rfl rfl rfl (Yld.shr rfl rfl (by omega)) ?_ | refine WL.gyes rfl rfl rfl rfl (Yld.pure tab_ok rfl) ?_ | refine WL.gyes rfl rfl rfl rfl (Yld.fld flds_ok rfl rfl rfl) ?_ | refine WL.gyes rfl rfl rfl rfl (Yld.max2 rfl rfl) ?_ | refine WL.gyes rfl rfl rfl rfl (Yld.min2 rfl rfl) ?_ | refine WL.gyes rfl rfl rfl rfl (Yld.pickV rfl rfl rfl) ?_)
  refine WL.alloc rfl zero74 (fun g1 w1 hB1 hg1 hl1 => ?_)
  repeat (first | refine WC.seq ?_ | refine WC.block ?_ | refine WC.region ?_ | refine WL.nil ?_ | refine WX.then_normal ?_ | refine WC.skip ?_ | refine WC.exit ?_ | refine WC.ret ?_ | refine WX.then_exit ?_ | refine WX.then_ret ?_ | refine WX.block_normal ?_ | refine WX.block_ret ?_ | refine WX.block_same ?_ | refine WX.block_other rfl ?_ | refine WC.label ?_ | refine WC.scope ?_ | refine WX.scope_normal ?_ | refine WX.scope_ret ?_ | refine WX.scope_exit ?_ | refine WL.y rfl (Yld.add rfl rfl (by simp only [In]; omega)) ?_ | refine WL.y rfl (Yld.sub rfl rfl (by simp only [In]; omega)) ?_ | refine WL.y rfl (Yld.mul rfl rfl (by simp only [In]; omega)) ?_ | refine WL.y rfl (Yld.convB tab_ok rfl rfl rfl rfl) ?_ | refine WL.y rfl (Yld.conv tab_ok rfl rfl rfl (by simp only [In]; omega)) ?_ | refine WL.y rfl (Yld.quo rfl rfl (by omega) (by omega) (by simp only [In]; omega)) ?_ | refine WL.y rfl (Yld.rem rfl rfl (by omega) (by omega)) ?_ | refine WL.y rfl (Yld.shl rfl rfl (by omega)) ?_ | refine WL.y rfl (Yld.shr rfl rfl (by omega)) ?_ | refine WL.y rfl (Yld.pure tab_ok rfl) ?_ | refine WL.y rfl (Yld.fld flds_ok rfl rfl rfl) ?_ | refine WL.y rfl (Yld.max2 rfl rfl) ?_ | refine WL.y rfl (Yld.min2 rfl rfl) ?_ | refine WL.y rfl (Yld.pickV rfl rfl rfl) ?_ | refine WL.gno rfl rfl rfl rfl ?_ | refine WL.gyes rfl rfl rfl rfl (Yld.add rfl rfl (by simp only [In]; omega)) ?_ | refine WL.gyes rfl rfl rfl rfl (Yld.sub rfl rfl (by simp only [In]; omega)) ?_ | refine WL.gyes rfl rfl rfl rfl (Yld.mul rfl rfl (by simp only [In]; omega)) ?_ | refine WL.gyes rfl rfl rfl rfl (Yld.convB tab_ok rfl rfl rfl rfl) ?_ | refine WL.gyes rfl rfl rfl rfl (Yld.conv tab_ok rfl rfl rfl (by simp only [In]; omega)) ?_ | refine WL.gyes rfl rfl rfl rfl (Yld.quo rfl rfl (by omega) (by omega) (by simp only [In]; omega)) ?_ | refine WL.gyes rfl rfl rfl rfl (Yld.rem rfl rfl (by omega) (by omega)) ?_ | refine WL.gyes rfl rfl rfl rfl (Yld.shl rfl rfl (by omega)) ?_ | refine WL.gyes rfl rfl rfl rfl (Yld.shr rfl rfl (by omega)) ?_ | refine WL.gyes rfl rfl rfl rfl (Yld.pure tab_ok rfl) ?_ | refine WL.gyes rfl rfl rfl rfl (Yld.fld flds_ok rfl rfl rfl) ?_ | refine WL.gyes rfl rfl rfl rfl (Yld.max2 rfl rfl) ?_ | refine WL.gyes rfl rfl rfl rfl (Yld.min2 rfl rfl) ?_ | refine WL.gyes rfl rfl rfl rfl (Yld.pickV rfl rfl rfl) ?_)
  refine WL.alloc rfl zero74 (fun g2 w2 hB2 hg2 hl2 => ?_)
  repeat (first | refine WC.seq ?_ | refine WC.block ?_ | refine WC.region ?_ | refine WL.nil ?_ | refine WX.then_normal ?_ | refine WC.skip ?_ | refine WC.exit ?_ | refine WC.ret ?_ | refine WX.then_exit ?_ | refine WX.then_ret ?_ | refine WX.block_normal ?_ | refine WX.block_ret ?_ | refine WX.block_same ?_ | refine WX.block_other rfl ?_ | refine WC.label ?_ | refine WC.scope ?_ | refine WX.scope_normal ?_ | refine WX.scope_ret ?_ | refine WX.scope_exit ?_ | refine WL.y rfl (Yld.add rfl rfl (by simp only [In]; omega)) ?_ | refine WL.y rfl (Yld.sub rfl rfl (by simp only [In]; omega)) ?_ | refine WL.y rfl (Yld.mul rfl rfl (by simp only [In]; omega)) ?_ | refine WL.y rfl (Yld.convB tab_ok rfl rfl rfl rfl) ?_ | refine WL.y rfl (Yld.conv tab_ok rfl rfl rfl (by simp only [In]; omega)) ?_ | refine WL.y rfl (Yld.quo rfl rfl (by omega) (by omega) (by simp only [In]; omega)) ?_ | refine WL.y rfl (Yld.rem rfl rfl (by omega) (by omega)) ?_ | refine WL.y rfl (Yld.shl rfl rfl (by omega)) ?_ | refine WL.y rfl (Yld.shr rfl rfl (by omega)) ?_ | refine WL.y rfl (Yld.pure tab_ok rfl) ?_ | refine WL.y rfl (Yld.fld flds_ok rfl rfl rfl) ?_ | refine WL.y rfl (Yld.max2 rfl rfl) ?_ | refine WL.y rfl (Yld.min2 rfl rfl) ?_ | refine WL.y rfl (Yld.pickV rfl rfl rfl) ?_ | refine WL.gno rfl rfl rfl rfl ?_ | refine WL.gyes rfl rfl rfl rfl (Yld.add rfl rfl (by simp only [In]; omega)) ?_ | refine WL.gyes rfl rfl rfl rfl (Yld.sub rfl rfl (by simp only [In]; omega)) ?_ | refine WL.gyes rfl rfl rfl rfl (Yld.mul rfl rfl (by simp only [In]; omega)) ?_ | refine WL.gyes rfl rfl rfl rfl (Yld.convB tab_ok rfl rfl rfl rfl) ?_ | refine WL.gyes rfl rfl rfl rfl (Yld.conv tab_ok rfl rfl rfl (by simp only [In]; omega)) ?_ | refine WL.gyes rfl rfl rfl rfl (Yld.quo rfl rfl (by omega) (by omega) (by simp only [In]; omega)) ?_ | refine WL.gyes rfl rfl rfl rfl (Yld.rem rfl rfl (by omega) (by omega)) ?_ | refine WL.gyes rfl rfl rfl rfl (Yld.shl rfl rfl (by omega)) ?_ | refine WL.gyes rfl rfl rfl rfl (Yld.shr rfl rfl (by omega)) ?_ | refine WL.gyes rfl rfl rfl rfl (Yld.pure tab_ok rfl) ?_ | refine WL.gyes rfl rfl rfl rfl (Yld.fld flds_ok rfl rfl rfl) ?_ | refine WL.gyes rfl rfl rfl rfl (Yld.max2 rfl rfl) ?_ | refine WL.gyes rfl rfl rfl rfl (Yld.min2 rfl rfl) ?_ | refine WL.gyes rfl rfl rfl rfl (Yld.pickV rfl rfl rfl) ?_)
  have hB12 := hB1.keep hg2 (by simp)
  have hE2 : w2.cell? ⟨6, 0, none⟩ = some E := cell_grown (gr_trans hg1 hg2) hE (by simp)
  have hlt0 := World.block_lt_of_cell? w _ hE
  simp only at hlt0
  have hg12 := gr_trans hg1 hg2
  have hsz1 := hg1.size
  have hgl1 := hB1.lt
  refine WC.cond rfl (fun h => ?_) (fun h => ?_)
  · simp at h
    have hpar : parS s = none := by unfold parS; rw [if_neg (by omega)]
    repeat (first | refine WC.seq ?_ | refine WC.block ?_ | refine WC.region ?_ | refine WL.nil ?_ | refine WX.then_normal ?_ | refine WC.skip ?_ | refine WC.exit ?_ | refine WC.ret ?_ | refine WX.then_exit ?_ | refine WX.then_ret ?_ | refine WX.block_normal ?_ | refine WX.block_ret ?_ | refine WX.block_same ?_ | refine WX.block_other rfl ?_ | refine WC.label ?_ | refine WC.scope ?_ | refine WX.scope_normal ?_ | refine WX.scope_ret ?_ | refine WX.scope_exit ?_ | refine WL.y rfl (Yld.add rfl rfl (by simp only [In]; omega)) ?_ | refine WL.y rfl (Yld.sub rfl rfl (by simp only [In]; omega)) ?_ | refine WL.y rfl (Yld.mul rfl rfl (by simp only [In]; omega)) ?_ | refine WL.y rfl (Yld.convB tab_ok rfl rfl rfl rfl) ?_ | refine WL.y rfl (Yld.conv tab_ok rfl rfl rfl (by simp only [In]; omega)) ?_ | refine WL.y rfl (Yld.quo rfl rfl (by omega) (by omega) (by simp only [In]; omega)) ?_ | refine WL.y rfl (Yld.rem rfl rfl (by omega) (by omega)) ?_ | refine WL.y rfl (Yld.shl rfl rfl (by omega)) ?_ | refine WL.y rfl (Yld.shr rfl rfl (by omega)) ?_ | refine WL.y rfl (Yld.pure tab_ok rfl) ?_ | refine WL.y rfl (Yld.fld flds_ok rfl rfl rfl) ?_ | refine WL.y rfl (Yld.max2 rfl rfl) ?_ | refine WL.y rfl (Yld.min2 rfl rfl) ?_ | refine WL.y rfl (Yld.pickV rfl rfl rfl) ?_ | refine WL.gno rfl rfl rfl rfl ?_ | refine WL.gyes rfl rfl rfl rfl (Yld.add rfl rfl (by simp only [In]; omega)) ?_ | refine WL.gyes rfl rfl rfl rfl (Yld.sub rfl rfl (by simp only [In]; omega)) ?_ | refine WL.gyes rfl rfl rfl rfl (Yld.mul rfl rfl (by simp only [In]; omega)) ?_ | refine WL.gyes rfl rfl rfl rfl (Yld.convB tab_ok rfl rfl rfl rfl) ?_ | refine WL.gyes rfl rfl rfl rfl (Yld.conv tab_ok rfl rfl rfl (by simp only [In]; omega)) ?_ | refine WL.gyes rfl rfl rfl rfl (Yld.quo rfl rfl (by omega) (by omega) (by simp only [In]; omega)) ?_ | refine WL.gyes rfl rfl rfl rfl (Yld.rem rfl rfl (by omega) (by omega)) ?_ | refine WL.gyes rfl rfl rfl rfl (Yld.shl rfl rfl (by omega)) ?_ | refine WL.gyes rfl rfl rfl rfl (Yld.shr rfl rfl (by omega)) ?_ | refine WL.gyes rfl rfl rfl rfl (Yld.pure tab_ok rfl) ?_ | refine WL.gyes rfl rfl rfl rfl (Yld.fld flds_ok rfl rfl rfl) ?_ | refine WL.gyes rfl rfl rfl rfl (Yld.max2 rfl rfl) ?_ | refine WL.gyes rfl rfl rfl rfl (Yld.min2 rfl rfl) ?_ | refine WL.gyes rfl rfl rfl rfl (Yld.pickV rfl rfl rfl) ?_)
    refine WC.chain (fun k => !(Nat.beq k 2)) (fun w' => w'.cell? ⟨6, 0, none⟩ = some E) mixed (by kernel_rfl) (fun w' h => (h.cell _).trans hE2) ?_
    refine WK.y rfl rfl (fun w' _ => Yld.zarr tab_ok rfl zero74) ?_
    refine WK.y rfl rfl (fun w' h => Yld.cell tab_ok h rfl rfl) ?_
    refine WK.eff rfl (Ef0.storeW tab_ok rfl rfl rfl (by intro u hu; rw [List.mem_replicate] at hu; rw [hu.2]; rfl) hB12 rfl rfl) (fun w' h => cell_grown h.2 hE2 (by simp; omega)) ?_
    rintro w3 ⟨hB3, hg3⟩
    repeat (first | refine WK.y rfl rfl (fun _ _ => Yld.add rfl rfl (by simp only [In]; omega)) ?_ | refine WK.y rfl rfl (fun _ _ => Yld.sub rfl rfl (by simp only [In]; omega)) ?_ | refine WK.y rfl rfl (fun _ _ => Yld.mul rfl rfl (by simp only [In]; omega)) ?_ | refine WK.y rfl rfl (fun _ _ => Yld.convB tab_ok rfl rfl rfl rfl) ?_ | refine WK.y rfl rfl (fun _ _ => Yld.conv tab_ok rfl rfl rfl (by simp only [In]; omega)) ?_ | refine WK.y rfl rfl (fun _ _ => Yld.quo rfl rfl (by omega) (by omega) (by simp only [In]; omega)) ?_ | refine WK.y rfl rfl (fun _ _ => Yld.rem rfl rfl (by omega) (by omega)) ?_ | refine WK.y rfl rfl (fun _ _ => Yld.shl rfl rfl (by omega)) ?_ | refine WK.y rfl rfl (fun _ _ => Yld.shr rfl rfl (by omega)) ?_ | refine WK.y rfl rfl (fun _ _ => Yld.pure tab_ok rfl) ?_)
    refine WK.nil ?_
    repeat (first | refine WC.seq ?_ | refine WC.block ?_ | refine WC.region ?_ | refine WL.nil ?_ | refine WX.then_normal ?_ | refine WC.skip ?_ | refine WC.exit ?_ | refine WC.ret ?_ | refine WX.then_exit ?_ | refine WX.then_ret ?_ | refine WX.block_normal ?_ | refine WX.block_ret ?_ | refine WX.block_same ?_ | refine WX.block_other rfl ?_ | refine WC.label ?_ | refine WC.scope ?_ | refine WX.scope_normal ?_ | refine WX.scope_ret ?_ | refine WX.scope_exit ?_ | refine WL.y rfl (Yld.add rfl rfl (by simp only [In]; omega)) ?_ | refine WL.y rfl (Yld.sub rfl rfl (by simp only [In]; omega)) ?_ | refine WL.y rfl (Yld.mul rfl rfl (by simp only [In]; omega)) ?_ | refine WL.y rfl (Yld.convB tab_ok rfl rfl rfl rfl) ?_ | refine WL.y rfl (Yld.conv tab_ok rfl rfl rfl (by simp only [In]; omega)) ?_ | refine WL.y rfl (Yld.quo rfl rfl (by omega) (by omega) (by simp only [In]; omega)) ?_ | refine WL.y rfl (Yld.rem rfl rfl (by omega) (by omega)) ?_ | refine WL.y rfl (Yld.shl rfl rfl (by omega)) ?_ | refine WL.y rfl (Yld.shr rfl rfl (by omega)) ?_ | refine WL.y rfl (Yld.pure tab_ok rfl) ?_)
    exact WX.retct tab_ok rfl rfl rfl hB3 rfl rfl ⟨by rw [parR, hpar]; rfl, gr_new hg12 hg3 hl1⟩
  simp at h
  have hs64 : s.length = 64 := by omega
  repeat (first | refine WC.seq ?_ | refine WC.block ?_ | refine WC.region ?_ | refine WL.nil ?_ | refine WX.then_normal ?_ | refine WC.skip ?_ | refine WC.exit ?_ | refine WC.ret ?_ | refine WX.then_exit ?_ | refine WX.then_ret ?_ | refine WX.block_normal ?_ | refine WX.block_ret ?_ | refine WX.block_same ?_ | refine WX.block_other rfl ?_ | refine WC.label ?_ | refine WC.scope ?_ | refine WX.scope_normal ?_ | refine WX.scope_ret ?_ | refine WX.scope_exit ?_ | refine WL.y rfl (Yld.add rfl rfl (by simp only [In]; omega)) ?_ | refine WL.y rfl (Yld.sub rfl rfl (by simp only [In]; omega)) ?_ | refine WL.y rfl (Yld.mul rfl rfl (by simp only [In]; omega)) ?_ | refine WL.y rfl (Yld.convB tab_ok rfl rfl rfl rfl) ?_ | refine WL.y rfl (Yld.conv tab_ok rfl rfl rfl (by simp only [In]; omega)) ?_ | refine WL.y rfl (Yld.quo rfl rfl (by omega) (by omega) (by simp only [In]; omega)) ?_ | refine WL.y rfl (Yld.rem rfl rfl (by omega) (by omega)) ?_ | refine WL.y rfl (Yld.shl rfl rfl (by omega)) ?_ | refine WL.y rfl (Yld.shr rfl rfl (by omega)) ?_ | refine WL.y rfl (Yld.pure tab_ok rfl) ?_ | refine WL.y rfl (Yld.fld flds_ok rfl rfl rfl) ?_ | refine WL.y rfl (Yld.max2 rfl rfl) ?_ | refine WL.y rfl (Yld.min2 rfl rfl) ?_ | refine WL.y rfl (Yld.pickV rfl rfl rfl) ?_ | refine WL.gno rfl rfl rfl rfl ?_ | refine WL.gyes rfl rfl rfl rfl (Yld.add rfl rfl (by simp only [In]; omega)) ?_ | refine WL.gyes rfl rfl rfl rfl (Yld.sub rfl rfl (by simp only [In]; omega)) ?_ | refine WL.gyes rfl rfl rfl rfl (Yld.mul rfl rfl (by simp only [In]; omega)) ?_ | refine WL.gyes rfl rfl rfl rfl (Yld.convB tab_ok rfl rfl rfl rfl) ?_ | refine WL.gyes rfl rfl rfl rfl (Yld.conv tab_ok rfl rfl rfl (by simp only [In]; omega)) ?_ | refine WL.gyes rfl rfl rfl rfl (Yld.quo rfl rfl (by omega) (by omega) (by simp only [In]; omega)) ?_ | refine WL.gyes rfl rfl rfl rfl (Yld.rem rfl rfl (by omega) (by omega)) ?_ | refine WL.gyes rfl rfl rfl rfl (Yld.shl rfl rfl (by omega)) ?_ | refine WL.gyes rfl rfl rfl rfl (Yld.shr rfl rfl (by omega)) ?_ | refine WL.gyes rfl rfl rfl rfl (Yld.pure tab_ok rfl) ?_ | refine WL.gyes rfl rfl rfl rfl (Yld.fld flds_ok rfl rfl rfl) ?_ | refine WL.gyes rfl rfl rfl rfl (Yld.max2 rfl rfl) ?_ | refine WL.gyes rfl rfl rfl rfl (Yld.min2 rfl rfl) ?_ | refine WL.gyes rfl rfl rfl rfl (Yld.pickV rfl rfl rfl) ?_)
  refine WC.loop2 (fun i _ => 32 - i) (fun i _ => [(15, vi i), (4, .pointer (some ⟨g2, 0, none⟩)), (3, .nilIface), (2, .pointer (some ⟨g1, 0, none⟩)), (0, vs s)])
    (fun i l w3 => i ≤ 32 ∧ parN s i = some l ∧ Bl w3 g2 74 (l.map vb ++ List.replicate (32 - i) (Value.int .u8 0)) ∧ Bl w3 g1 74 (List.replicate 32 (Value.int .u8 0)) ∧ w2.grownBy w3 (some g2)) 0 [] ⟨by omega, rfl, hB2, hB12, gr_refl _ _⟩ (by repeat (first | exact Sub.nil | refine Sub.cons rfl ?_)) (fun i l w3 ⟨hi, hp, hB23, hB13, hg23⟩ => ?_)
  have hll := parN_len s i l hp
  have hEX : w3.cell? ⟨6, 0, none⟩ = some E := cell_grown hg23 hE2 (by simp; omega)
  have hgX : w.grownBy w3 none := gr_new hg12 hg23 (by omega)
  repeat (first | refine WC.seq ?_ | refine WC.block ?_ | refine WC.region ?_ | refine WL.nil ?_ | refine WX.then_normal ?_ | refine WC.skip ?_ | refine WC.exit ?_ | refine WC.ret ?_ | refine WX.then_exit ?_ | refine WX.then_ret ?_ | refine WX.block_normal ?_ | refine WX.block_ret ?_ | refine WX.block_same ?_ | refine WX.block_other rfl ?_ | refine WC.label ?_ | refine WC.scope ?_ | refine WX.scope_normal ?_ | refine WX.scope_ret ?_ | refine WX.scope_exit ?_ | refine WL.y rfl (Yld.add rfl rfl (by simp only [In]; omega)) ?_ | refine WL.y rfl (Yld.sub rfl rfl (by simp only [In]; omega)) ?_ | refine WL.y rfl (Yld.mul rfl rfl (by simp only [In]; omega)) ?_ | refine WL.y rfl (Yld.convB tab_ok rfl rfl rfl rfl) ?_ | refine WL.y rfl (Yld.conv tab_ok rfl rfl rfl (by simp only [In]; omega)) ?_ | refine WL.y rfl (Yld.quo rfl rfl (by omega) (by omega) (by simp only [In]; omega)) ?_ | refine WL.y rfl (Yld.rem rfl rfl (by omega) (by omega)) ?_ | refine WL.y rfl (Yld.shl rfl rfl (by omega)) ?_ | refine WL.y rfl (Yld.shr rfl rfl (by omega)) ?_ | refine WL.y rfl (Yld.pure tab_ok rfl) ?_ | refine WL.y rfl (Yld.fld flds_ok rfl rfl rfl) ?_ | refine WL.y rfl (Yld.max2 rfl rfl) ?_ | refine WL.y rfl (Yld.min2 rfl rfl) ?_ | refine WL.y rfl (Yld.pickV rfl rfl rfl) ?_ | refine WL.gno rfl rfl rfl rfl ?_ | refine WL.gyes rfl rfl rfl rfl (Yld.add rfl rfl (by simp only [In]; omega)) ?_ | refine WL.gyes rfl rfl rfl rfl (Yld.sub rfl rfl (by simp only [In]; omega)) ?_ | refine WL.gyes rfl rfl rfl rfl (Yld.mul rfl rfl (by simp only [In]; omega)) ?_ | refine WL.gyes rfl rfl rfl rfl (Yld.convB tab_ok rfl rfl rfl rfl) ?_ | refine WL.gyes rfl rfl rfl rfl (Yld.conv tab_ok rfl rfl rfl (by simp only [In]; omega)) ?_ | refine WL.gyes rfl rfl rfl rfl (Yld.quo rfl rfl (by omega) (by omega) (by simp only [In]; omega)) ?_ | refine WL.gyes rfl rfl rfl rfl (Yld.rem rfl rfl (by omega) (by omega)) ?_ | refine WL.gyes rfl rfl rfl rfl (Yld.shl rfl rfl (by omega)) ?_ | refine WL.gyes rfl rfl rfl rfl (Yld.shr rfl rfl (by omega)) ?_ | refine WL.gyes rfl rfl rfl rfl (Yld.pure tab_ok rfl) ?_ | refine WL.gyes rfl rfl rfl rfl (Yld.fld flds_ok rfl rfl rfl) ?_ | refine WL.gyes rfl rfl rfl rfl (Yld.max2 rfl rfl) ?_ | refine WL.gyes rfl rfl rfl rfl (Yld.min2 rfl rfl) ?_ | refine WL.gyes rfl rfl rfl rfl (Yld.pickV rfl rfl rfl) ?_)
  refine WC.cond rfl (fun h => ?_) (fun h => ?_)
  · simp only [decide_eq_true_eq] at h
    have e1 : (2 * (i : Int)).toNat = 2 * i := by omega
    have e2 : (2 * (i : Int) + 1).toNat = 2 * i + 1 := by omega
    repeat (first | refine WL.y rfl (Yld.sidx tab_ok rfl rfl rfl (by omega) (by omega)) ?_ | refine WC.seq ?_ | refine WC.block ?_ | refine WC.region ?_ | refine WL.nil ?_ | refine WX.then_normal ?_ | refine WC.skip ?_ | refine WC.exit ?_ | refine WC.ret ?_ | refine WX.then_exit ?_ | refine WX.then_ret ?_ | refine WX.block_normal ?_ | refine WX.block_ret ?_ | refine WX.block_same ?_ | refine WX.block_other rfl ?_ | refine WC.label ?_ | refine WC.scope ?_ | refine WX.scope_normal ?_ | refine WX.scope_ret ?_ | refine WX.scope_exit ?_ | refine WL.y rfl (Yld.add rfl rfl (by simp only [In]; omega)) ?_ | refine WL.y rfl (Yld.sub rfl rfl (by simp only [In]; omega)) ?_ | refine WL.y rfl (Yld.mul rfl rfl (by simp only [In]; omega)) ?_ | refine WL.y rfl (Yld.convB tab_ok rfl rfl rfl rfl) ?_ | refine WL.y rfl (Yld.conv tab_ok rfl rfl rfl (by simp only [In]; omega)) ?_ | refine WL.y rfl (Yld.quo rfl rfl (by omega) (by omega) (by simp only [In]; omega)) ?_ | refine WL.y rfl (Yld.rem rfl rfl (by omega) (by omega)) ?_ | refine WL.y rfl (Yld.shl rfl rfl (by omega)) ?_ | refine WL.y rfl (Yld.shr rfl rfl (by omega)) ?_ | refine WL.y rfl (Yld.pure tab_ok rfl) ?_ | refine WL.y rfl (Yld.fld flds_ok rfl rfl rfl) ?_ | refine WL.y rfl (Yld.max2 rfl rfl) ?_ | refine WL.y rfl (Yld.min2 rfl rfl) ?_ | refine WL.y rfl (Yld.pickV rfl rfl rfl) ?_ | refine WL.gno rfl rfl rfl rfl ?_ | refine WL.gyes rfl rfl rfl rfl (Yld.add rfl rfl (by simp only [In]; omega)) ?_ | refine WL.gyes rfl rfl rfl rfl (Yld.sub rfl rfl (by simp only [In]; omega)) ?_ | refine WL.gyes rfl rfl rfl rfl (Yld.mul rfl rfl (by simp only [In]; omega)) ?_ | refine WL.gyes rfl rfl rfl rfl (Yld.convB tab_ok rfl rfl rfl rfl) ?_ | refine WL.gyes rfl rfl rfl rfl (Yld.conv tab_ok rfl rfl rfl (by simp only [In]; omega)) ?_ | refine WL.gyes rfl rfl rfl rfl (Yld.quo rfl rfl (by omega) (by omega) (by simp only [In]; omega)) ?_ | refine WL.gyes rfl rfl rfl rfl (Yld.rem rfl rfl (by omega) (by omega)) ?_ | refine WL.gyes rfl rfl rfl rfl (Yld.shl rfl rfl (by omega)) ?_ | refine WL.gyes rfl rfl rfl rfl (Yld.shr rfl rfl (by omega)) ?_ | refine WL.gyes rfl rfl rfl rfl (Yld.pure tab_ok rfl) ?_ | refine WL.gyes rfl rfl rfl rfl (Yld.fld flds_ok rfl rfl rfl) ?_ | refine WL.gyes rfl rfl rfl rfl (Yld.max2 rfl rfl) ?_ | refine WL.gyes rfl rfl rfl rfl (Yld.min2 rfl rfl) ?_ | refine WL.gyes rfl rfl rfl rfl (Yld.pickV rfl rfl rfl) ?_)
    refine WL.call rfl rfl (digit_fn _ w3) ?_
    rintro _ _ ⟨rfl, rfl⟩
    repeat (first | refine WL.y rfl (Yld.sidx tab_ok rfl rfl rfl (by omega) (by omega)) ?_ | refine WC.seq ?_ | refine WC.block ?_ | refine WC.region ?_ | refine WL.nil ?_ | refine WX.then_normal ?_ | refine WC.skip ?_ | refine WC.exit ?_ | refine WC.ret ?_ | refine WX.then_exit ?_ | refine WX.then_ret ?_ | refine WX.block_normal ?_ | refine WX.block_ret ?_ | refine WX.block_same ?_ | refine WX.block_other rfl ?_ | refine WC.label ?_ | refine WC.scope ?_ | refine WX.scope_normal ?_ | refine WX.scope_ret ?_ | refine WX.scope_exit ?_ | refine WL.y rfl (Yld.add rfl rfl (by simp only [In]; omega)) ?_ | refine WL.y rfl (Yld.sub rfl rfl (by simp only [In]; omega)) ?_ | refine WL.y rfl (Yld.mul rfl rfl (by simp only [In]; omega)) ?_ | refine WL.y rfl (Yld.convB tab_ok rfl rfl rfl rfl) ?_ | refine WL.y rfl (Yld.conv tab_ok rfl rfl rfl (by simp only [In]; omega)) ?_ | refine WL.y rfl (Yld.quo rfl rfl (by omega) (by omega) (by simp only [In]; omega)) ?_ | refine WL.y rfl (Yld.rem rfl rfl (by omega) (by omega)) ?_ | refine WL.y rfl (Yld.shl rfl rfl (by omega)) ?_ | refine WL.y rfl (Yld.shr rfl rfl (by omega)) ?_ | refine WL.y rfl (Yld.pure tab_ok rfl) ?_ | refine WL.y rfl (Yld.fld flds_ok rfl rfl rfl) ?_ | refine WL.y rfl (Yld.max2 rfl rfl) ?_ | refine WL.y rfl (Yld.min2 rfl rfl) ?_ | refine WL.y rfl (Yld.pickV rfl rfl rfl) ?_ | refine WL.gno rfl rfl rfl rfl ?_ | refine WL.gyes rfl rfl rfl rfl (Yld.add rfl rfl (by simp only [In]; omega)) ?_ | refine WL.gyes rfl rfl rfl rfl (Yld.sub rfl rfl (by simp only [In]; omega)) ?_ | refine WL.gyes rfl rfl rfl rfl (Yld.mul rfl rfl (by simp only [In]; omega)) ?_ | refine WL.gyes rfl rfl rfl rfl (Yld.convB tab_ok rfl rfl rfl rfl) ?_ | refine WL.gyes rfl rfl rfl rfl (Yld.conv tab_ok rfl rfl rfl (by simp only [In]; omega)) ?_ | refine WL.gyes rfl rfl rfl rfl (Yld.quo rfl rfl (by omega) (by omega) (by simp only [In]; omega)) ?_ | refine WL.gyes rfl rfl rfl rfl (Yld.rem rfl rfl (by omega) (by omega)) ?_ | refine WL.gyes rfl rfl rfl rfl (Yld.shl rfl rfl (by omega)) ?_ | refine WL.gyes rfl rfl rfl rfl (Yld.shr rfl rfl (by omega)) ?_ | refine WL.gyes rfl rfl rfl rfl (Yld.pure tab_ok rfl) ?_ | refine WL.gyes rfl rfl rfl rfl (Yld.fld flds_ok rfl rfl rfl) ?_ | refine WL.gyes rfl rfl rfl rfl (Yld.max2 rfl rfl) ?_ | refine WL.gyes rfl rfl rfl rfl (Yld.min2 rfl rfl) ?_ | refine WL.gyes rfl rfl rfl rfl (Yld.pickV rfl rfl rfl) ?_)
    refine WL.call rfl rfl (digit_fn _ _) ?_
    rintro _ _ ⟨rfl, rfl⟩
    rw [e1, e2]
    have hstep : parN s (i + 1) = match digV (s.getD (2 * i) 0), digV (s.getD (2 * i + 1) 0) with
      | some a, some b => some (l ++ [u8v (bits .or .u8 (shlV .u8 (a : Int) 4) (b : Int))])
      | _, _ => none := by
        rw [parN, hp]
        cases digV (s.getD (2 * i) 0) <;> cases digV (s.getD (2 * i + 1) 0) <;> rfl
    have hla : ∀ a, digV (s.getD (2 * i) 0) = some a → a < 16 := fun a ha => digV_lt ha
    have hlb : ∀ b, digV (s.getD (2 * i + 1) 0) = some b → b < 16 := fun b hb => digV_lt hb
    have hnone : parN s (i + 1) = none → parS s = none := fun hn => by
      unfold parS
      rw [if_pos hs64]
      have := parN_none s (i + 1) hn (32 - (i + 1))
      rwa [show i + 1 + (32 - (i + 1)) = 32 by omega] at this
    unfold digR
    generalize digV (s.getD (2 * i) 0) = da at *
    generalize digV (s.getD (2 * i + 1) 0) = db at *
    repeat (first | refine WC.seq ?_ | refine WC.block ?_ | refine WC.region ?_ | refine WL.nil ?_ | refine WX.then_normal ?_ | refine WC.skip ?_ | refine WC.exit ?_ | refine WC.ret ?_ | refine WX.then_exit ?_ | refine WX.then_ret ?_ | refine WX.block_normal ?_ | refine WX.block_ret ?_ | refine WX.block_same ?_ | refine WX.block_other rfl ?_ | refine WC.label ?_ | refine WC.scope ?_ | refine WX.scope_normal ?_ | refine WX.scope_ret ?_ | refine WX.scope_exit ?_ | refine WL.y rfl (Yld.add rfl rfl (by simp only [In]; omega)) ?_ | refine WL.y rfl (Yld.sub rfl rfl (by simp only [In]; omega)) ?_ | refine WL.y rfl (Yld.mul rfl rfl (by simp only [In]; omega)) ?_ | refine WL.y rfl (Yld.convB tab_ok rfl rfl rfl rfl) ?_ | refine WL.y rfl (Yld.conv tab_ok rfl rfl rfl (by simp only [In]; omega)) ?_ | refine WL.y rfl (Yld.quo rfl rfl (by omega) (by omega) (by simp only [In]; omega)) ?_ | refine WL.y rfl (Yld.rem rfl rfl (by omega) (by omega)) ?_ | refine WL.y rfl (Yld.shl rfl rfl (by omega)) ?_ | refine WL.y rfl (Yld.shr rfl rfl (by omega)) ?_ | refine WL.y rfl (Yld.pure tab_ok rfl) ?_ | refine WL.y rfl (Yld.fld flds_ok rfl rfl rfl) ?_ | refine WL.y rfl (Yld.max2 rfl rfl) ?_ | refine WL.y rfl (Yld.min2 rfl rfl) ?_ | refine WL.y rfl (Yld.pickV rfl rfl rfl) ?_ | refine WL.gno rfl rfl rfl rfl ?_ | refine WL.gyes rfl rfl rfl rfl (Yld.add rfl rfl (by simp only [In]; omega)) ?_ | refine WL.gyes rfl rfl rfl rfl (Yld.sub rfl rfl (by simp only [In]; omega)) ?_ | refine WL.gyes rfl rfl rfl rfl (Yld.mul rfl rfl (by simp only [In]; omega)) ?_ | refine WL.gyes rfl rfl rfl rfl (Yld.convB tab_ok rfl rfl rfl rfl) ?_ | refine WL.gyes rfl rfl rfl rfl (Yld.conv tab_ok rfl rfl rfl (by simp only [In]; omega)) ?_ | refine WL.gyes rfl rfl rfl rfl (Yld.quo rfl rfl (by omega) (by omega) (by simp only [In]; omega)) ?_ | refine WL.gyes rfl rfl rfl rfl (Yld.rem rfl rfl (by omega) (by omega)) ?_ | refine WL.gyes rfl rfl rfl rfl (Yld.shl rfl rfl (by omega)) ?_ | refine WL.gyes rfl rfl rfl rfl (Yld.shr rfl rfl (by omega)) ?_ | refine WL.gyes rfl rfl rfl rfl (Yld.pure tab_ok rfl) ?_ | refine WL.gyes rfl rfl rfl rfl (Yld.fld flds_ok rfl rfl rfl) ?_ | refine WL.gyes rfl rfl rfl rfl (Yld.max2 rfl rfl) ?_ | refine WL.gyes rfl rfl rfl rfl (Yld.min2 rfl rfl) ?_ | refine WL.gyes rfl rfl rfl rfl (Yld.pickV rfl rfl rfl) ?_)
    cases da with
    | none =>
      have hpar := hnone hstep
      repeat (first | refine WC.seq ?_ | refine WC.block ?_ | refine WC.region ?_ | refine WL.nil ?_ | refine WX.then_normal ?_ | refine WC.skip ?_ | refine WC.exit ?_ | refine WC.ret ?_ | refine WX.then_exit ?_ | refine WX.then_ret ?_ | refine WX.block_normal ?_ | refine WX.block_ret ?_ | refine WX.block_same ?_ | refine WX.block_other rfl ?_ | refine WC.label ?_ | refine WC.scope ?_ | refine WX.scope_normal ?_ | refine WX.scope_ret ?_ | refine WX.scope_exit ?_ | refine WL.y rfl (Yld.add rfl rfl (by simp only [In]; omega)) ?_ | refine WL.y rfl (Yld.sub rfl rfl (by simp only [In]; omega)) ?_ | refine WL.y rfl (Yld.mul rfl rfl (by simp only [In]; omega)) ?_ | refine WL.y rfl (Yld.convB tab_ok rfl rfl rfl rfl) ?_ | refine WL.y rfl (Yld.conv tab_ok rfl rfl rfl (by simp only [In]; omega)) ?_ | refine WL.y rfl (Yld.quo rfl rfl (by omega) (by omega) (by simp only [In]; omega)) ?_ | refine WL.y rfl (Yld.rem rfl rfl (by omega) (by omega)) ?_ | refine WL.y rfl (Yld.shl rfl rfl (by omega)) ?_ | refine WL.y rfl (Yld.shr rfl rfl (by omega)) ?_ | refine WL.y rfl (Yld.pure tab_ok rfl) ?_ | refine WL.y rfl (Yld.fld flds_ok rfl rfl rfl) ?_ | refine WL.y rfl (Yld.max2 rfl rfl) ?_ | refine WL.y rfl (Yld.min2 rfl rfl) ?_ | refine WL.y rfl (Yld.pickV rfl rfl rfl) ?_ | refine WL.gno rfl rfl rfl rfl ?_ | refine WL.gyes rfl rfl rfl rfl (Yld.add rfl rfl (by simp only [In]; omega)) ?_ | refine WL.gyes rfl rfl rfl rfl (Yld.sub rfl rfl (by simp only [In]; omega)) ?_ | refine WL.gyes rfl rfl rfl rfl (Yld.mul rfl rfl (by simp only [In]; omega)) ?_ | refine WL.gyes rfl rfl rfl rfl (Yld.convB tab_ok rfl rfl rfl rfl) ?_ | refine WL.gyes rfl rfl rfl rfl (Yld.conv tab_ok rfl rfl rfl (by simp only [In]; omega)) ?_ | refine WL.gyes rfl rfl rfl rfl (Yld.quo rfl rfl (by omega) (by omega) (by simp only [In]; omega)) ?_ | refine WL.gyes rfl rfl rfl rfl (Yld.rem rfl rfl (by omega) (by omega)) ?_ | refine WL.gyes rfl rfl rfl rfl (Yld.shl rfl rfl (by omega)) ?_ | refine WL.gyes rfl rfl rfl rfl (Yld.shr rfl rfl (by omega)) ?_ | refine WL.gyes rfl rfl rfl rfl (Yld.pure tab_ok rfl) ?_ | refine WL.gyes rfl rfl rfl rfl (Yld.fld flds_ok rfl rfl rfl) ?_ | refine WL.gyes rfl rfl rfl rfl (Yld.max2 rfl rfl) ?_ | refine WL.gyes rfl rfl rfl rfl (Yld.min2 rfl rfl) ?_ | refine WL.gyes rfl rfl rfl rfl (Yld.pickV rfl rfl rfl) ?_)
      refine WC.cond rfl (fun _ => ?_) (fun h => by cases h)
      repeat (first | refine WC.seq ?_ | refine WC.block ?_ | refine WC.region ?_ | refine WL.nil ?_ | refine WX.then_normal ?_ | refine WC.skip ?_ | refine WC.exit ?_ | refine WC.ret ?_ | refine WX.then_exit ?_ | refine WX.then_ret ?_ | refine WX.block_normal ?_ | refine WX.block_ret ?_ | refine WX.block_same ?_ | refine WX.block_other rfl ?_ | refine WC.label ?_ | refine WC.scope ?_ | refine WX.scope_normal ?_ | refine WX.scope_ret ?_ | refine WX.scope_exit ?_ | refine WL.y rfl (Yld.add rfl rfl (by simp only [In]; omega)) ?_ | refine WL.y rfl (Yld.sub rfl rfl (by simp only [In]; omega)) ?_ | refine WL.y rfl (Yld.mul rfl rfl (by simp only [In]; omega)) ?_ | refine WL.y rfl (Yld.convB tab_ok rfl rfl rfl rfl) ?_ | refine WL.y rfl (Yld.conv tab_ok rfl rfl rfl (by simp only [In]; omega)) ?_ | refine WL.y rfl (Yld.quo rfl rfl (by omega) (by omega) (by simp only [In]; omega)) ?_ | refine WL.y rfl (Yld.rem rfl rfl (by omega) (by omega)) ?_ | refine WL.y rfl (Yld.shl rfl rfl (by omega)) ?_ | refine WL.y rfl (Yld.shr rfl rfl (by omega)) ?_ | refine WL.y rfl (Yld.pure tab_ok rfl) ?_ | refine WL.y rfl (Yld.fld flds_ok rfl rfl rfl) ?_ | refine WL.y rfl (Yld.max2 rfl rfl) ?_ | refine WL.y rfl (Yld.min2 rfl rfl) ?_ | refine WL.y rfl (Yld.pickV rfl rfl rfl) ?_ | refine WL.gno rfl rfl rfl rfl ?_ | refine WL.gyes rfl rfl rfl rfl (Yld.add rfl rfl (by simp only [In]; omega)) ?_ | refine WL.gyes rfl rfl rfl rfl (Yld.sub rfl rfl (by simp only [In]; omega)) ?_ | refine WL.gyes rfl rfl rfl rfl (Yld.mul rfl rfl (by simp only [In]; omega)) ?_ | refine WL.gyes rfl rfl rfl rfl (Yld.convB tab_ok rfl rfl rfl rfl) ?_ | refine WL.gyes rfl rfl rfl rfl (Yld.conv tab_ok rfl rfl rfl (by simp only [In]; omega)) ?_ | refine WL.gyes rfl rfl rfl rfl (Yld.quo rfl rfl (by omega) (by omega) (by simp only [In]; omega)) ?_ | refine WL.gyes rfl rfl rfl rfl (Yld.rem rfl rfl (by omega) (by omega)) ?_ | refine WL.gyes rfl rfl rfl rfl (Yld.shl rfl rfl (by omega)) ?_ | refine WL.gyes rfl rfl rfl rfl (Yld.shr rfl rfl (by omega)) ?_ | refine WL.gyes rfl rfl rfl rfl (Yld.pure tab_ok rfl) ?_ | refine WL.gyes rfl rfl rfl rfl (Yld.fld flds_ok rfl rfl rfl) ?_ | refine WL.gyes rfl rfl rfl rfl (Yld.max2 rfl rfl) ?_ | refine WL.gyes rfl rfl rfl rfl (Yld.min2 rfl rfl) ?_ | refine WL.gyes rfl rfl rfl rfl (Yld.pickV rfl rfl rfl) ?_)
      refine WC.chain (fun k => !(Nat.beq k 2)) (fun w' => w'.cell? ⟨6, 0, none⟩ = some E) mixed (by kernel_rfl) (fun w' h => (h.cell _).trans hEX) ?_
      refine WK.y rfl rfl (fun w' _ => Yld.zarr tab_ok rfl zero74) ?_
      refine WK.y rfl rfl (fun w' h => Yld.cell tab_ok h rfl rfl) ?_
      refine WK.eff rfl (Ef0.storeW tab_ok rfl rfl rfl (by intro u hu; rw [List.mem_replicate] at hu; rw [hu.2]; rfl) hB13 rfl rfl) (fun w' h => cell_grown h.2 hEX (by simp; omega)) ?_
      rintro w4 ⟨hB4, hg4⟩
      repeat (first | refine WK.y rfl rfl (fun _ _ => Yld.add rfl rfl (by simp only [In]; omega)) ?_ | refine WK.y rfl rfl (fun _ _ => Yld.sub rfl rfl (by simp only [In]; omega)) ?_ | refine WK.y rfl rfl (fun _ _ => Yld.mul rfl rfl (by simp only [In]; omega)) ?_ | refine WK.y rfl rfl (fun _ _ => Yld.convB tab_ok rfl rfl rfl rfl) ?_ | refine WK.y rfl rfl (fun _ _ => Yld.conv tab_ok rfl rfl rfl (by simp only [In]; omega)) ?_ | refine WK.y rfl rfl (fun _ _ => Yld.quo rfl rfl (by omega) (by omega) (by simp only [In]; omega)) ?_ | refine WK.y rfl rfl (fun _ _ => Yld.rem rfl rfl (by omega) (by omega)) ?_ | refine WK.y rfl rfl (fun _ _ => Yld.shl rfl rfl (by omega)) ?_ | refine WK.y rfl rfl (fun _ _ => Yld.shr rfl rfl (by omega)) ?_ | refine WK.y rfl rfl (fun _ _ => Yld.pure tab_ok rfl) ?_)
      refine WK.nil ?_
      repeat (first | refine WC.seq ?_ | refine WC.block ?_ | refine WC.region ?_ | refine WL.nil ?_ | refine WX.then_normal ?_ | refine WC.skip ?_ | refine WC.exit ?_ | refine WC.ret ?_ | refine WX.then_exit ?_ | refine WX.then_ret ?_ | refine WX.block_normal ?_ | refine WX.block_ret ?_ | refine WX.block_same ?_ | refine WX.block_other rfl ?_ | refine WC.label ?_ | refine WC.scope ?_ | refine WX.scope_normal ?_ | refine WX.scope_ret ?_ | refine WX.scope_exit ?_ | refine WL.y rfl (Yld.add rfl rfl (by simp only [In]; omega)) ?_ | refine WL.y rfl (Yld.sub rfl rfl (by simp only [In]; omega)) ?_ | refine WL.y rfl (Yld.mul rfl rfl (by simp only [In]; omega)) ?_ | refine WL.y rfl (Yld.convB tab_ok rfl rfl rfl rfl) ?_ | refine WL.y rfl (Yld.conv tab_ok rfl rfl rfl (by simp only [In]; omega)) ?_ | refine WL.y rfl (Yld.quo rfl rfl (by omega) (by omega) (by simp only [In]; omega)) ?_ | refine WL.y rfl (Yld.rem rfl rfl (by omega) (by omega)) ?_ | refine WL.y rfl (Yld.shl rfl rfl (by omega)) ?_ | refine WL.y rfl (Yld.shr rfl rfl (by omega)) ?_ | refine WL.y rfl (Yld.pure tab_ok rfl) ?_)
      exact WX.retct tab_ok rfl rfl rfl hB4 rfl rfl ⟨by rw [parR, hpar]; rfl, gr_new hgX hg4 hl1⟩
    | some a =>
      have ha := hla a rfl
      repeat (first | refine WC.seq ?_ | refine WC.block ?_ | refine WC.region ?_ | refine WL.nil ?_ | refine WX.then_normal ?_ | refine WC.skip ?_ | refine WC.exit ?_ | refine WC.ret ?_ | refine WX.then_exit ?_ | refine WX.then_ret ?_ | refine WX.block_normal ?_ | refine WX.block_ret ?_ | refine WX.block_same ?_ | refine WX.block_other rfl ?_ | refine WC.label ?_ | refine WC.scope ?_ | refine WX.scope_normal ?_ | refine WX.scope_ret ?_ | refine WX.scope_exit ?_ | refine WL.y rfl (Yld.add rfl rfl (by simp only [In]; omega)) ?_ | refine WL.y rfl (Yld.sub rfl rfl (by simp only [In]; omega)) ?_ | refine WL.y rfl (Yld.mul rfl rfl (by simp only [In]; omega)) ?_ | refine WL.y rfl (Yld.convB tab_ok rfl rfl rfl rfl) ?_ | refine WL.y rfl (Yld.conv tab_ok rfl rfl rfl (by simp only [In]; omega)) ?_ | refine WL.y rfl (Yld.quo rfl rfl (by omega) (by omega) (by simp only [In]; omega)) ?_ | refine WL.y rfl (Yld.rem rfl rfl (by omega) (by omega)) ?_ | refine WL.y rfl (Yld.shl rfl rfl (by omega)) ?_ | refine WL.y rfl (Yld.shr rfl rfl (by omega)) ?_ | refine WL.y rfl (Yld.pure tab_ok rfl) ?_ | refine WL.y rfl (Yld.fld flds_ok rfl rfl rfl) ?_ | refine WL.y rfl (Yld.max2 rfl rfl) ?_ | refine WL.y rfl (Yld.min2 rfl rfl) ?_ | refine WL.y rfl (Yld.pickV rfl rfl rfl) ?_ | refine WL.gno rfl rfl rfl rfl ?_ | refine WL.gyes rfl rfl rfl rfl (Yld.add rfl rfl (by simp only [In]; omega)) ?_ | refine WL.gyes rfl rfl rfl rfl (Yld.sub rfl rfl (by simp only [In]; omega)) ?_ | refine WL.gyes rfl rfl rfl rfl (Yld.mul rfl rfl (by simp only [In]; omega)) ?_ | refine WL.gyes rfl rfl rfl rfl (Yld.convB tab_ok rfl rfl rfl rfl) ?_ | refine WL.gyes rfl rfl rfl rfl (Yld.conv tab_ok rfl rfl rfl (by simp only [In]; omega)) ?_ | refine WL.gyes rfl rfl rfl rfl (Yld.quo rfl rfl (by omega) (by omega) (by simp only [In]; omega)) ?_ | refine WL.gyes rfl rfl rfl rfl (Yld.rem rfl rfl (by omega) (by omega)) ?_ | refine WL.gyes rfl rfl rfl rfl (Yld.shl rfl rfl (by omega)) ?_ | refine WL.gyes rfl rfl rfl rfl (Yld.shr rfl rfl (by omega)) ?_ | refine WL.gyes rfl rfl rfl rfl (Yld.pure tab_ok rfl) ?_ | refine WL.gyes rfl rfl rfl rfl (Yld.fld flds_ok rfl rfl rfl) ?_ | refine WL.gyes rfl rfl rfl rfl (Yld.max2 rfl rfl) ?_ | refine WL.gyes rfl rfl rfl rfl (Yld.min2 rfl rfl) ?_ | refine WL.gyes rfl rfl rfl rfl (Yld.pickV rfl rfl rfl) ?_)
      cases db with
      | none =>
        have hpar := hnone hstep
        repeat (first | refine WC.seq ?_ | refine WC.block ?_ | refine WC.region ?_ | refine WL.nil ?_ | refine WX.then_normal ?_ | refine WC.skip ?_ | refine WC.exit ?_ | refine WC.ret ?_ | refine WX.then_exit ?_ | refine WX.then_ret ?_ | refine WX.block_normal ?_ | refine WX.block_ret ?_ | refine WX.block_same ?_ | refine WX.block_other rfl ?_ | refine WC.label ?_ | refine WC.scope ?_ | refine WX.scope_normal ?_ | refine WX.scope_ret ?_ | refine WX.scope_exit ?_ | refine WL.y rfl (Yld.add rfl rfl (by simp only [In]; omega)) ?_ | refine WL.y rfl (Yld.sub rfl rfl (by simp only [In]; omega)) ?_ | refine WL.y rfl (Yld.mul rfl rfl (by simp only [In]; omega)) ?_ | refine WL.y rfl (Yld.convB tab_ok rfl rfl rfl rfl) ?_ | refine WL.y rfl (Yld.conv tab_ok rfl rfl rfl (by simp only [In]; omega)) ?_ | refine WL.y rfl (Yld.quo rfl rfl (by omega) (by omega) (by simp only [In]; omega)) ?_ | refine WL.y rfl (Yld.rem rfl rfl (by omega) (by omega)) ?_ | refine WL.y rfl (Yld.shl rfl rfl (by omega)) ?_ | refine WL.y rfl (Yld.shr rfl rfl (by omega)) ?_ | refine WL.y rfl (Yld.pure tab_ok rfl) ?_ | refine WL.y rfl (Yld.fld flds_ok rfl rfl rfl) ?_ | refine WL.y rfl (Yld.max2 rfl rfl) ?_ | refine WL.y rfl (Yld.min2 rfl rfl) ?_ | refine WL.y rfl (Yld.pickV rfl rfl rfl) ?_ | refine WL.gno rfl rfl rfl rfl ?_ | refine WL.gyes rfl rfl rfl rfl (Yld.add rfl rfl (by simp only [In]; omega)) ?_ | refine WL.gyes rfl rfl rfl rfl (Yld.sub rfl rfl (by simp only [In]; omega)) ?_ | refine WL.gyes rfl rfl rfl rfl (Yld.mul rfl rfl (by simp only [In]; omega)) ?_ | refine WL.gyes rfl rfl rfl rfl (Yld.convB tab_ok rfl rfl rfl rfl) ?_ | refine WL.gyes rfl rfl rfl rfl (Yld.conv tab_ok rfl rfl rfl (by simp only [In]; omega)) ?_ | refine WL.gyes rfl rfl rfl rfl (Yld.quo rfl rfl (by omega) (by omega) (by simp only [In]; omega)) ?_ | refine WL.gyes rfl rfl rfl rfl (Yld.rem rfl rfl (by omega) (by omega)) ?_ | refine WL.gyes rfl rfl rfl rfl (Yld.shl rfl rfl (by omega)) ?_ | refine WL.gyes rfl rfl rfl rfl (Yld.shr rfl rfl (by omega)) ?_ | refine WL.gyes rfl rfl rfl rfl (Yld.pure tab_ok rfl) ?_ | refine WL.gyes rfl rfl rfl rfl (Yld.fld flds_ok rfl rfl rfl) ?_ | refine WL.gyes rfl rfl rfl rfl (Yld.max2 rfl rfl) ?_ | refine WL.gyes rfl rfl rfl rfl (Yld.min2 rfl rfl) ?_ | refine WL.gyes rfl rfl rfl rfl (Yld.pickV rfl rfl rfl) ?_)
        refine WC.cond rfl (fun _ => ?_) (fun h => by cases h)
        repeat (first | refine WC.seq ?_ | refine WC.block ?_ | refine WC.region ?_ | refine WL.nil ?_ | refine WX.then_normal ?_ | refine WC.skip ?_ | refine WC.exit ?_ | refine WC.ret ?_ | refine WX.then_exit ?_ | refine WX.then_ret ?_ | refine WX.block_normal ?_ | refine WX.block_ret ?_ | refine WX.block_same ?_ | refine WX.block_other rfl ?_ | refine WC.label ?_ | refine WC.scope ?_ | refine WX.scope_normal ?_ | refine WX.scope_ret ?_ | refine WX.scope_exit ?_ | refine WL.y rfl (Yld.add rfl rfl (by simp only [In]; omega)) ?_ | refine WL.y rfl (Yld.sub rfl rfl (by simp only [In]; omega)) ?_ | refine WL.y rfl (Yld.mul rfl rfl (by simp only [In]; omega)) ?_ | refine WL.y rfl (Yld.convB tab_ok rfl rfl rfl rfl) ?_ | refine WL.y rfl (Yld.conv tab_ok rfl rfl rfl (by simp only [In]; omega)) ?_ | refine WL.y rfl (Yld.quo rfl rfl (by omega) (by omega) (by simp only [In]; omega)) ?_ | refine WL.y rfl (Yld.rem rfl rfl (by omega) (by omega)) ?_ | refine WL.y rfl (Yld.shl rfl rfl (by omega)) ?_ | refine WL.y rfl (Yld.shr rfl rfl (by omega)) ?_ | refine WL.y rfl (Yld.pure tab_ok rfl) ?_ | refine WL.y rfl (Yld.fld flds_ok rfl rfl rfl) ?_ | refine WL.y rfl (Yld.max2 rfl rfl) ?_ | refine WL.y rfl (Yld.min2 rfl rfl) ?_ | refine WL.y rfl (Yld.pickV rfl rfl rfl) ?_ | refine WL.gno rfl rfl rfl rfl ?_ | refine WL.gyes rfl rfl rfl rfl (Yld.add rfl rfl (by simp only [In]; omega)) ?_ | refine WL.gyes rfl rfl rfl rfl (Yld.sub rfl rfl (by simp only [In]; omega)) ?_ | refine WL.gyes rfl rfl rfl rfl (Yld.mul rfl rfl (by simp only [In]; omega)) ?_ | refine WL.gyes rfl rfl rfl rfl (Yld.convB tab_ok rfl rfl rfl rfl) ?_ | refine WL.gyes rfl rfl rfl rfl (Yld.conv tab_ok rfl rfl rfl (by simp only [In]; omega)) ?_ | refine WL.gyes rfl rfl rfl rfl (Yld.quo rfl rfl (by omega) (by omega) (by simp only [In]; omega)) ?_ | refine WL.gyes rfl rfl rfl rfl (Yld.rem rfl rfl (by omega) (by omega)) ?_ | refine WL.gyes rfl rfl rfl rfl (Yld.shl rfl rfl (by omega)) ?_ | refine WL.gyes rfl rfl rfl rfl (Yld.shr rfl rfl (by omega)) ?_ | refine WL.gyes rfl rfl rfl rfl (Yld.pure tab_ok rfl) ?_ | refine WL.gyes rfl rfl rfl rfl (Yld.fld flds_ok rfl rfl rfl) ?_ | refine WL.gyes rfl rfl rfl rfl (Yld.max2 rfl rfl) ?_ | refine WL.gyes rfl rfl rfl rfl (Yld.min2 rfl rfl) ?_ | refine WL.gyes rfl rfl rfl rfl (Yld.pickV rfl rfl rfl) ?_)
        refine WC.chain (fun k => !(Nat.beq k 2)) (fun w' => w'.cell? ⟨6, 0, none⟩ = some E) mixed (by kernel_rfl) (fun w' h => (h.cell _).trans hEX) ?_
        refine WK.y rfl rfl (fun w' _ => Yld.zarr tab_ok rfl zero74) ?_
        refine WK.y rfl rfl (fun w' h => Yld.cell tab_ok h rfl rfl) ?_
        refine WK.eff rfl (Ef0.storeW tab_ok rfl rfl rfl (by intro u hu; rw [List.mem_replicate] at hu; rw [hu.2]; rfl) hB13 rfl rfl) (fun w' h => cell_grown h.2 hEX (by simp; omega)) ?_
        rintro w4 ⟨hB4, hg4⟩
        repeat (first | refine WK.y rfl rfl (fun _ _ => Yld.add rfl rfl (by simp only [In]; omega)) ?_ | refine WK.y rfl rfl (fun _ _ => Yld.sub rfl rfl (by simp only [In]; omega)) ?_ | refine WK.y rfl rfl (fun _ _ => Yld.mul rfl rfl (by simp only [In]; omega)) ?_ | refine WK.y rfl rfl (fun _ _ => Yld.convB tab_ok rfl rfl rfl rfl) ?_ | refine WK.y rfl rfl (fun _ _ => Yld.conv tab_ok rfl rfl rfl (by simp only [In]; omega)) ?_ | refine WK.y rfl rfl (fun _ _ => Yld.quo rfl rfl (by omega) (by omega) (by simp only [In]; omega)) ?_ | refine WK.y rfl rfl (fun _ _ => Yld.rem rfl rfl (by omega) (by omega)) ?_ | refine WK.y rfl rfl (fun _ _ => Yld.shl rfl rfl (by omega)) ?_ | refine WK.y rfl rfl (fun _ _ => Yld.shr rfl rfl (by omega)) ?_ | refine WK.y rfl rfl (fun _ _ => Yld.pure tab_ok rfl) ?_)
        refine WK.nil ?_
        repeat (first | refine WC.seq ?_ | refine WC.block ?_ | refine WC.region ?_ | refine WL.nil ?_ | refine WX.then_normal ?_ | refine WC.skip ?_ | refine WC.exit ?_ | refine WC.ret ?_ | refine WX.then_exit ?_ | refine WX.then_ret ?_ | refine WX.block_normal ?_ | refine WX.block_ret ?_ | refine WX.block_same ?_ | refine WX.block_other rfl ?_ | refine WC.label ?_ | refine WC.scope ?_ | refine WX.scope_normal ?_ | refine WX.scope_ret ?_ | refine WX.scope_exit ?_ | refine WL.y rfl (Yld.add rfl rfl (by simp only [In]; omega)) ?_ | refine WL.y rfl (Yld.sub rfl rfl (by simp only [In]; omega)) ?_ | refine WL.y rfl (Yld.mul rfl rfl (by simp only [In]; omega)) ?_ | refine WL.y rfl (Yld.convB tab_ok rfl rfl rfl rfl) ?_ | refine WL.y rfl (Yld.conv tab_ok rfl rfl rfl (by simp only [In]; omega)) ?_ | refine WL.y rfl (Yld.quo rfl rfl (by omega) (by omega) (by simp only [In]; omega)) ?_ | refine WL.y rfl (Yld.rem rfl rfl (by omega) (by omega)) ?_ | refine WL.y rfl (Yld.shl rfl rfl (by omega)) ?_ | refine WL.y rfl (Yld.shr rfl rfl (by omega)) ?_ | refine WL.y rfl (Yld.pure tab_ok rfl) ?_)
        exact WX.retct tab_ok rfl rfl rfl hB4 rfl rfl ⟨by rw [parR, hpar]; rfl, gr_new hgX hg4 hl1⟩
      | some b =>
        have hb := hlb b rfl
        have hor := or_in ha hb
        repeat (first | refine WC.seq ?_ | refine WC.block ?_ | refine WC.region ?_ | refine WL.nil ?_ | refine WX.then_normal ?_ | refine WC.skip ?_ | refine WC.exit ?_ | refine WC.ret ?_ | refine WX.then_exit ?_ | refine WX.then_ret ?_ | refine WX.block_normal ?_ | refine WX.block_ret ?_ | refine WX.block_same ?_ | refine WX.block_other rfl ?_ | refine WC.label ?_ | refine WC.scope ?_ | refine WX.scope_normal ?_ | refine WX.scope_ret ?_ | refine WX.scope_exit ?_ | refine WL.y rfl (Yld.add rfl rfl (by simp only [In]; omega)) ?_ | refine WL.y rfl (Yld.sub rfl rfl (by simp only [In]; omega)) ?_ | refine WL.y rfl (Yld.mul rfl rfl (by simp only [In]; omega)) ?_ | refine WL.y rfl (Yld.convB tab_ok rfl rfl rfl rfl) ?_ | refine WL.y rfl (Yld.conv tab_ok rfl rfl rfl (by simp only [In]; omega)) ?_ | refine WL.y rfl (Yld.quo rfl rfl (by omega) (by omega) (by simp only [In]; omega)) ?_ | refine WL.y rfl (Yld.rem rfl rfl (by omega) (by omega)) ?_ | refine WL.y rfl (Yld.shl rfl rfl (by omega)) ?_ | refine WL.y rfl (Yld.shr rfl rfl (by omega)) ?_ | refine WL.y rfl (Yld.pure tab_ok rfl) ?_ | refine WL.y rfl (Yld.fld flds_ok rfl rfl rfl) ?_ | refine WL.y rfl (Yld.max2 rfl rfl) ?_ | refine WL.y rfl (Yld.min2 rfl rfl) ?_ | refine WL.y rfl (Yld.pickV rfl rfl rfl) ?_ | refine WL.gno rfl rfl rfl rfl ?_ | refine WL.gyes rfl rfl rfl rfl (Yld.add rfl rfl (by simp only [In]; omega)) ?_ | refine WL.gyes rfl rfl rfl rfl (Yld.sub rfl rfl (by simp only [In]; omega)) ?_ | refine WL.gyes rfl rfl rfl rfl (Yld.mul rfl rfl (by simp only [In]; omega)) ?_ | refine WL.gyes rfl rfl rfl rfl (Yld.convB tab_ok rfl rfl rfl rfl) ?_ | refine WL.gyes rfl rfl rfl rfl (Yld.conv tab_ok rfl rfl rfl (by simp only [In]; omega)) ?_ | refine WL.gyes rfl rfl rfl rfl (Yld.quo rfl rfl (by omega) (by omega) (by simp only [In]; omega)) ?_ | refine WL.gyes rfl rfl rfl rfl (Yld.rem rfl rfl (by omega) (by omega)) ?_ | refine WL.gyes rfl rfl rfl rfl (Yld.shl rfl rfl (by omega)) ?_ | refine WL.gyes rfl rfl rfl rfl (Yld.shr rfl rfl (by omega)) ?_ | refine WL.gyes rfl rfl rfl rfl (Yld.pure tab_ok rfl) ?_ | refine WL.gyes rfl rfl rfl rfl (Yld.fld flds_ok rfl rfl rfl) ?_ | refine WL.gyes rfl rfl rfl rfl (Yld.max2 rfl rfl) ?_ | refine WL.gyes rfl rfl rfl rfl (Yld.min2 rfl rfl) ?_ | refine WL.gyes rfl rfl rfl rfl (Yld.pickV rfl rfl rfl) ?_)
        refine WC.cond rfl (fun h => by cases h) (fun _ => ?_)
        repeat (first | refine WL.y rfl (Yld.aaddrN tab_ok rfl rfl rfl (by omega)) ?_ | refine WC.seq ?_ | refine WC.block ?_ | refine WC.region ?_ | refine WL.nil ?_ | refine WX.then_normal ?_ | refine WC.skip ?_ | refine WC.exit ?_ | refine WC.ret ?_ | refine WX.then_exit ?_ | refine WX.then_ret ?_ | refine WX.block_normal ?_ | refine WX.block_ret ?_ | refine WX.block_same ?_ | refine WX.block_other rfl ?_ | refine WC.label ?_ | refine WC.scope ?_ | refine WX.scope_normal ?_ | refine WX.scope_ret ?_ | refine WX.scope_exit ?_ | refine WL.y rfl (Yld.add rfl rfl (by simp only [In]; omega)) ?_ | refine WL.y rfl (Yld.sub rfl rfl (by simp only [In]; omega)) ?_ | refine WL.y rfl (Yld.mul rfl rfl (by simp only [In]; omega)) ?_ | refine WL.y rfl (Yld.convB tab_ok rfl rfl rfl rfl) ?_ | refine WL.y rfl (Yld.conv tab_ok rfl rfl rfl (by simp only [In]; omega)) ?_ | refine WL.y rfl (Yld.quo rfl rfl (by omega) (by omega) (by simp only [In]; omega)) ?_ | refine WL.y rfl (Yld.rem rfl rfl (by omega) (by omega)) ?_ | refine WL.y rfl (Yld.shl rfl rfl (by omega)) ?_ | refine WL.y rfl (Yld.shr rfl rfl (by omega)) ?_ | refine WL.y rfl (Yld.pure tab_ok rfl) ?_ | refine WL.y rfl (Yld.fld flds_ok rfl rfl rfl) ?_ | refine WL.y rfl (Yld.max2 rfl rfl) ?_ | refine WL.y rfl (Yld.min2 rfl rfl) ?_ | refine WL.y rfl (Yld.pickV rfl rfl rfl) ?_ | refine WL.gno rfl rfl rfl rfl ?_ | refine WL.gyes rfl rfl rfl rfl (Yld.add rfl rfl (by simp only [In]; omega)) ?_ | refine WL.gyes rfl rfl rfl rfl (Yld.sub rfl rfl (by simp only [In]; omega)) ?_ | refine WL.gyes rfl rfl rfl rfl (Yld.mul rfl rfl (by simp only [In]; omega)) ?_ | refine WL.gyes rfl rfl rfl rfl (Yld.convB tab_ok rfl rfl rfl rfl) ?_ | refine WL.gyes rfl rfl rfl rfl (Yld.conv tab_ok rfl rfl rfl (by simp only [In]; omega)) ?_ | refine WL.gyes rfl rfl rfl rfl (Yld.quo rfl rfl (by omega) (by omega) (by simp only [In]; omega)) ?_ | refine WL.gyes rfl rfl rfl rfl (Yld.rem rfl rfl (by omega) (by omega)) ?_ | refine WL.gyes rfl rfl rfl rfl (Yld.shl rfl rfl (by omega)) ?_ | refine WL.gyes rfl rfl rfl rfl (Yld.shr rfl rfl (by omega)) ?_ | refine WL.gyes rfl rfl rfl rfl (Yld.pure tab_ok rfl) ?_ | refine WL.gyes rfl rfl rfl rfl (Yld.fld flds_ok rfl rfl rfl) ?_ | refine WL.gyes rfl rfl rfl rfl (Yld.max2 rfl rfl) ?_ | refine WL.gyes rfl rfl rfl rfl (Yld.min2 rfl rfl) ?_ | refine WL.gyes rfl rfl rfl rfl (Yld.pickV rfl rfl rfl) ?_)
        refine WL.store1 (u := vb (u8v (bits .or .u8 (shlV .u8 (a : Int) 4) (b : Int)))) one5 rfl (by rw [vb, hor]; rfl) rfl hB23 (by simp; omega) (fun w4 hB4 hg4 => ?_)
        rw [show 0 + i * 1 = i by omega, fill_set l i 32 _ hll (by omega)] at hB4
        repeat (first | refine WC.seq ?_ | refine WC.block ?_ | refine WC.region ?_ | refine WL.nil ?_ | refine WX.then_normal ?_ | refine WC.skip ?_ | refine WC.exit ?_ | refine WC.ret ?_ | refine WX.then_exit ?_ | refine WX.then_ret ?_ | refine WX.block_normal ?_ | refine WX.block_ret ?_ | refine WX.block_same ?_ | refine WX.block_other rfl ?_ | refine WC.label ?_ | refine WC.scope ?_ | refine WX.scope_normal ?_ | refine WX.scope_ret ?_ | refine WX.scope_exit ?_ | refine WL.y rfl (Yld.add rfl rfl (by simp only [In]; omega)) ?_ | refine WL.y rfl (Yld.sub rfl rfl (by simp only [In]; omega)) ?_ | refine WL.y rfl (Yld.mul rfl rfl (by simp only [In]; omega)) ?_ | refine WL.y rfl (Yld.convB tab_ok rfl rfl rfl rfl) ?_ | refine WL.y rfl (Yld.conv tab_ok rfl rfl rfl (by simp only [In]; omega)) ?_ | refine WL.y rfl (Yld.quo rfl rfl (by omega) (by omega) (by simp only [In]; omega)) ?_ | refine WL.y rfl (Yld.rem rfl rfl (by omega) (by omega)) ?_ | refine WL.y rfl (Yld.shl rfl rfl (by omega)) ?_ | refine WL.y rfl (Yld.shr rfl rfl (by omega)) ?_ | refine WL.y rfl (Yld.pure tab_ok rfl) ?_ | refine WL.y rfl (Yld.fld flds_ok rfl rfl rfl) ?_ | refine WL.y rfl (Yld.max2 rfl rfl) ?_ | refine WL.y rfl (Yld.min2 rfl rfl) ?_ | refine WL.y rfl (Yld.pickV rfl rfl rfl) ?_ | refine WL.gno rfl rfl rfl rfl ?_ | refine WL.gyes rfl rfl rfl rfl (Yld.add rfl rfl (by simp only [In]; omega)) ?_ | refine WL.gyes rfl rfl rfl rfl (Yld.sub rfl rfl (by simp only [In]; omega)) ?_ | refine WL.gyes rfl rfl rfl rfl (Yld.mul rfl rfl (by simp only [In]; omega)) ?_ | refine WL.gyes rfl rfl rfl rfl (Yld.convB tab_ok rfl rfl rfl rfl) ?_ | refine WL.gyes rfl rfl rfl rfl (Yld.conv tab_ok rfl rfl rfl (by simp only [In]; omega)) ?_ | refine WL.gyes rfl rfl rfl rfl (Yld.quo rfl rfl (by omega) (by omega) (by simp only [In]; omega)) ?_ | refine WL.gyes rfl rfl rfl rfl (Yld.rem rfl rfl (by omega) (by omega)) ?_ | refine WL.gyes rfl rfl rfl rfl (Yld.shl rfl rfl (by omega)) ?_ | refine WL.gyes rfl rfl rfl rfl (Yld.shr rfl rfl (by omega)) ?_ | refine WL.gyes rfl rfl rfl rfl (Yld.pure tab_ok rfl) ?_ | refine WL.gyes rfl rfl rfl rfl (Yld.fld flds_ok rfl rfl rfl) ?_ | refine WL.gyes rfl rfl rfl rfl (Yld.max2 rfl rfl) ?_ | refine WL.gyes rfl rfl rfl rfl (Yld.min2 rfl rfl) ?_ | refine WL.gyes rfl rfl rfl rfl (Yld.pickV rfl rfl rfl) ?_)
        exact WX.round2 (i + 1) _ ⟨by omega, hstep, hB4, hB13.keep hg4 (by simp; omega), gr_trans hg23 hg4⟩ (by omega) (by repeat (first | exact Sub.nil | refine Sub.cons rfl ?_))
  · simp only [decide_eq_false_iff_not] at h
    obtain rfl : i = 32 := by omega
    have hpar : parS s = some l := by unfold parS; rw [if_pos hs64, hp]
    simp only [Nat.sub_self, List.replicate_zero, List.append_nil] at hB23
    repeat (first | refine WC.seq ?_ | refine WC.block ?_ | refine WC.region ?_ | refine WL.nil ?_ | refine WX.then_normal ?_ | refine WC.skip ?_ | refine WC.exit ?_ | refine WC.ret ?_ | refine WX.then_exit ?_ | refine WX.then_ret ?_ | refine WX.block_normal ?_ | refine WX.block_ret ?_ | refine WX.block_same ?_ | refine WX.block_other rfl ?_ | refine WC.label ?_ | refine WC.scope ?_ | refine WX.scope_normal ?_ | refine WX.scope_ret ?_ | refine WX.scope_exit ?_ | refine WL.y rfl (Yld.add rfl rfl (by simp only [In]; omega)) ?_ | refine WL.y rfl (Yld.sub rfl rfl (by simp only [In]; omega)) ?_ | refine WL.y rfl (Yld.mul rfl rfl (by simp only [In]; omega)) ?_ | refine WL.y rfl (Yld.convB tab_ok rfl rfl rfl rfl) ?_ | refine WL.y rfl (Yld.conv tab_ok rfl rfl rfl (by simp only [In]; omega)) ?_ | refine WL.y rfl (Yld.quo rfl rfl (by omega) (by omega) (by simp only [In]; omega)) ?_ | refine WL.y rfl (Yld.rem rfl rfl (by omega) (by omega)) ?_ | refine WL.y rfl (Yld.shl rfl rfl (by omega)) ?_ | refine WL.y rfl (Yld.shr rfl rfl (by omega)) ?_ | refine WL.y rfl (Yld.pure tab_ok rfl) ?_ | refine WL.y rfl (Yld.fld flds_ok rfl rfl rfl) ?_ | refine WL.y rfl (Yld.max2 rfl rfl) ?_ | refine WL.y rfl (Yld.min2 rfl rfl) ?_ | refine WL.y rfl (Yld.pickV rfl rfl rfl) ?_ | refine WL.gno rfl rfl rfl rfl ?_ | refine WL.gyes rfl rfl rfl rfl (Yld.add rfl rfl (by simp only [In]; omega)) ?_ | refine WL.gyes rfl rfl rfl rfl (Yld.sub rfl rfl (by simp only [In]; omega)) ?_ | refine WL.gyes rfl rfl rfl rfl (Yld.mul rfl rfl (by simp only [In]; omega)) ?_ | refine WL.gyes rfl rfl rfl rfl (Yld.convB tab_ok rfl rfl rfl rfl) ?_ | refine WL.gyes rfl rfl rfl rfl (Yld.conv tab_ok rfl rfl rfl (by simp only [In]; omega)) ?_ | refine WL.gyes rfl rfl rfl rfl (Yld.quo rfl rfl (by omega) (by omega) (by simp only [In]; omega)) ?_ | refine WL.gyes rfl rfl rfl rfl (Yld.rem rfl rfl (by omega) (by omega)) ?_ | refine WL.gyes rfl rfl rfl rfl (Yld.shl rfl rfl (by omega)) ?_ | refine WL.gyes rfl rfl rfl rfl (Yld.shr rfl rfl (by omega)) ?_ | refine WL.gyes rfl rfl rfl rfl (Yld.pure tab_ok rfl) ?_ | refine WL.gyes rfl rfl rfl rfl (Yld.fld flds_ok rfl rfl rfl) ?_ | refine WL.gyes rfl rfl rfl rfl (Yld.max2 rfl rfl) ?_ | refine WL.gyes rfl rfl rfl rfl (Yld.min2 rfl rfl) ?_ | refine WL.gyes rfl rfl rfl rfl (Yld.pickV rfl rfl rfl) ?_)
    refine WL.y rfl (Yld.bagg (vs := l.map vb) tab_ok hB23 rfl rfl (by rw [List.drop_zero]; exact List.take_of_length_le (by simp [hll])) (by simp [hll])) ?_
    refine WL.storeW tab_ok rfl rfl rfl (oneM One.b _) hB13 rfl (by rw [List.length_map]; exact hll) (fun w4 hB4 hg4 => ?_)
    repeat (first | refine WC.seq ?_ | refine WC.block ?_ | refine WC.region ?_ | refine WL.nil ?_ | refine WX.then_normal ?_ | refine WC.skip ?_ | refine WC.exit ?_ | refine WC.ret ?_ | refine WX.then_exit ?_ | refine WX.then_ret ?_ | refine WX.block_normal ?_ | refine WX.block_ret ?_ | refine WX.block_same ?_ | refine WX.block_other rfl ?_ | refine WC.label ?_ | refine WC.scope ?_ | refine WX.scope_normal ?_ | refine WX.scope_ret ?_ | refine WX.scope_exit ?_ | refine WL.y rfl (Yld.add rfl rfl (by simp only [In]; omega)) ?_ | refine WL.y rfl (Yld.sub rfl rfl (by simp only [In]; omega)) ?_ | refine WL.y rfl (Yld.mul rfl rfl (by simp only [In]; omega)) ?_ | refine WL.y rfl (Yld.convB tab_ok rfl rfl rfl rfl) ?_ | refine WL.y rfl (Yld.conv tab_ok rfl rfl rfl (by simp only [In]; omega)) ?_ | refine WL.y rfl (Yld.quo rfl rfl (by omega) (by omega) (by simp only [In]; omega)) ?_ | refine WL.y rfl (Yld.rem rfl rfl (by omega) (by omega)) ?_ | refine WL.y rfl (Yld.shl rfl rfl (by omega)) ?_ | refine WL.y rfl (Yld.shr rfl rfl (by omega)) ?_ | refine WL.y rfl (Yld.pure tab_ok rfl) ?_ | refine WL.y rfl (Yld.fld flds_ok rfl rfl rfl) ?_ | refine WL.y rfl (Yld.max2 rfl rfl) ?_ | refine WL.y rfl (Yld.min2 rfl rfl) ?_ | refine WL.y rfl (Yld.pickV rfl rfl rfl) ?_ | refine WL.gno rfl rfl rfl rfl ?_ | refine WL.gyes rfl rfl rfl rfl (Yld.add rfl rfl (by simp only [In]; omega)) ?_ | refine WL.gyes rfl rfl rfl rfl (Yld.sub rfl rfl (by simp only [In]; omega)) ?_ | refine WL.gyes rfl rfl rfl rfl (Yld.mul rfl rfl (by simp only [In]; omega)) ?_ | refine WL.gyes rfl rfl rfl rfl (Yld.convB tab_ok rfl rfl rfl rfl) ?_ | refine WL.gyes rfl rfl rfl rfl (Yld.conv tab_ok rfl rfl rfl (by simp only [In]; omega)) ?_ | refine WL.gyes rfl rfl rfl rfl (Yld.quo rfl rfl (by omega) (by omega) (by simp only [In]; omega)) ?_ | refine WL.gyes rfl rfl rfl rfl (Yld.rem rfl rfl (by omega) (by omega)) ?_ | refine WL.gyes rfl rfl rfl rfl (Yld.shl rfl rfl (by omega)) ?_ | refine WL.gyes rfl rfl rfl rfl (Yld.shr rfl rfl (by omega)) ?_ | refine WL.gyes rfl rfl rfl rfl (Yld.pure tab_ok rfl) ?_ | refine WL.gyes rfl rfl rfl rfl (Yld.fld flds_ok rfl rfl rfl) ?_ | refine WL.gyes rfl rfl rfl rfl (Yld.max2 rfl rfl) ?_ | refine WL.gyes rfl rfl rfl rfl (Yld.min2 rfl rfl) ?_ | refine WL.gyes rfl rfl rfl rfl (Yld.pickV rfl rfl rfl) ?_)
    exact WX.retct tab_ok rfl rfl rfl hB4 (by rw [List.length_map]; exact hll) rfl ⟨by rw [parR, hpar], gr_new hgX hg4 hl1⟩
end Go.Proofs.YtlonpmajnglmoaaDoor

 /- The program's digests and the library's Itoa in the generator's form. -/
namespace Go.Proofs.YtlonpmajnglmoaaDoor
open Go Go.RowKit
def M_sha_Of (b : List UInt8) (K : List UInt8 → Prop) : Prop := b.length ≤ 1000000 ∧ K (shaS b)
theorem W_sha_Of {w : World} {b : List UInt8} {A : Option Addr} {c n : Nat} {K : List UInt8 → Prop} (hR : Rd vb w A c b) (hn : n = b.length) (H : M_sha_Of b K) : Fn Tryd.prog 80 ⟨[.slice A n c]⟩ w (fun v w' => w.grownBy w' none ∧ ∃ r : List UInt8, v = .agg ⟨a32 r⟩ ∧ K r) := by
  subst hn
  exact (of_fn A c b w hR H.1).mono fun v w' ⟨hv, hg⟩ => ⟨hg, shaS b, by rw [hv, a32_map _ (shaS_len b)], H.2⟩
def M_sha_Many (l : List (List UInt8)) (K : List UInt8 → Prop) : Prop := l.length ≤ 100 ∧ (∀ x ∈ l, x.length ≤ 10000) ∧ K (manyS l)
theorem W_sha_Many {w : World} {l : List (List UInt8)} {A : Option Addr} {c n : Nat} {K : List UInt8 → Prop} (hR : Rd vs w A c l) (hn : n = l.length) (H : M_sha_Many l K) : Fn Tryd.prog 84 ⟨[.slice A n c]⟩ w (fun v w' => w.grownBy w' none ∧ ∃ r : List UInt8, v = .agg ⟨a32 r⟩ ∧ K r) := by
  subst hn
  exact (many_fn A c l w hR H.1 H.2.1).mono fun v w' ⟨hv, hg⟩ => ⟨hg, manyS l, by rw [hv, a32_map _ (manyS_len l)], H.2.2⟩
def M_sha_Text (s : List UInt8) (K : List UInt8 → Prop) : Prop := ∀ t : List UInt8, t.length = 32 → (∀ i, i < 32 → t.getD i 0 = s.getD i 0) → K (hexS t)
theorem W_sha_Text {w : World} {s : List UInt8} {K : List UInt8 → Prop} (H : M_sha_Text s K) : Fn Tryd.prog 83 ⟨[.agg ⟨a32 s⟩]⟩ w (fun v w' => w.grownBy w' none ∧ ∃ r : List UInt8, v = vs r ∧ K r) := by
  have hl : ((List.range 32).map fun i => s.getD i 0).length = 32 := by simp
  have e : a32 s = ((List.range 32).map fun i => s.getD i 0).map vb := by rw [a32_range, List.map_map]; rfl
  rw [e]
  exact (text_fn _ w hl).mono fun v w' ⟨hv, hg⟩ => ⟨hg, _, hv, H _ hl fun i hi => by simp [List.getD, hi]⟩
def M_sha_Parse (s : List UInt8) (K : List UInt8 → Er → Prop) : Prop := (∀ l, parS s = some l → K l .ok) ∧ (parS s = none → K (List.replicate 32 0) (.e 12))
theorem parS_len {s l : List UInt8} (h : parS s = some l) : l.length = 32 := by
  unfold parS at h
  split at h
  · exact parN_len s 32 l h
  · cases h
theorem W_sha_Parse {S : List Nat} {w : World} {s : List UInt8} {K : List UInt8 → Er → Prop} (hG : GOK S w) (h12 : 12 ∈ S) (H : M_sha_Parse s K) : Fn Tryd.prog 114 ⟨[vs s]⟩ w (fun v w' => w.grownBy w' none ∧ ∃ (r0 : List UInt8), ∃ (v_r1 : Value), ∃ (r1 : Er), v = .tuple #[.agg ⟨a32 r0⟩, v_r1] ∧ ErrR S w' v_r1 r1 ∧ K r0 r1) := by
  obtain ⟨E, hE, hE'⟩ := hG.get 12 6 h12 rfl rfl
  refine (parse_fn s E w hE).mono fun v w' ⟨hv, hg⟩ => ?_
  unfold parR at hv
  cases h : parS s with
  | some l =>
    rw [h] at hv
    exact ⟨hg, l, .nilIface, .ok, by rw [hv, a32_map _ (parS_len h)], rfl, H.1 l h⟩
  | none =>
    rw [h] at hv
    exact ⟨hg, _, E, .e 12, by rw [hv, a32_map _ (by simp)], hE'.grown hg, H.2 h⟩
end Go.Proofs.YtlonpmajnglmoaaDoor


 /- Regions some of whose operations may come in several orders: the floats once, the others order by order, what stands behind once. -/
namespace Go.Proofs.YtlonpmajnglmoaaDoor
open Go Go.RowKit
section
variable {P : Program} {N : Nat} {ops : Array Oper} {fl : Nat → Bool} {D : World → Prop} {n g : Nat} {K : Act → World → Prop} {Q : Post} {L : Slots} {w : World} {f : Nat} {listed : Array Bool} {d : Nat} {op : Op} {ty : TypeId} {pos : String} {af : Array Edge} {gd : Option (Nat × Bool)}
structure HeadOk (ops : Array Oper) (n : Nat) : Prop where
  sel : Region.noSelect ops = true
  sink : Region.sinkB .any ops n = true
  chain : Region.chainB .any ops n = true
  lt : n < ops.size
def WA (P : Program) (N : Nat) (ops : Array Oper) (fl : Nat → Bool) (D : World → Prop) (n g : Nat) (K : Act → World → Prop) (f : Nat) (listed : Array Bool) (L : Slots) (w : World) : Prop :=
  HeadOk ops n → HeadInv .any ops n listed → ∀ a w1, Eqv w w1 → D w1 → Has N L a → anyT P .any ops fl D n (fun l' a' w' => Region.seqB .any ops g n l' = true ∧ K a' w') f listed a w1
def WI (P : Program) (N : Nat) (ops : Array Oper) (fl : Nat → Bool) (D : World → Prop) (n g : Nat) (K : Act → World → Prop) (f : Nat) (listed : Array Bool) (L : Slots) (w : World) (i : Nat) : Prop :=
  HeadOk ops n → HeadInv .any ops n (listed.setIfInBounds i true) → ∀ a w1, Eqv w w1 → D w1 → Has N L a → ∃ o, ops[i]? = some o ∧ fl i = false ∧ sRun P ops D o a w1 fun a' w' => anyT P .any ops fl D n (fun l' a' w' => Region.seqB .any ops g n l' = true ∧ K a' w') f (listed.setIfInBounds i true) a' w'
theorem WA.y {v : Value} (k : Nat) (ho : ops[k]? = some ⟨some d, op, ty, pos, af, none⟩) (hf : (fl k && ((Region.ready .any ops listed).contains k && (Region.free .any ops listed k && Nat.blt k n))) = true) (hd : Nat.blt d N = true) (hy : ∀ w', D w' → Yld P N w' ⟨some d, op, ty, pos, af, none⟩ L v)
    (h : WA P N ops fl D n g K f (listed.setIfInBounds k true) ((d, v) :: L) w) : WA P N ops fl D n g K (f + 1) listed L w := fun ok inv a w1 e hw ha => by
  simp only [Bool.and_eq_true] at hf
  obtain ⟨hfl, hr, hfr, hkn⟩ := hf
  have hr' : k ∈ Region.ready .any ops listed := by simpa using hr
  have hkn' : k < n := by simpa [Nat.blt_eq] using hkn
  exact float_firstT ho hfl (Region.noSelect_spec ok.sel) ok.sink ok.chain ok.lt hkn' (fun _ _ _ hL => seqB_ready hL.1) f listed a w1 hw inv (Region.free_spec ho hfr) hr'
    (.inl ⟨by simp [Region.wanted], fun w' hw' => hy w' hw' a w' (Eqv.refl _) ha⟩) (h ok (inv.set hr' hkn') _ _ e hw (ha.put hd v))
def AllL {α : Type} (p : α → Prop) : List α → Prop
  | [] => True
  | [x] => p x
  | x :: y :: l => p x ∧ AllL p (y :: l)
theorem AllL.mem {α : Type} {p : α → Prop} : ∀ {l : List α}, AllL p l → ∀ x ∈ l, p x
  | [], _, x, h => by simp at h
  | [y], h, x, hx => by simp at hx; subst hx; exact h
  | y :: z :: l, h, x, hx => by
    rcases List.mem_cons.1 hx with rfl | hx
    · exact h.1
    · exact AllL.mem h.2 x hx
theorem WA.split (is : List Nat) (hr : Region.ready .any ops listed = is) (hc : (!is.isEmpty && is.all fun i => Nat.blt i n) = true) (h : AllL (WI P N ops fl D n g K f listed L w) is) : WA P N ops fl D n g K (f + 1) listed L w := fun ok inv a w1 e hw ha => by
  simp only [Bool.and_eq_true] at hc
  refine ⟨fun h0 => ?_, fun i hi => ?_⟩
  · rw [hr] at h0; subst h0; simp at hc
  · have hi' := hi
    rw [hr] at hi'
    have hin : i < n := by have := List.all_eq_true.1 hc.2 i hi'; simpa [Nat.blt_eq] using this
    obtain ⟨o, ho, hfl, hs⟩ := h.mem i hi' ok (inv.set hi hin) a w1 e hw ha
    exact ⟨hin, o, ho, .inr ⟨hfl, hs⟩⟩
theorem WI.put {i : Nat} {R : Value → World → Prop} (ho : ops[i]? = some ⟨some d, op, ty, pos, af, none⟩) (hf : fl i = false) (hd : Nat.blt d N = true) (hr : Eff P N w ⟨some d, op, ty, pos, af, none⟩ L R) (hD : ∀ v w', R v w' → D w')
    (hk : ∀ v w', R v w' → WA P N ops fl D n g K f (listed.setIfInBounds i true) ((d, v) :: L) w') : WI P N ops fl D n g K f listed L w i := fun ok inv a w1 e hw ha => by
  refine ⟨_, ho, hf, ?_⟩
  unfold sRun
  rw [if_pos (by simp [Region.wanted])]
  obtain ⟨v, w', h, hR⟩ := hr a w1 e ha
  rw [h]
  exact ⟨hD v w' hR, hk v w' hR ok inv _ w' (Eqv.refl _) (hD v w' hR) (ha.put hd v)⟩
theorem WI.eff {i : Nat} {R : World → Prop} (ho : ops[i]? = some ⟨none, op, ty, pos, af, none⟩) (hf : fl i = false) (hr : Ef0 P N w ⟨none, op, ty, pos, af, none⟩ L R) (hD : ∀ w', R w' → D w')
    (hk : ∀ w', R w' → WA P N ops fl D n g K f (listed.setIfInBounds i true) L w') : WI P N ops fl D n g K f listed L w i := fun ok inv a w1 e hw ha => by
  refine ⟨_, ho, hf, ?_⟩
  unfold sRun
  rw [if_pos (by simp [Region.wanted])]
  obtain ⟨w', h, hR⟩ := hr a w1 e ha
  rw [h]
  exact ⟨hD w' hR, hk w' hR ok inv _ w' (Eqv.refl _) (hD w' hR) ha⟩
theorem WI.call {i : Nat} {R : Value → World → Prop} {fn : FuncId} {as_ : List Operand} {ts : Array TypeId} {vs : List Value} (ho : ops[i]? = some ⟨some d, .call ⟨.value (.func fn), ⟨as_⟩, ts⟩, ty, pos, af, gd⟩) (hf : fl i = false) (hg : Wants N ops L gd) (hd : Nat.blt d N = true) (hv : opvs L as_ = some vs) (hc : Fn P fn ⟨vs⟩ w R) (hD : ∀ v w', R v w' → ∀ w2, Eqv w' w2 → D w2)
    (hk : ∀ v w', R v w' → WA P N ops fl D n g K f (listed.setIfInBounds i true) ((d, v) :: L) w') : WI P N ops fl D n g K f listed L w i := fun ok inv a w1 e hw ha => by
  refine ⟨_, ho, hf, ?_⟩
  unfold sRun
  rw [if_pos (Wants.wanted (o := ⟨some d, .call ⟨.value (.func fn), ⟨as_⟩, ts⟩, ty, pos, af, gd⟩) hg ha), run_enter ha hv hc.1]
  refine (hc.2 w1 e).mono ?_
  rintro en w' ⟨v, w0, rfl, h0, hR⟩
  exact ⟨v, rfl, hD v w0 hR w' h0, hk v w0 hR ok inv _ w' h0 (hD v w0 hR w' h0) (ha.put hd v)⟩
end
end Go.Proofs.YtlonpmajnglmoaaDoor

 /- Printed by a program (wip/vg): elements of several cells. -/
namespace Go.Proofs.YtlonpmajnglmoaaDoor
open Go Go.RowKit
def enc43 (x : List UInt8 × List UInt8) : List Value := [vs x.1, vs x.2]
theorem enc43_ok : OneK 2 enc43 := ⟨by omega, fun _ => rfl, fun _ => (all1c rfl (all1c rfl all1n))⟩
def enc78 (x : List UInt8 × List UInt8) : List Value := a32 x.1 ++ a32 x.2
theorem enc78_ok : OneK 64 enc78 := ⟨by omega, fun _ => rfl, fun _ => (all1a (a32_one _) (all1a (a32_one _) all1n))⟩
def enc81 (x : List UInt8 × List UInt8) : List Value := a32 x.1 ++ a32 x.2
theorem enc81_ok : OneK 64 enc81 := ⟨by omega, fun _ => rfl, fun _ => (all1a (a32_one _) (all1a (a32_one _) all1n))⟩
def enc136 (x : Int × List UInt8) : List Value := [.int .i64 x.1, vs x.2]
theorem enc136_ok : OneK 2 enc136 := ⟨by omega, fun _ => rfl, fun _ => (all1c rfl (all1c rfl all1n))⟩
theorem ow66 : ckOwK Tryd.prog 66 78 64 64 = true := by kernel_rfl
theorem ow69 : ckOwK Tryd.prog 69 81 64 64 = true := by kernel_rfl
theorem ow126 : ckOwK Tryd.prog 126 136 2 24 = true := by kernel_rfl
end Go.Proofs.YtlonpmajnglmoaaDoor

 /- Printed by a program (wip/vg): what the functions mean, plainly, and their walks. -/
namespace Go.Proofs.YtlonpmajnglmoaaDoor
open Go Go.RowKit
attribute [local irreducible] WL WC WX WQ WK WJ Yld Eff Ef0 Fn
def M_key_Source (text : List UInt8) (K : (List UInt8) → Prop) : Prop :=
 (text.length ≤ maxLen) ∧
 M_sha_Of text (fun (t5 : List UInt8) =>
 K t5)

def M_smithyref1_table (K : (List Int) → Prop) : Prop :=
 K ([(1116352408 : Int), (1899447441 : Int), (3049323471 : Int), (3921009573 : Int), (961987163 : Int), (1508970993 : Int), (2453635748 : Int), (2870763221 : Int), (3624381080 : Int), (310598401 : Int), (607225278 : Int), (1426881987 : Int), (1925078388 : Int), (2162078206 : Int), (2614888103 : Int), (3248222580 : Int), (3835390401 : Int), (4022224774 : Int), (264347078 : Int), (604807628 : Int), (770255983 : Int), (1249150122 : Int), (1555081692 : Int), (1996064986 : Int), (2554220882 : Int), (2821834349 : Int), (2952996808 : Int), (3210313671 : Int), (3336571891 : Int), (3584528711 : Int), (113926993 : Int), (338241895 : Int), (666307205 : Int), (773529912 : Int), (1294757372 : Int), (1396182291 : Int), (1695183700 : Int), (1986661051 : Int), (2177026350 : Int), (2456956037 : Int), (2730485921 : Int), (2820302411 : Int), (3259730800 : Int), (3345764771 : Int), (3516065817 : Int), (3600352804 : Int), (4094571909 : Int), (275423344 : Int), (430227734 : Int), (506948616 : Int), (659060556 : Int), (883997877 : Int), (958139571 : Int), (1322822218 : Int), (1537002063 : Int), (1747873779 : Int), (1955562222 : Int), (2024104815 : Int), (2227730452 : Int), (2361852424 : Int), (2428436474 : Int), (2756734187 : Int), (3204031479 : Int), (3329325298 : Int)] : List Int)

def M_smithyref1_turn (x : Int) (n : Int) (K : Int → Prop) : Prop :=
 (0 ≤ n) ∧
 (0 ≤ IntKind.wrap .u64 ((32 : Int) - n)) ∧
 K (bits .or .u32 (shrV .u32 x n.toNat) (shlV .u32 x (IntKind.wrap .u64 ((32 : Int) - n)).toNat))

def M_smithyref1_Sum (s : List UInt8) (K : (List UInt8) → Prop) : Prop :=
 M_smithyref1_table (fun (k : List Int) =>
 (In .i64 ((s.length : Int) + (72 : Int))) ∧
 (0 ≤ (s.length : Int) + (72 : Int) ∧ ((s.length : Int) + (72 : Int)) * 1 ≤ 140737488355328 ∧ (s.length : Int) + (72 : Int) ≤ 140737488355328) ∧
 (((([] : List UInt8)).length + s.length) * 1 ≤ 140737488355328) ∧
 (((([] : List UInt8) ++ s).length + (([128] : List UInt8)).length) * 1 ≤ 140737488355328) ∧
 Lp1 (fun (m : List UInt8) kont1 => (0 ≤ (m.length : Int) ∧ 0 < (64 : Int)) ∧
 ((¬ (((m.length : Int) % (64 : Int)) = (56 : Int)) → ((m.length + (([0] : List UInt8)).length) * 1 ≤ 140737488355328) ∧
 kont1 (m ++ ([0] : List UInt8))) ∧
 (((m.length : Int) % (64 : Int)) = (56 : Int) → Lp2 (fun (m2 : List UInt8) (i : Int) kont2 => (((0 : Int) ≤ i → (In .i64 ((8 : Int) * i)) ∧
 (0 ≤ IntKind.wrap .u64 ((8 : Int) * i)) ∧
 (0 ≤ IntKind.wrap .u8 (shrV .u64 (IntKind.wrap .u64 ((IntKind.wrap .u64 (s.length : Int)) * (8 : Int))) (IntKind.wrap .u64 ((8 : Int) * i)).toNat) ∧ IntKind.wrap .u8 (shrV .u64 (IntKind.wrap .u64 ((IntKind.wrap .u64 (s.length : Int)) * (8 : Int))) (IntKind.wrap .u64 ((8 : Int) * i)).toNat) ≤ 255) ∧
 ((m2.length + (([UInt8.ofNat (IntKind.wrap .u8 (shrV .u64 (IntKind.wrap .u64 ((IntKind.wrap .u64 (s.length : Int)) * (8 : Int))) (IntKind.wrap .u64 ((8 : Int) * i)).toNat)).toNat] : List UInt8)).length) * 1 ≤ 140737488355328) ∧
 (In .i64 (i - (1 : Int))) ∧
 kont2 (m2 ++ ([UInt8.ofNat (IntKind.wrap .u8 (shrV .u64 (IntKind.wrap .u64 ((IntKind.wrap .u64 (s.length : Int)) * (8 : Int))) (IntKind.wrap .u64 ((8 : Int) * i)).toNat)).toNat] : List UInt8)) (i - (1 : Int))) ∧
 (¬ ((0 : Int) ≤ i) → Lp2 (fun (at_ : Int) (h : List Int) kont3 => 8 = h.length → ((at_ < (m2.length : Int) → (0 ≤ (64 : Int) ∧ (64 : Int) * 4 ≤ 140737488355328 ∧ (64 : Int) ≤ 140737488355328) ∧
 Lp2 (fun (i2 : Int) (w_ : List Int) kont4 => 64 = w_.length → ((i2 < (16 : Int) → (In .i64 ((4 : Int) * i2)) ∧
 (In .i64 (at_ + ((4 : Int) * i2))) ∧
 (0 ≤ at_ + ((4 : Int) * i2) ∧ at_ + ((4 : Int) * i2) < (m2.length : Nat)) ∧
 (In .i64 ((4 : Int) * i2)) ∧
 (In .i64 (at_ + ((4 : Int) * i2))) ∧
 (In .i64 ((at_ + ((4 : Int) * i2)) + (1 : Int))) ∧
 (0 ≤ (at_ + ((4 : Int) * i2)) + (1 : Int) ∧ (at_ + ((4 : Int) * i2)) + (1 : Int) < (m2.length : Nat)) ∧
 (In .i64 ((4 : Int) * i2)) ∧
 (In .i64 (at_ + ((4 : Int) * i2))) ∧
 (In .i64 ((at_ + ((4 : Int) * i2)) + (2 : Int))) ∧
 (0 ≤ (at_ + ((4 : Int) * i2)) + (2 : Int) ∧ (at_ + ((4 : Int) * i2)) + (2 : Int) < (m2.length : Nat)) ∧
 (In .i64 ((4 : Int) * i2)) ∧
 (In .i64 (at_ + ((4 : Int) * i2))) ∧
 (In .i64 ((at_ + ((4 : Int) * i2)) + (3 : Int))) ∧
 (0 ≤ (at_ + ((4 : Int) * i2)) + (3 : Int) ∧ (at_ + ((4 : Int) * i2)) + (3 : Int) < (m2.length : Nat)) ∧
 (0 ≤ i2 ∧ i2 < (64 : Nat)) ∧
 (In .i64 (i2 + (1 : Int))) ∧
 kont4 (i2 + (1 : Int)) (w_.set i2.toNat (bits .or .u32 (bits .or .u32 (bits .or .u32 (shlV .u32 ((m2.getD ((at_ + ((4 : Int) * i2)).toNat) 0).toNat : Int) 24) (shlV .u32 ((m2.getD (((at_ + ((4 : Int) * i2)) + (1 : Int)).toNat) 0).toNat : Int) 16)) (shlV .u32 ((m2.getD (((at_ + ((4 : Int) * i2)) + (2 : Int)).toNat) 0).toNat : Int) 8)) ((m2.getD (((at_ + ((4 : Int) * i2)) + (3 : Int)).toNat) 0).toNat : Int)))) ∧
 (¬ (i2 < (16 : Int)) → Lp2 (fun (i3 : Int) (w_2 : List Int) kont5 => 64 = w_2.length → ((i3 < (64 : Int) → (In .i64 (i3 - (15 : Int))) ∧
 (0 ≤ i3 - (15 : Int) ∧ i3 - (15 : Int) < (64 : Nat)) ∧
 M_smithyref1_turn (w_2.getD ((i3 - (15 : Int)).toNat) 0) (7 : Int) (fun (t124 : Int) =>
 (In .i64 (i3 - (15 : Int))) ∧
 (0 ≤ i3 - (15 : Int) ∧ i3 - (15 : Int) < (64 : Nat)) ∧
 M_smithyref1_turn (w_2.getD ((i3 - (15 : Int)).toNat) 0) (18 : Int) (fun (t130 : Int) =>
 (In .i64 (i3 - (15 : Int))) ∧
 (0 ≤ i3 - (15 : Int) ∧ i3 - (15 : Int) < (64 : Nat)) ∧
 (In .i64 (i3 - (2 : Int))) ∧
 (0 ≤ i3 - (2 : Int) ∧ i3 - (2 : Int) < (64 : Nat)) ∧
 M_smithyref1_turn (w_2.getD ((i3 - (2 : Int)).toNat) 0) (17 : Int) (fun (t144 : Int) =>
 (In .i64 (i3 - (2 : Int))) ∧
 (0 ≤ i3 - (2 : Int) ∧ i3 - (2 : Int) < (64 : Nat)) ∧
 M_smithyref1_turn (w_2.getD ((i3 - (2 : Int)).toNat) 0) (19 : Int) (fun (t150 : Int) =>
 (In .i64 (i3 - (2 : Int))) ∧
 (0 ≤ i3 - (2 : Int) ∧ i3 - (2 : Int) < (64 : Nat)) ∧
 (In .i64 (i3 - (16 : Int))) ∧
 (0 ≤ i3 - (16 : Int) ∧ i3 - (16 : Int) < (64 : Nat)) ∧
 (In .i64 (i3 - (7 : Int))) ∧
 (0 ≤ i3 - (7 : Int) ∧ i3 - (7 : Int) < (64 : Nat)) ∧
 (0 ≤ i3 ∧ i3 < (64 : Nat)) ∧
 (In .i64 (i3 + (1 : Int))) ∧
 kont5 (i3 + (1 : Int)) (w_2.set i3.toNat (IntKind.wrap .u32 ((IntKind.wrap .u32 ((IntKind.wrap .u32 ((w_2.getD ((i3 - (16 : Int)).toNat) 0) + (bits .xor .u32 (bits .xor .u32 t124 t130) (shrV .u32 (w_2.getD ((i3 - (15 : Int)).toNat) 0) 3)))) + (w_2.getD ((i3 - (7 : Int)).toNat) 0))) + (bits .xor .u32 (bits .xor .u32 t144 t150) (shrV .u32 (w_2.getD ((i3 - (2 : Int)).toNat) 0) 10)))))))))) ∧
 (¬ (i3 < (64 : Int)) → (0 ≤ (8 : Int) ∧ (8 : Int) * 4 ≤ 140737488355328 ∧ (8 : Int) ≤ 140737488355328) ∧
 (((([] : List Int)).length + h.length) * 4 ≤ 140737488355328) ∧
 Lp2 (fun (v : List Int) (i4 : Int) kont6 => ((i4 < (64 : Int) → (0 ≤ (4 : Int) ∧ (4 : Int) < (v.length : Nat)) ∧
 M_smithyref1_turn (v.getD 4 0) (6 : Int) (fun (t187 : Int) =>
 (0 ≤ (4 : Int) ∧ (4 : Int) < (v.length : Nat)) ∧
 M_smithyref1_turn (v.getD 4 0) (11 : Int) (fun (t191 : Int) =>
 (0 ≤ (4 : Int) ∧ (4 : Int) < (v.length : Nat)) ∧
 M_smithyref1_turn (v.getD 4 0) (25 : Int) (fun (t196 : Int) =>
 (0 ≤ (4 : Int) ∧ (4 : Int) < (v.length : Nat)) ∧
 (0 ≤ (5 : Int) ∧ (5 : Int) < (v.length : Nat)) ∧
 (0 ≤ (4 : Int) ∧ (4 : Int) < (v.length : Nat)) ∧
 (0 ≤ (6 : Int) ∧ (6 : Int) < (v.length : Nat)) ∧
 (0 ≤ (7 : Int) ∧ (7 : Int) < (v.length : Nat)) ∧
 (0 ≤ i4 ∧ i4 < (k.length : Nat)) ∧
 (0 ≤ i4 ∧ i4 < (64 : Nat)) ∧
 (0 ≤ (0 : Int) ∧ (0 : Int) < (v.length : Nat)) ∧
 M_smithyref1_turn (v.getD 0 0) (2 : Int) (fun (t234 : Int) =>
 (0 ≤ (0 : Int) ∧ (0 : Int) < (v.length : Nat)) ∧
 M_smithyref1_turn (v.getD 0 0) (13 : Int) (fun (t238 : Int) =>
 (0 ≤ (0 : Int) ∧ (0 : Int) < (v.length : Nat)) ∧
 M_smithyref1_turn (v.getD 0 0) (22 : Int) (fun (t243 : Int) =>
 (0 ≤ (0 : Int) ∧ (0 : Int) < (v.length : Nat)) ∧
 (0 ≤ (1 : Int) ∧ (1 : Int) < (v.length : Nat)) ∧
 (0 ≤ (0 : Int) ∧ (0 : Int) < (v.length : Nat)) ∧
 (0 ≤ (2 : Int) ∧ (2 : Int) < (v.length : Nat)) ∧
 (0 ≤ (1 : Int) ∧ (1 : Int) < (v.length : Nat)) ∧
 (0 ≤ (2 : Int) ∧ (2 : Int) < (v.length : Nat)) ∧
 (0 ≤ (0 : Int) ∧ (0 : Int) < (v.length : Nat)) ∧
 (0 ≤ (1 : Int) ∧ (1 : Int) < (v.length : Nat)) ∧
 (0 ≤ (2 : Int) ∧ (2 : Int) < (v.length : Nat)) ∧
 (0 ≤ (3 : Int) ∧ (3 : Int) < (v.length : Nat)) ∧
 (0 ≤ (4 : Int) ∧ (4 : Int) < (v.length : Nat)) ∧
 (0 ≤ (5 : Int) ∧ (5 : Int) < (v.length : Nat)) ∧
 (0 ≤ (6 : Int) ∧ (6 : Int) < (v.length : Nat)) ∧
 (In .i64 (i4 + (1 : Int))) ∧
 kont6 ([IntKind.wrap .u32 ((IntKind.wrap .u32 ((IntKind.wrap .u32 ((IntKind.wrap .u32 ((IntKind.wrap .u32 ((IntKind.wrap .u32 ((v.getD 7 0) + (bits .xor .u32 (bits .xor .u32 t187 t191) t196))) + (bits .xor .u32 (bits .and .u32 (v.getD 4 0) (v.getD 5 0)) (bits .and .u32 (bits .xor .u32 (if IntKind.signed .u32 then -1 else IntKind.max .u32) (v.getD 4 0)) (v.getD 6 0))))) + (k.getD i4.toNat 0))) + (w_2.getD i4.toNat 0))) + (bits .xor .u32 (bits .xor .u32 t234 t238) t243))) + (bits .xor .u32 (bits .xor .u32 (bits .and .u32 (v.getD 0 0) (v.getD 1 0)) (bits .and .u32 (v.getD 0 0) (v.getD 2 0))) (bits .and .u32 (v.getD 1 0) (v.getD 2 0)))), v.getD 0 0, v.getD 1 0, v.getD 2 0, IntKind.wrap .u32 ((v.getD 3 0) + (IntKind.wrap .u32 ((IntKind.wrap .u32 ((IntKind.wrap .u32 ((IntKind.wrap .u32 ((v.getD 7 0) + (bits .xor .u32 (bits .xor .u32 t187 t191) t196))) + (bits .xor .u32 (bits .and .u32 (v.getD 4 0) (v.getD 5 0)) (bits .and .u32 (bits .xor .u32 (if IntKind.signed .u32 then -1 else IntKind.max .u32) (v.getD 4 0)) (v.getD 6 0))))) + (k.getD i4.toNat 0))) + (w_2.getD i4.toNat 0)))), v.getD 4 0, v.getD 5 0, v.getD 6 0] : List Int) (i4 + (1 : Int))))))))) ∧
 (¬ (i4 < (64 : Int)) → Lp2 (fun (i5 : Int) (h_2 : List Int) kont7 => 8 = h_2.length → ((i5 < (8 : Int) → (0 ≤ i5 ∧ i5 < (8 : Nat)) ∧
 (0 ≤ i5 ∧ i5 < (v.length : Nat)) ∧
 (0 ≤ i5 ∧ i5 < (8 : Nat)) ∧
 (In .i64 (i5 + (1 : Int))) ∧
 kont7 (i5 + (1 : Int)) (h_2.set i5.toNat (IntKind.wrap .u32 ((h_2.getD i5.toNat 0) + (v.getD i5.toNat 0))))) ∧
 (¬ (i5 < (8 : Int)) → (In .i64 (at_ + (64 : Int))) ∧
 kont3 (at_ + (64 : Int)) h_2))) (0 : Int) h))) (([] : List Int) ++ h) (0 : Int)))) (16 : Int) w_))) (0 : Int) (List.replicate 64 0)) ∧
 (¬ (at_ < (m2.length : Int)) → Lp2 (fun (i6 : Int) (out0 : List UInt8) kont8 => ((i6 < (8 : Int) → Lp2 (fun (j : Int) (out02 : List UInt8) kont9 => ((j < (4 : Int) → (In .i64 ((4 : Int) * i6)) ∧
 (In .i64 (((4 : Int) * i6) + j)) ∧
 (0 ≤ i6 ∧ i6 < (8 : Nat)) ∧
 (In .i64 ((8 : Int) * j)) ∧
 (In .i64 ((24 : Int) - ((8 : Int) * j))) ∧
 (0 ≤ IntKind.wrap .u64 ((24 : Int) - ((8 : Int) * j))) ∧
 (0 ≤ ((4 : Int) * i6) + j ∧ ((4 : Int) * i6) + j < 32) ∧
 (0 ≤ IntKind.wrap .u8 (shrV .u32 (h.getD i6.toNat 0) (IntKind.wrap .u64 ((24 : Int) - ((8 : Int) * j))).toNat) ∧ IntKind.wrap .u8 (shrV .u32 (h.getD i6.toNat 0) (IntKind.wrap .u64 ((24 : Int) - ((8 : Int) * j))).toNat) ≤ 255) ∧
 (out02.length = 32) ∧
 (In .i64 (j + (1 : Int))) ∧
 kont9 (j + (1 : Int)) (out02.set ((((4 : Int) * i6) + j).toNat) (UInt8.ofNat (IntKind.wrap .u8 (shrV .u32 (h.getD i6.toNat 0) (IntKind.wrap .u64 ((24 : Int) - ((8 : Int) * j))).toNat)).toNat))) ∧
 (¬ (j < (4 : Int)) → (In .i64 (i6 + (1 : Int))) ∧
 kont8 (i6 + (1 : Int)) out02))) (0 : Int) out0) ∧
 (¬ (i6 < (8 : Int)) → K out0))) (0 : Int) (List.replicate 32 0 : List UInt8)))) (0 : Int) ([(1779033703 : Int), (3144134277 : Int), (1013904242 : Int), (2773480762 : Int), (1359893119 : Int), (2600822924 : Int), (528734635 : Int), (1541459225 : Int)] : List Int)))) m (7 : Int)))) ((([] : List UInt8) ++ s) ++ ([128] : List UInt8)))

def M_smithyref1_Many (l : List (List UInt8)) (K : (List UInt8) → Prop) : Prop :=
 (l.length ≤ maxLen →
 Lp2 (fun (m : List UInt8) (i : Int) kont1 => ((i < (l.length : Int) → (0 ≤ i ∧ i < (l.length : Nat)) ∧
 (0 ≤ IntKind.wrap .u8 (shrV .i64 ((l.getD i.toNat []).length : Int) 24) ∧ IntKind.wrap .u8 (shrV .i64 ((l.getD i.toNat []).length : Int) 24) ≤ 255) ∧
 (0 ≤ IntKind.wrap .u8 (shrV .i64 ((l.getD i.toNat []).length : Int) 16) ∧ IntKind.wrap .u8 (shrV .i64 ((l.getD i.toNat []).length : Int) 16) ≤ 255) ∧
 (0 ≤ IntKind.wrap .u8 (shrV .i64 ((l.getD i.toNat []).length : Int) 8) ∧ IntKind.wrap .u8 (shrV .i64 ((l.getD i.toNat []).length : Int) 8) ≤ 255) ∧
 (0 ≤ IntKind.wrap .u8 ((l.getD i.toNat []).length : Int) ∧ IntKind.wrap .u8 ((l.getD i.toNat []).length : Int) ≤ 255) ∧
 ((m.length + (([UInt8.ofNat (IntKind.wrap .u8 (shrV .i64 ((l.getD i.toNat []).length : Int) 24)).toNat, UInt8.ofNat (IntKind.wrap .u8 (shrV .i64 ((l.getD i.toNat []).length : Int) 16)).toNat, UInt8.ofNat (IntKind.wrap .u8 (shrV .i64 ((l.getD i.toNat []).length : Int) 8)).toNat, UInt8.ofNat (IntKind.wrap .u8 ((l.getD i.toNat []).length : Int)).toNat] : List UInt8)).length) * 1 ≤ 140737488355328) ∧
 (0 ≤ i ∧ i < (l.length : Nat)) ∧
 (((m ++ ([UInt8.ofNat (IntKind.wrap .u8 (shrV .i64 ((l.getD i.toNat []).length : Int) 24)).toNat, UInt8.ofNat (IntKind.wrap .u8 (shrV .i64 ((l.getD i.toNat []).length : Int) 16)).toNat, UInt8.ofNat (IntKind.wrap .u8 (shrV .i64 ((l.getD i.toNat []).length : Int) 8)).toNat, UInt8.ofNat (IntKind.wrap .u8 ((l.getD i.toNat []).length : Int)).toNat] : List UInt8)).length + (l.getD i.toNat []).length) * 1 ≤ 140737488355328) ∧
 (In .i64 (i + (1 : Int))) ∧
 kont1 ((m ++ ([UInt8.ofNat (IntKind.wrap .u8 (shrV .i64 ((l.getD i.toNat []).length : Int) 24)).toNat, UInt8.ofNat (IntKind.wrap .u8 (shrV .i64 ((l.getD i.toNat []).length : Int) 16)).toNat, UInt8.ofNat (IntKind.wrap .u8 (shrV .i64 ((l.getD i.toNat []).length : Int) 8)).toNat, UInt8.ofNat (IntKind.wrap .u8 ((l.getD i.toNat []).length : Int)).toNat] : List UInt8)) ++ (l.getD i.toNat [])) (i + (1 : Int))) ∧
 (¬ (i < (l.length : Int)) → M_smithyref1_Sum m (fun (t39 : List UInt8) =>
 K t39)))) [] (0 : Int))

def M_smithyref1_Hex (s : List UInt8) (K : (List UInt8) → Prop) : Prop :=
 (0 ≤ (64 : Int) ∧ (64 : Int) * 1 ≤ 140737488355328 ∧ (64 : Int) ≤ 140737488355328) ∧
 Lp2 (fun (out : List UInt8) (i : Int) kont1 => ((i < (32 : Int) → (0 ≤ i ∧ i < 32) ∧
 (0 ≤ shrV .u8 ((s.getD i.toNat 0).toNat : Int) 4 ∧ shrV .u8 ((s.getD i.toNat 0).toNat : Int) 4 < ([48, 49, 50, 51, 52, 53, 54, 55, 56, 57, 97, 98, 99, 100, 101, 102] : List UInt8).length) ∧
 (0 ≤ i ∧ i < 32) ∧
 (0 ≤ bits .and .u8 ((s.getD i.toNat 0).toNat : Int) (15 : Int) ∧ bits .and .u8 ((s.getD i.toNat 0).toNat : Int) (15 : Int) < ([48, 49, 50, 51, 52, 53, 54, 55, 56, 57, 97, 98, 99, 100, 101, 102] : List UInt8).length) ∧
 ((out.length + (([([48, 49, 50, 51, 52, 53, 54, 55, 56, 57, 97, 98, 99, 100, 101, 102] : List UInt8).getD (shrV .u8 ((s.getD i.toNat 0).toNat : Int) 4).toNat 0, ([48, 49, 50, 51, 52, 53, 54, 55, 56, 57, 97, 98, 99, 100, 101, 102] : List UInt8).getD (bits .and .u8 ((s.getD i.toNat 0).toNat : Int) (15 : Int)).toNat 0] : List UInt8)).length) * 1 ≤ 140737488355328) ∧
 (In .i64 (i + (1 : Int))) ∧
 kont1 (out ++ ([([48, 49, 50, 51, 52, 53, 54, 55, 56, 57, 97, 98, 99, 100, 101, 102] : List UInt8).getD (shrV .u8 ((s.getD i.toNat 0).toNat : Int) 4).toNat 0, ([48, 49, 50, 51, 52, 53, 54, 55, 56, 57, 97, 98, 99, 100, 101, 102] : List UInt8).getD (bits .and .u8 ((s.getD i.toNat 0).toNat : Int) (15 : Int)).toNat 0] : List UInt8)) (i + (1 : Int))) ∧
 (¬ (i < (32 : Int)) → K out))) ([] : List UInt8) (0 : Int)

def M_smithyref17_SameSum (a : List UInt8) (b : List UInt8) (K : Bool → Prop) : Prop :=
 M_smithyref1_Hex a (fun (t6 : List UInt8) =>
 M_smithyref1_Hex b (fun (t8 : List UInt8) =>
 K (decide (t6 = t8))))

set_option maxHeartbeats 8000000 in
theorem W_key_Source {w : World} {text : List UInt8} {K : (List UInt8) → Prop} (H : M_key_Source text K) : Fn Tryd.prog 39 ⟨[vs text]⟩ w (fun v w' => w.grownBy w' none ∧ ∃ (r : List UInt8), v = .agg ⟨a32 r⟩ ∧ K r) := by
  unfold M_key_Source at H
  refine Fn.enter (by kernel_rfl) Tryd.func39 rfl Tryd.ntmps39 rfl ?_
  refine WC.seq ?_
  refine WC.region ?_
  refine WL.alloc rfl zero74 (fun g1 w1 hB1 hg1 hl1 => ?_)
  rw [a32_zero] at hB1
  have gr1 := hg1
  refine WL.nil (WX.then_normal ?_)
  refine WC.seq ?_
  refine WC.region ?_
  refine WL.y rfl (Yld.pure tab_ok rfl) ?_
  obtain ⟨h1, H⟩ := H
  refine WL.s2b tab_ok rfl rfl rfl rfl rfl h1 (fun A_t4 c_t4 w2 hR1 hg2 hge1 => ?_)
  have gr2 := gr_trans gr1 hg2
  have k1 := hB1.g0 hg2
  refine WL.call rfl rfl (W_sha_Of hR1 rfl H) ?_
  rintro _ w3 ⟨hg3, t5, rfl, H⟩
  have gr3 := gr_trans gr2 hg3
  have k2 := k1.g0 hg3
  refine WL.storeW (vs := (a32 t5)) tab_ok rfl rfl rfl (all1a (a32_one _) all1n) k2 rfl rfl (fun w4 hB2 hg4 => ?_)
  have gr4 := gr_mod gr3 hg4 (Ge.le (Ge.box hl1) (Nat.le_refl _))
  refine WL.nil (WX.then_normal ?_)
  refine WC.ret ?_
  exact WX.retc tab_ok rfl rfl rfl hB2 rfl ⟨gr4, t5, rfl, H⟩

set_option maxHeartbeats 8000000 in
theorem W_smithyref1_table {w : World} {K : (List Int) → Prop} (H : M_smithyref1_table  K) : Fn Tryd.prog 81 ⟨[]⟩ w (fun v w' => w.grownBy w' none ∧ ∃ (r : List Int), ∃ (A_r : Option Addr), ∃ (c_r : Nat), v = .slice A_r r.length c_r ∧ Own vu w' w.heap.size 145 A_r c_r r ∧ K r) := by
  unfold M_smithyref1_table at H
  refine Fn.enter (by kernel_rfl) Tryd.func81 rfl Tryd.ntmps81 rfl ?_
  refine WC.seq ?_
  refine WC.region ?_
  refine WL.y rfl (Yld.pure tab_ok rfl) ?_
  refine WL.nil (WX.then_normal ?_)
  refine WC.seq ?_
  refine WC.region ?_
  refine WL.lit tab_ok rfl rfl rfl (all1c rfl (all1c rfl (all1c rfl (all1c rfl (all1c rfl (all1c rfl (all1c rfl (all1c rfl (all1c rfl (all1c rfl (all1c rfl (all1c rfl (all1c rfl (all1c rfl (all1c rfl (all1c rfl (all1c rfl (all1c rfl (all1c rfl (all1c rfl (all1c rfl (all1c rfl (all1c rfl (all1c rfl (all1c rfl (all1c rfl (all1c rfl (all1c rfl (all1c rfl (all1c rfl (all1c rfl (all1c rfl (all1c rfl (all1c rfl (all1c rfl (all1c rfl (all1c rfl (all1c rfl (all1c rfl (all1c rfl (all1c rfl (all1c rfl (all1c rfl (all1c rfl (all1c rfl (all1c rfl (all1c rfl (all1c rfl (all1c rfl (all1c rfl (all1c rfl (all1c rfl (all1c rfl (all1c rfl (all1c rfl (all1c rfl (all1c rfl (all1c rfl (all1c rfl (all1c rfl (all1c rfl (all1c rfl (all1c rfl (all1c rfl all1n)))))))))))))))))))))))))))))))))))))))))))))))))))))))))))))))) rfl (by omega) (fun g1 w1 hB1 hg1 hl1 => ?_)
  have hO1 : Own vu w1 w.heap.size 145 (some ⟨g1, 0, none⟩) 64 ([(1116352408 : Int), (1899447441 : Int), (3049323471 : Int), (3921009573 : Int), (961987163 : Int), (1508970993 : Int), (2453635748 : Int), (2870763221 : Int), (3624381080 : Int), (310598401 : Int), (607225278 : Int), (1426881987 : Int), (1925078388 : Int), (2162078206 : Int), (2614888103 : Int), (3248222580 : Int), (3835390401 : Int), (4022224774 : Int), (264347078 : Int), (604807628 : Int), (770255983 : Int), (1249150122 : Int), (1555081692 : Int), (1996064986 : Int), (2554220882 : Int), (2821834349 : Int), (2952996808 : Int), (3210313671 : Int), (3336571891 : Int), (3584528711 : Int), (113926993 : Int), (338241895 : Int), (666307205 : Int), (773529912 : Int), (1294757372 : Int), (1396182291 : Int), (1695183700 : Int), (1986661051 : Int), (2177026350 : Int), (2456956037 : Int), (2730485921 : Int), (2820302411 : Int), (3259730800 : Int), (3345764771 : Int), (3516065817 : Int), (3600352804 : Int), (4094571909 : Int), (275423344 : Int), (430227734 : Int), (506948616 : Int), (659060556 : Int), (883997877 : Int), (958139571 : Int), (1322822218 : Int), (1537002063 : Int), (1747873779 : Int), (1955562222 : Int), (2024104815 : Int), (2227730452 : Int), (2361852424 : Int), (2428436474 : Int), (2756734187 : Int), (3204031479 : Int), (3329325298 : Int)] : List Int) := Own.ofBl hB1 (Nat.le_trans (Nat.le_refl _) hl1) (by simp [maxLen]) rfl
  have gr1 := hg1
  refine WL.y rfl (Yld.pure tab_ok rfl) ?_
  refine WL.nil (WX.then_normal ?_)
  refine WC.ret ?_
  exact WX.ret1 rfl rfl ⟨gr1, ([(1116352408 : Int), (1899447441 : Int), (3049323471 : Int), (3921009573 : Int), (961987163 : Int), (1508970993 : Int), (2453635748 : Int), (2870763221 : Int), (3624381080 : Int), (310598401 : Int), (607225278 : Int), (1426881987 : Int), (1925078388 : Int), (2162078206 : Int), (2614888103 : Int), (3248222580 : Int), (3835390401 : Int), (4022224774 : Int), (264347078 : Int), (604807628 : Int), (770255983 : Int), (1249150122 : Int), (1555081692 : Int), (1996064986 : Int), (2554220882 : Int), (2821834349 : Int), (2952996808 : Int), (3210313671 : Int), (3336571891 : Int), (3584528711 : Int), (113926993 : Int), (338241895 : Int), (666307205 : Int), (773529912 : Int), (1294757372 : Int), (1396182291 : Int), (1695183700 : Int), (1986661051 : Int), (2177026350 : Int), (2456956037 : Int), (2730485921 : Int), (2820302411 : Int), (3259730800 : Int), (3345764771 : Int), (3516065817 : Int), (3600352804 : Int), (4094571909 : Int), (275423344 : Int), (430227734 : Int), (506948616 : Int), (659060556 : Int), (883997877 : Int), (958139571 : Int), (1322822218 : Int), (1537002063 : Int), (1747873779 : Int), (1955562222 : Int), (2024104815 : Int), (2227730452 : Int), (2361852424 : Int), (2428436474 : Int), (2756734187 : Int), (3204031479 : Int), (3329325298 : Int)] : List Int), (some ⟨g1, 0, none⟩), 64, rfl, hO1, H⟩

set_option maxHeartbeats 8000000 in
theorem W_smithyref1_turn {w : World} {x : Int} {n : Int} {K : Int → Prop} (H : M_smithyref1_turn x n K) : Fn Tryd.prog 82 ⟨[.int .u32 x, .int .u64 n]⟩ w (fun v w' => w = w' ∧ ∃ (r : Int), v = .int .u32 r ∧ K r) := by
  unfold M_smithyref1_turn at H
  refine Fn.enter (by kernel_rfl) Tryd.func82 rfl Tryd.ntmps82 rfl ?_
  refine WC.seq ?_
  refine WC.region ?_
  refine WL.y rfl (Yld.pure tab_ok rfl) ?_
  refine WL.nil (WX.then_normal ?_)
  refine WC.seq ?_
  refine WC.region ?_
  refine WL.y rfl (Yld.pure tab_ok rfl) ?_
  refine WL.y rfl (Yld.pure tab_ok rfl) ?_
  obtain ⟨h1, H⟩ := H
  refine WL.y rfl (Yld.shr rfl rfl h1) ?_
  refine WL.y rfl (Yld.pure tab_ok rfl) ?_
  refine WL.y rfl (Yld.pure tab_ok rfl) ?_
  refine WL.y rfl (Yld.pure tab_ok rfl) ?_
  obtain ⟨h2, H⟩ := H
  refine WL.y rfl (Yld.shl rfl rfl h2) ?_
  refine WL.y rfl (Yld.pure tab_ok rfl) ?_
  refine WL.y rfl (Yld.pure tab_ok rfl) ?_
  refine WL.nil (WX.then_normal ?_)
  refine WC.ret ?_
  exact WX.ret1 rfl rfl ⟨rfl, bits .or .u32 (shrV .u32 x n.toNat) (shlV .u32 x (IntKind.wrap .u64 ((32 : Int) - n)).toNat), rfl, H⟩

set_option maxHeartbeats 8000000 in
theorem W_smithyref1_Sum {w : World} {s : List UInt8} {K : (List UInt8) → Prop} (H : M_smithyref1_Sum s K) : Fn Tryd.prog 41 ⟨[vs s]⟩ w (fun v w' => w.grownBy w' none ∧ ∃ (r : List UInt8), v = .agg ⟨a32 r⟩ ∧ K r) := by
  unfold M_smithyref1_Sum at H
  refine Fn.enter (by kernel_rfl) Tryd.func41 rfl Tryd.ntmps41 rfl ?_
  refine WC.seq ?_
  refine WC.region ?_
  refine WL.alloc rfl zero73 (fun g1 w1 hB1 hg1 hl1 => ?_)
  rw [a32_zero] at hB1
  have gr1 := hg1
  refine WL.nil (WX.then_normal ?_)
  refine WC.seq ?_
  refine WC.region ?_
  refine WL.call rfl rfl (W_smithyref1_table H) ?_
  rintro _ w2 ⟨hg2, k, A_k, c_k, rfl, hk, H⟩
  have hb1 := hk.ge'
  have k1 := hk.base (fun g hg => Nat.le_trans (size_le gr1) (hb1 g hg))
  have gr2 := gr_trans gr1 hg2
  have k2 := hB1.g0 hg2
  refine WL.y rfl (Yld.pure tab_ok rfl) ?_
  refine WL.nil (WX.then_normal ?_)
  refine WC.seq ?_
  refine WC.region ?_
  refine WL.lit tab_ok rfl rfl rfl (all1c rfl (all1c rfl (all1c rfl (all1c rfl (all1c rfl (all1c rfl (all1c rfl (all1c rfl all1n)))))))) rfl (by omega) (fun g2 w3 hB2 hg3 hl2 => ?_)
  have hO1 : Own vu w3 w.heap.size 145 (some ⟨g2, 0, none⟩) 8 ([(1779033703 : Int), (3144134277 : Int), (1013904242 : Int), (2773480762 : Int), (1359893119 : Int), (2600822924 : Int), (528734635 : Int), (1541459225 : Int)] : List Int) := Own.ofBl hB2 (Nat.le_trans (size_le gr2) hl2) (by simp [maxLen]) rfl
  have gr3 := gr_trans gr2 hg3
  have k3 := k2.g0 hg3
  have k4 := k1.grown hg3
  refine WL.y rfl (Yld.pure tab_ok rfl) ?_
  refine WL.nil (WX.then_normal ?_)
  refine WC.seq ?_
  refine WC.region ?_
  refine WL.y rfl (Yld.pure tab_ok rfl) ?_
  refine WL.y rfl (Yld.pure tab_ok rfl) ?_
  obtain ⟨h1, H⟩ := H
  refine WL.y rfl (Yld.add rfl rfl h1) ?_
  obtain ⟨h2, H⟩ := H
  refine WL.makeCI (f := vb) (B := w.heap.size) tab_ok rfl rfl rfl rfl h2.1 h2.2.1 h2.2.2 (size_le gr3) (fun g3 w4 hO2 hg4 hl3 => ?_)
  have gr4 := gr_trans gr3 hg4
  have k5 := k3.g0 hg4
  have k6 := k4.grown hg4
  have k7 := hO1.grown hg4
  refine WL.y rfl (Yld.pure tab_ok rfl) ?_
  obtain ⟨h3, H⟩ := H
  refine WL.appendS tab_ok rfl rfl rfl hO2 rfl rfl rfl h3 (applen h3) (size_le gr4) (fun A_m c_m w5 hO3 hg5 hk1 => ?_)
  have gr5 := gr_mod gr4 hg5 hO2.ge'
  have k8 := k5.go hg5 (Dj.new k3.lt' (Ge.box hl3))
  have k9 := k6.go hg5 (Dj.new k4.lt' (Ge.box hl3))
  have k10 := k7.go hg5 (Dj.new hO1.lt' (Ge.box hl3))
  refine WL.y rfl (Yld.pure tab_ok rfl) ?_
  refine WL.nil (WX.then_normal ?_)
  refine WC.seq ?_
  refine WC.region ?_
  refine WL.y rfl (Yld.pure tab_ok rfl) ?_
  refine WL.lit tab_ok rfl rfl rfl (all1c rfl all1n) rfl (by omega) (fun g4 w6 hB3 hg6 hl4 => ?_)
  have hO4 : Own vb w6 w.heap.size 5 (some ⟨g4, 0, none⟩) 1 ([128] : List UInt8) := Own.ofBl hB3 (Nat.le_trans (size_le gr5) hl4) (by simp [maxLen]) rfl
  have gr6 := gr_trans gr5 hg6
  have k11 := k8.g0 hg6
  have k12 := k9.grown hg6
  have k13 := k10.grown hg6
  have k14 := hO3.grown hg6
  obtain ⟨h4, H⟩ := H
  refine WL.append tab_ok rfl rfl One.b k14 rfl rfl hO4.rd rfl rfl h4 (applen h4) (size_le gr6) (fun A_m2 c_m2 w7 hO5 hg7 hk2 => ?_)
  have gr7 := gr_mod gr6 hg7 k14.ge'
  have k15 := k11.go hg7 ((Dj.app (Dj.new k3.lt' (Ge.box hl3)).symm k5.lt' hk1).symm)
  have k16 := k12.go hg7 ((Dj.app (Dj.new k4.lt' (Ge.box hl3)).symm k6.lt' hk1).symm)
  have k17 := k13.go hg7 ((Dj.app (Dj.new hO1.lt' (Ge.box hl3)).symm k7.lt' hk1).symm)
  refine WL.y rfl (Yld.pure tab_ok rfl) ?_
  refine WL.nil (WX.then_normal ?_)
  refine WC.seq ?_
  refine WC.block ?_
  obtain ⟨I1, mu1, h0_1, HR1⟩ := H
  refine WC.loopF (fun n' L' w' => ∃ (m : List UInt8), ∃ (A_m3 : Option Addr), ∃ (c_m3 : Nat), ∃ (n_m : Nat), n' = mu1 m ∧ L' = [(0, vs s), (2, .pointer (some ⟨g1, 0, none⟩)), (3, .slice A_k k.length c_k), (4, .slice (some ⟨g2, 0, none⟩) 8 8), (5, .slice A_m3 n_m c_m3)] ∧ I1 m ∧ n_m = m.length ∧ w.grownBy w' none ∧ Bl w' g1 73 (a32 (List.replicate 32 0 : List UInt8)) ∧ Own vu w' w.heap.size 145 A_k c_k k ∧ Own vu w' w.heap.size 145 (some ⟨g2, 0, none⟩) 8 ([(1779033703 : Int), (3144134277 : Int), (1013904242 : Int), (2773480762 : Int), (1359893119 : Int), (2600822924 : Int), (528734635 : Int), (1541459225 : Int)] : List Int) ∧ Own vb w' w.heap.size 5 A_m3 c_m3 m ∧ Dj (some g1) (blk A_k) ∧ Dj (some g1) (blk (some ⟨g2, 0, none⟩)) ∧ Dj (some g1) (blk A_m3) ∧ Dj (blk A_k) (blk (some ⟨g2, 0, none⟩)) ∧ Dj (blk A_k) (blk A_m3) ∧ Dj (blk (some ⟨g2, 0, none⟩)) (blk A_m3)) _ _ ⟨(([] : List UInt8) ++ s) ++ ([128] : List UInt8), A_m2, c_m2, ((([] : List UInt8) ++ s) ++ ([128] : List UInt8)).length, rfl, rfl, h0_1, rfl, gr7, k15, k16, k17, hO5, (Dj.new hB1.lt' hb1), (Dj.new k2.lt' (Ge.box hl2)), (Dj.app (Dj.app (Dj.new k3.lt' (Ge.box hl3)).symm k5.lt' hk1) k11.lt' hk2).symm, (Dj.new k1.lt' (Ge.box hl2)), (Dj.app (Dj.app (Dj.new k4.lt' (Ge.box hl3)).symm k6.lt' hk1) k12.lt' hk2).symm, (Dj.app (Dj.app (Dj.new hO1.lt' (Ge.box hl3)).symm k7.lt' hk1) k13.lt' hk2).symm⟩ (by repeat (first | exact Sub.nil | refine Sub.cons rfl ?_)) ?_
  clear h0_1
  rintro _ _ w8 ⟨m, A_m3, c_m3, n_m, rfl, rfl, hI1, rfl, gr8, k18, k19, k20, k21, dj1, dj2, dj3, dj4, dj5, dj6⟩
  have H := HR1 m hI1
  refine WC.seq ?_
  refine WC.seq ?_
  refine WC.region ?_
  refine WL.y rfl (Yld.pure tab_ok rfl) ?_
  refine WL.y rfl (Yld.pure tab_ok rfl) ?_
  obtain ⟨h5, H⟩ := H
  refine WL.y rfl (Yld.rem rfl rfl h5.1 h5.2) ?_
  refine WL.y rfl (Yld.pure tab_ok rfl) ?_
  refine WL.nil (WX.then_normal ?_)
  refine WC.cond rfl (fun b1 => ?_) (fun b1 => ?_)
  · replace H := H.1 (nd_true b1)
    refine WC.skip (WX.then_normal ?_)
    refine WC.block ?_
    refine WC.region ?_
    refine WL.y rfl (Yld.pure tab_ok rfl) ?_
    refine WL.lit tab_ok rfl rfl rfl (all1c rfl all1n) rfl (by omega) (fun g5 w9 hB4 hg8 hl5 => ?_)
    have hO6 : Own vb w9 w.heap.size 5 (some ⟨g5, 0, none⟩) 1 ([0] : List UInt8) := Own.ofBl hB4 (Nat.le_trans (size_le gr8) hl5) (by simp [maxLen]) rfl
    have gr9 := gr_trans gr8 hg8
    have k22 := k18.g0 hg8
    have k23 := k19.grown hg8
    have k24 := k20.grown hg8
    have k25 := k21.grown hg8
    obtain ⟨h6, H⟩ := H
    refine WL.append tab_ok rfl rfl One.b k25 rfl rfl hO6.rd rfl rfl h6 (applen h6) (size_le gr9) (fun A_m4 c_m4 w10 hO7 hg9 hk3 => ?_)
    have gr10 := gr_mod gr9 hg9 k25.ge'
    have k26 := k22.go hg9 dj3
    have k27 := k23.go hg9 dj5
    have k28 := k24.go hg9 dj6
    refine WL.y rfl (Yld.pure tab_ok rfl) ?_
    refine WL.nil (WX.block_normal ?_)
    exact WX.roundF _ ⟨m ++ ([0] : List UInt8), A_m4, c_m4, (m ++ ([0] : List UInt8)).length, rfl, rfl, H.1, rfl, gr10, k26, k27, k28, hO7, dj1, dj2, (Dj.app dj3.symm k22.lt' hk3).symm, dj4, (Dj.app dj5.symm k23.lt' hk3).symm, (Dj.app dj6.symm k24.lt' hk3).symm⟩ (by repeat (first | exact Sub.nil | refine Sub.cons rfl ?_)) H.2
  · replace H := H.2 (nd_false b1)
    refine WC.exit (WX.then_exit (WX.then_exit (WX.block_same (WX.then_normal ?_))))
    refine WC.seq ?_
    refine WC.region ?_
    refine WL.y rfl (Yld.pure tab_ok rfl) ?_
    refine WL.y rfl (Yld.pure tab_ok rfl) ?_
    refine WL.y rfl (Yld.pure tab_ok rfl) ?_
    refine WL.y rfl (Yld.pure tab_ok rfl) ?_
    refine WL.y rfl (Yld.pure tab_ok rfl) ?_
    refine WL.nil (WX.then_normal ?_)
    refine WC.seq ?_
    refine WC.seq ?_
    refine WC.region ?_
    refine WL.y rfl (Yld.pure tab_ok rfl) ?_
    refine WL.nil (WX.then_normal ?_)
    refine WC.block ?_
    obtain ⟨I2, mu2, h0_2, HR2⟩ := H
    refine WC.loopF (fun n' L' w' => ∃ (m2 : List UInt8), ∃ (A_m5 : Option Addr), ∃ (c_m5 : Nat), ∃ (n_m2 : Nat), ∃ (i : Int), n' = mu2 m2 i ∧ L' = [(2, .pointer (some ⟨g1, 0, none⟩)), (3, .slice A_k k.length c_k), (4, .slice (some ⟨g2, 0, none⟩) 8 8), (5, .slice A_m5 n_m2 c_m5), (6, .int .u64 (IntKind.wrap .u64 ((IntKind.wrap .u64 (s.length : Int)) * (8 : Int)))), (7, .int .i64 i)] ∧ I2 m2 i ∧ n_m2 = m2.length ∧ w.grownBy w' none ∧ Bl w' g1 73 (a32 (List.replicate 32 0 : List UInt8)) ∧ Own vu w' w.heap.size 145 A_k c_k k ∧ Own vu w' w.heap.size 145 (some ⟨g2, 0, none⟩) 8 ([(1779033703 : Int), (3144134277 : Int), (1013904242 : Int), (2773480762 : Int), (1359893119 : Int), (2600822924 : Int), (528734635 : Int), (1541459225 : Int)] : List Int) ∧ Own vb w' w.heap.size 5 A_m5 c_m5 m2 ∧ Dj (some g1) (blk A_k) ∧ Dj (some g1) (blk (some ⟨g2, 0, none⟩)) ∧ Dj (some g1) (blk A_m5) ∧ Dj (blk A_k) (blk (some ⟨g2, 0, none⟩)) ∧ Dj (blk A_k) (blk A_m5) ∧ Dj (blk (some ⟨g2, 0, none⟩)) (blk A_m5)) _ _ ⟨m, A_m3, c_m3, m.length, (7 : Int), rfl, rfl, h0_2, rfl, gr8, k18, k19, k20, k21, dj1, dj2, dj3, dj4, dj5, dj6⟩ (by repeat (first | exact Sub.nil | refine Sub.cons rfl ?_)) ?_
    clear h0_2
    rintro _ _ w11 ⟨m2, A_m5, c_m5, n_m2, i, rfl, rfl, hI2, rfl, gr11, k29, k30, k31, k32, dj7, dj8, dj9, dj10, dj11, dj12⟩
    have H := HR2 m2 i hI2
    refine WC.seq ?_
    refine WC.seq ?_
    refine WC.region ?_
    refine WL.y rfl (Yld.pure tab_ok rfl) ?_
    refine WL.y rfl (Yld.pure tab_ok rfl) ?_
    refine WL.nil (WX.then_normal ?_)
    refine WC.cond rfl (fun b2 => ?_) (fun b2 => ?_)
    · replace H := H.1 (of_decide_eq_true b2)
      refine WC.skip (WX.then_normal ?_)
      refine WC.seq ?_
      refine WC.block ?_
      refine WC.region ?_
      refine WL.y rfl (Yld.pure tab_ok rfl) ?_
      refine WL.y rfl (Yld.pure tab_ok rfl) ?_
      refine WL.y rfl (Yld.pure tab_ok rfl) ?_
      obtain ⟨h7, H⟩ := H
      refine WL.y rfl (Yld.mul rfl rfl h7) ?_
      refine WL.y rfl (Yld.pure tab_ok rfl) ?_
      obtain ⟨h8, H⟩ := H
      refine WL.y rfl (Yld.shr rfl rfl h8) ?_
      refine WL.y rfl (Yld.pure tab_ok rfl) ?_
      obtain ⟨h9, H⟩ := H
      refine WL.lit tab_ok rfl rfl rfl (all1c rfl all1n) rfl (by omega) (fun g6 w12 hB5 hg10 hl6 => ?_)
      replace hB5 : Bl w12 g6 5 (([UInt8.ofNat (IntKind.wrap .u8 (shrV .u64 (IntKind.wrap .u64 ((IntKind.wrap .u64 (s.length : Int)) * (8 : Int))) (IntKind.wrap .u64 ((8 : Int) * i)).toNat)).toNat] : List UInt8).map vb) := Bl.cast (lcons (byte_eq' h9) lnil) hB5
      have hO8 : Own vb w12 w.heap.size 5 (some ⟨g6, 0, none⟩) 1 ([UInt8.ofNat (IntKind.wrap .u8 (shrV .u64 (IntKind.wrap .u64 ((IntKind.wrap .u64 (s.length : Int)) * (8 : Int))) (IntKind.wrap .u64 ((8 : Int) * i)).toNat)).toNat] : List UInt8) := Own.ofBl hB5 (Nat.le_trans (size_le gr11) hl6) (by simp [maxLen]) rfl
      have gr12 := gr_trans gr11 hg10
      have k33 := k29.g0 hg10
      have k34 := k30.grown hg10
      have k35 := k31.grown hg10
      have k36 := k32.grown hg10
      obtain ⟨h10, H⟩ := H
      refine WL.append tab_ok rfl rfl One.b k36 rfl rfl hO8.rd rfl rfl h10 (applen h10) (size_le gr12) (fun A_m6 c_m6 w13 hO9 hg11 hk4 => ?_)
      have gr13 := gr_mod gr12 hg11 k36.ge'
      have k37 := k33.go hg11 dj9
      have k38 := k34.go hg11 dj11
      have k39 := k35.go hg11 dj12
      refine WL.y rfl (Yld.pure tab_ok rfl) ?_
      refine WL.nil (WX.block_normal (WX.then_normal ?_))
      refine WC.region ?_
      refine WL.y rfl (Yld.pure tab_ok rfl) ?_
      obtain ⟨h11, H⟩ := H
      refine WL.y rfl (Yld.sub rfl rfl h11) ?_
      refine WL.y rfl (Yld.pure tab_ok rfl) ?_
      refine WL.nil ?_
      exact WX.roundF _ ⟨m2 ++ ([UInt8.ofNat (IntKind.wrap .u8 (shrV .u64 (IntKind.wrap .u64 ((IntKind.wrap .u64 (s.length : Int)) * (8 : Int))) (IntKind.wrap .u64 ((8 : Int) * i)).toNat)).toNat] : List UInt8), A_m6, c_m6, (m2 ++ ([UInt8.ofNat (IntKind.wrap .u8 (shrV .u64 (IntKind.wrap .u64 ((IntKind.wrap .u64 (s.length : Int)) * (8 : Int))) (IntKind.wrap .u64 ((8 : Int) * i)).toNat)).toNat] : List UInt8)).length, i - (1 : Int), rfl, rfl, H.1, rfl, gr13, k37, k38, k39, hO9, dj7, dj8, (Dj.app dj9.symm k33.lt' hk4).symm, dj10, (Dj.app dj11.symm k34.lt' hk4).symm, (Dj.app dj12.symm k35.lt' hk4).symm⟩ (by repeat (first | exact Sub.nil | refine Sub.cons rfl ?_)) H.2
    · replace H := H.2 (of_decide_eq_false b2)
      refine WC.exit (WX.then_exit (WX.then_exit (WX.block_same (WX.then_normal ?_))))
      refine WC.seq ?_
      refine WC.seq ?_
      refine WC.region ?_
      refine WL.y rfl (Yld.pure tab_ok rfl) ?_
      refine WL.nil (WX.then_normal ?_)
      refine WC.block ?_
      obtain ⟨I3, mu3, h0_3, HR3⟩ := H
      refine WC.loopF (fun n' L' w' => ∃ (at_ : Int), ∃ (h : List Int), n' = mu3 at_ h ∧ L' = [(2, .pointer (some ⟨g1, 0, none⟩)), (3, .slice A_k k.length c_k), (4, .slice (some ⟨g2, 0, none⟩) 8 8), (5, .slice A_m5 m2.length c_m5), (8, .int .i64 at_)] ∧ I3 at_ h ∧ 8 = h.length ∧ w.grownBy w' none ∧ Bl w' g1 73 (a32 (List.replicate 32 0 : List UInt8)) ∧ Own vu w' w.heap.size 145 A_k c_k k ∧ Own vu w' w.heap.size 145 (some ⟨g2, 0, none⟩) 8 h ∧ Own vb w' w.heap.size 5 A_m5 c_m5 m2 ∧ Dj (some g1) (blk A_k) ∧ Dj (some g1) (blk (some ⟨g2, 0, none⟩)) ∧ Dj (some g1) (blk A_m5) ∧ Dj (blk A_k) (blk (some ⟨g2, 0, none⟩)) ∧ Dj (blk A_k) (blk A_m5) ∧ Dj (blk (some ⟨g2, 0, none⟩)) (blk A_m5)) _ _ ⟨(0 : Int), ([(1779033703 : Int), (3144134277 : Int), (1013904242 : Int), (2773480762 : Int), (1359893119 : Int), (2600822924 : Int), (528734635 : Int), (1541459225 : Int)] : List Int), rfl, rfl, h0_3, rfl, gr11, k29, k30, k31, k32, dj7, dj8, dj9, dj10, dj11, dj12⟩ (by repeat (first | exact Sub.nil | refine Sub.cons rfl ?_)) ?_
      clear h0_3
      rintro _ _ w14 ⟨at_, h, rfl, rfl, hI3, hn_h, gr14, k40, k41, k42, k43, dj13, dj14, dj15, dj16, dj17, dj18⟩
      have H := HR3 at_ h hI3
      replace H := H hn_h
      refine WC.seq ?_
      refine WC.seq ?_
      refine WC.region ?_
      refine WL.y rfl (Yld.pure tab_ok rfl) ?_
      refine WL.y rfl (Yld.pure tab_ok rfl) ?_
      refine WL.y rfl (Yld.pure tab_ok rfl) ?_
      refine WL.y rfl (Yld.pure tab_ok rfl) ?_
      refine WL.nil (WX.then_normal ?_)
      refine WC.cond rfl (fun b3 => ?_) (fun b3 => ?_)
      · replace H := H.1 (of_decide_eq_true b3)
        refine WC.skip (WX.then_normal ?_)
        refine WC.seq ?_
        refine WC.block ?_
        refine WC.seq ?_
        refine WC.region ?_
        obtain ⟨h12, H⟩ := H
        refine WL.makeZI (f := vu) (z := 0) (B := w.heap.size) tab_ok rfl rfl zero145 rfl rfl h12.1 h12.2.1 h12.2.2 (size_le gr14) (fun g7 w15 hO10 hg12 hl7 => ?_)
        have gr15 := gr_trans gr14 hg12
        have k44 := k40.g0 hg12
        have k45 := k41.grown hg12
        have k46 := k42.grown hg12
        have k47 := k43.grown hg12
        refine WL.y rfl (Yld.pure tab_ok rfl) ?_
        refine WL.nil (WX.then_normal ?_)
        refine WC.seq ?_
        refine WC.seq ?_
        refine WC.region ?_
        refine WL.y rfl (Yld.pure tab_ok rfl) ?_
        refine WL.nil (WX.then_normal ?_)
        refine WC.block ?_
        obtain ⟨I4, mu4, h0_4, HR4⟩ := H
        refine WC.loopF (fun n' L' w' => ∃ (i2 : Int), ∃ (w_ : List Int), n' = mu4 i2 w_ ∧ L' = [(2, .pointer (some ⟨g1, 0, none⟩)), (3, .slice A_k k.length c_k), (4, .slice (some ⟨g2, 0, none⟩) 8 8), (5, .slice A_m5 m2.length c_m5), (8, .int .i64 at_), (9, .slice (some ⟨g7, 0, none⟩) 64 64), (10, .int .i64 i2)] ∧ I4 i2 w_ ∧ 64 = w_.length ∧ w.grownBy w' none ∧ Bl w' g1 73 (a32 (List.replicate 32 0 : List UInt8)) ∧ Own vu w' w.heap.size 145 A_k c_k k ∧ Own vu w' w.heap.size 145 (some ⟨g2, 0, none⟩) 8 h ∧ Own vb w' w.heap.size 5 A_m5 c_m5 m2 ∧ Own vu w' w.heap.size 145 (some ⟨g7, 0, none⟩) 64 w_ ∧ Dj (some g1) (blk A_k) ∧ Dj (some g1) (blk (some ⟨g2, 0, none⟩)) ∧ Dj (some g1) (blk A_m5) ∧ Dj (some g1) (blk (some ⟨g7, 0, none⟩)) ∧ Dj (blk A_k) (blk (some ⟨g2, 0, none⟩)) ∧ Dj (blk A_k) (blk A_m5) ∧ Dj (blk A_k) (blk (some ⟨g7, 0, none⟩)) ∧ Dj (blk (some ⟨g2, 0, none⟩)) (blk A_m5) ∧ Dj (blk (some ⟨g2, 0, none⟩)) (blk (some ⟨g7, 0, none⟩)) ∧ Dj (blk A_m5) (blk (some ⟨g7, 0, none⟩))) _ _ ⟨(0 : Int), (List.replicate 64 0), rfl, rfl, h0_4, (List.length_replicate).symm, gr15, k44, k45, k46, k47, hO10, dj13, dj14, dj15, (Dj.new k40.lt' (Ge.box hl7)), dj16, dj17, (Dj.new k41.lt' (Ge.box hl7)), dj18, (Dj.new k42.lt' (Ge.box hl7)), (Dj.new k43.lt' (Ge.box hl7))⟩ (by repeat (first | exact Sub.nil | refine Sub.cons rfl ?_)) ?_
        clear h0_4
        rintro _ _ w16 ⟨i2, w_, rfl, rfl, hI4, hn_w_, gr16, k48, k49, k50, k51, k52, dj19, dj20, dj21, dj22, dj23, dj24, dj25, dj26, dj27, dj28⟩
        have H := HR4 i2 w_ hI4
        replace H := H hn_w_
        refine WC.seq ?_
        refine WC.seq ?_
        refine WC.region ?_
        refine WL.y rfl (Yld.pure tab_ok rfl) ?_
        refine WL.y rfl (Yld.pure tab_ok rfl) ?_
        refine WL.nil (WX.then_normal ?_)
        refine WC.cond rfl (fun b4 => ?_) (fun b4 => ?_)
        · replace H := H.1 (of_decide_eq_true b4)
          refine WC.skip (WX.then_normal ?_)
          refine WC.seq ?_
          refine WC.block ?_
          refine WC.chainF (fun k => !(Nat.beq k 44)) (LD [8, 18, 29, 40] (fun w' => Rd vb w' A_m5 c_m5 m2)) mixed (by kernel_rfl) (fun k w' h _ => (rd_eqv h k51.rd)) ?_
          refine WJ.y rfl rfl (fun w' hw' => Yld.pure tab_ok rfl) ?_
          refine WJ.y rfl rfl (fun w' hw' => Yld.pure tab_ok rfl) ?_
          refine WJ.y rfl rfl (fun w' hw' => Yld.pure tab_ok rfl) ?_
          refine WJ.y rfl rfl (fun w' hw' => Yld.pure tab_ok rfl) ?_
          refine WJ.y rfl rfl (fun w' hw' => Yld.pure tab_ok rfl) ?_
          obtain ⟨h13, H⟩ := H
          refine WJ.y rfl rfl (fun w' hw' => Yld.mul rfl rfl h13) ?_
          obtain ⟨h14, H⟩ := H
          refine WJ.y rfl rfl (fun w' hw' => Yld.add rfl rfl h14) ?_
          obtain ⟨h15, H⟩ := H
          refine WJ.y rfl rfl (fun w' hw' => Yld.iaddrW tab_ok k51.rd rfl rfl rfl rfl h15.1 h15.2) ?_
          refine WJ.y rfl rfl (fun w' hw' => Yld.iload 0 tab_ok (hw' rfl) rfl rfl (iltN h15 rfl)) ?_
          refine WJ.y rfl rfl (fun w' hw' => Yld.convB tab_ok rfl rfl rfl rfl) ?_
          refine WJ.y rfl rfl (fun w' hw' => Yld.shl rfl rfl (by omega)) ?_
          refine WJ.y rfl rfl (fun w' hw' => Yld.pure tab_ok rfl) ?_
          refine WJ.y rfl rfl (fun w' hw' => Yld.pure tab_ok rfl) ?_
          refine WJ.y rfl rfl (fun w' hw' => Yld.pure tab_ok rfl) ?_
          obtain ⟨h16, H⟩ := H
          refine WJ.y rfl rfl (fun w' hw' => Yld.mul rfl rfl h16) ?_
          obtain ⟨h17, H⟩ := H
          refine WJ.y rfl rfl (fun w' hw' => Yld.add rfl rfl h17) ?_
          obtain ⟨h18, H⟩ := H
          refine WJ.y rfl rfl (fun w' hw' => Yld.add rfl rfl h18) ?_
          obtain ⟨h19, H⟩ := H
          refine WJ.y rfl rfl (fun w' hw' => Yld.iaddrW tab_ok k51.rd rfl rfl rfl rfl h19.1 h19.2) ?_
          refine WJ.y rfl rfl (fun w' hw' => Yld.iload 0 tab_ok (hw' rfl) rfl rfl (iltN h19 rfl)) ?_
          refine WJ.y rfl rfl (fun w' hw' => Yld.convB tab_ok rfl rfl rfl rfl) ?_
          refine WJ.y rfl rfl (fun w' hw' => Yld.shl rfl rfl (by omega)) ?_
          refine WJ.y rfl rfl (fun w' hw' => Yld.pure tab_ok rfl) ?_
          refine WJ.y rfl rfl (fun w' hw' => Yld.pure tab_ok rfl) ?_
          refine WJ.y rfl rfl (fun w' hw' => Yld.pure tab_ok rfl) ?_
          refine WJ.y rfl rfl (fun w' hw' => Yld.pure tab_ok rfl) ?_
          obtain ⟨h20, H⟩ := H
          refine WJ.y rfl rfl (fun w' hw' => Yld.mul rfl rfl h20) ?_
          obtain ⟨h21, H⟩ := H
          refine WJ.y rfl rfl (fun w' hw' => Yld.add rfl rfl h21) ?_
          obtain ⟨h22, H⟩ := H
          refine WJ.y rfl rfl (fun w' hw' => Yld.add rfl rfl h22) ?_
          obtain ⟨h23, H⟩ := H
          refine WJ.y rfl rfl (fun w' hw' => Yld.iaddrW tab_ok k51.rd rfl rfl rfl rfl h23.1 h23.2) ?_
          refine WJ.y rfl rfl (fun w' hw' => Yld.iload 0 tab_ok (hw' rfl) rfl rfl (iltN h23 rfl)) ?_
          refine WJ.y rfl rfl (fun w' hw' => Yld.convB tab_ok rfl rfl rfl rfl) ?_
          refine WJ.y rfl rfl (fun w' hw' => Yld.shl rfl rfl (by omega)) ?_
          refine WJ.y rfl rfl (fun w' hw' => Yld.pure tab_ok rfl) ?_
          refine WJ.y rfl rfl (fun w' hw' => Yld.pure tab_ok rfl) ?_
          refine WJ.y rfl rfl (fun w' hw' => Yld.pure tab_ok rfl) ?_
          refine WJ.y rfl rfl (fun w' hw' => Yld.pure tab_ok rfl) ?_
          obtain ⟨h24, H⟩ := H
          refine WJ.y rfl rfl (fun w' hw' => Yld.mul rfl rfl h24) ?_
          obtain ⟨h25, H⟩ := H
          refine WJ.y rfl rfl (fun w' hw' => Yld.add rfl rfl h25) ?_
          obtain ⟨h26, H⟩ := H
          refine WJ.y rfl rfl (fun w' hw' => Yld.add rfl rfl h26) ?_
          obtain ⟨h27, H⟩ := H
          refine WJ.y rfl rfl (fun w' hw' => Yld.iaddrW tab_ok k51.rd rfl rfl rfl rfl h27.1 h27.2) ?_
          refine WJ.y rfl rfl (fun w' hw' => Yld.iload 0 tab_ok (hw' rfl) rfl rfl (iltN h27 rfl)) ?_
          refine WJ.y rfl rfl (fun w' hw' => Yld.convB tab_ok rfl rfl rfl rfl) ?_
          refine WJ.y rfl rfl (fun w' hw' => Yld.pure tab_ok rfl) ?_
          obtain ⟨h28, H⟩ := H
          refine WJ.y rfl rfl (fun w' hw' => Yld.iaddrW tab_ok k52.rd rfl rfl hn_w_ rfl h28.1 h28.2) ?_
          refine WJ.eff rfl (Ef0.ostore (v := bits .or .u32 (bits .or .u32 (bits .or .u32 (shlV .u32 ((m2.getD ((at_ + ((4 : Int) * i2)).toNat) 0).toNat : Int) 24) (shlV .u32 ((m2.getD (((at_ + ((4 : Int) * i2)) + (1 : Int)).toNat) 0).toNat : Int) 16)) (shlV .u32 ((m2.getD (((at_ + ((4 : Int) * i2)) + (2 : Int)).toNat) 0).toNat : Int) 8)) ((m2.getD (((at_ + ((4 : Int) * i2)) + (3 : Int)).toNat) 0).toNat : Int)) one145 One.u k52 rfl rfl (iltN h28 hn_w_)) (fun w' h => DD.keep (Rd.go k51.rd (gr_eqv h.2 (Eqv.refl _)) (Dn.of dj28))) ?_
          rintro w17 ⟨hO11, hg13⟩
          have gr17 := gr_mod gr16 hg13 k52.ge'
          have k53 := k48.go hg13 dj22
          have k54 := k49.go hg13 dj25
          have k55 := k50.go hg13 dj27
          have k56 := k51.go hg13 dj28
          refine WJ.nil (WX.block_normal (WX.then_normal ?_))
          refine WC.region ?_
          refine WL.y rfl (Yld.pure tab_ok rfl) ?_
          obtain ⟨h29, H⟩ := H
          refine WL.y rfl (Yld.add rfl rfl h29) ?_
          refine WL.y rfl (Yld.pure tab_ok rfl) ?_
          refine WL.nil ?_
          exact WX.roundF _ ⟨i2 + (1 : Int), w_.set i2.toNat (bits .or .u32 (bits .or .u32 (bits .or .u32 (shlV .u32 ((m2.getD ((at_ + ((4 : Int) * i2)).toNat) 0).toNat : Int) 24) (shlV .u32 ((m2.getD (((at_ + ((4 : Int) * i2)) + (1 : Int)).toNat) 0).toNat : Int) 16)) (shlV .u32 ((m2.getD (((at_ + ((4 : Int) * i2)) + (2 : Int)).toNat) 0).toNat : Int) 8)) ((m2.getD (((at_ + ((4 : Int) * i2)) + (3 : Int)).toNat) 0).toNat : Int)), rfl, rfl, H.1, (hn_w_.trans List.length_set.symm), gr17, k53, k54, k55, k56, hO11, dj19, dj20, dj21, dj22, dj23, dj24, dj25, dj26, dj27, dj28⟩ (by repeat (first | exact Sub.nil | refine Sub.cons rfl ?_)) H.2
        · replace H := H.2 (of_decide_eq_false b4)
          refine WC.exit (WX.then_exit (WX.then_exit (WX.block_same (WX.then_normal ?_))))
          refine WC.seq ?_
          refine WC.seq ?_
          refine WC.region ?_
          refine WL.y rfl (Yld.pure tab_ok rfl) ?_
          refine WL.nil (WX.then_normal ?_)
          refine WC.block ?_
          obtain ⟨I5, mu5, h0_5, HR5⟩ := H
          refine WC.loopF (fun n' L' w' => ∃ (i3 : Int), ∃ (w_2 : List Int), n' = mu5 i3 w_2 ∧ L' = [(2, .pointer (some ⟨g1, 0, none⟩)), (3, .slice A_k k.length c_k), (4, .slice (some ⟨g2, 0, none⟩) 8 8), (5, .slice A_m5 m2.length c_m5), (8, .int .i64 at_), (9, .slice (some ⟨g7, 0, none⟩) 64 64), (11, .int .i64 i3)] ∧ I5 i3 w_2 ∧ 64 = w_2.length ∧ w.grownBy w' none ∧ Bl w' g1 73 (a32 (List.replicate 32 0 : List UInt8)) ∧ Own vu w' w.heap.size 145 A_k c_k k ∧ Own vu w' w.heap.size 145 (some ⟨g2, 0, none⟩) 8 h ∧ Own vb w' w.heap.size 5 A_m5 c_m5 m2 ∧ Own vu w' w.heap.size 145 (some ⟨g7, 0, none⟩) 64 w_2 ∧ Dj (some g1) (blk A_k) ∧ Dj (some g1) (blk (some ⟨g2, 0, none⟩)) ∧ Dj (some g1) (blk A_m5) ∧ Dj (some g1) (blk (some ⟨g7, 0, none⟩)) ∧ Dj (blk A_k) (blk (some ⟨g2, 0, none⟩)) ∧ Dj (blk A_k) (blk A_m5) ∧ Dj (blk A_k) (blk (some ⟨g7, 0, none⟩)) ∧ Dj (blk (some ⟨g2, 0, none⟩)) (blk A_m5) ∧ Dj (blk (some ⟨g2, 0, none⟩)) (blk (some ⟨g7, 0, none⟩)) ∧ Dj (blk A_m5) (blk (some ⟨g7, 0, none⟩))) _ _ ⟨(16 : Int), w_, rfl, rfl, h0_5, hn_w_, gr16, k48, k49, k50, k51, k52, dj19, dj20, dj21, dj22, dj23, dj24, dj25, dj26, dj27, dj28⟩ (by repeat (first | exact Sub.nil | refine Sub.cons rfl ?_)) ?_
          clear h0_5
          rintro _ _ w18 ⟨i3, w_2, rfl, rfl, hI5, hn_w_2, gr18, k57, k58, k59, k60, k61, dj29, dj30, dj31, dj32, dj33, dj34, dj35, dj36, dj37, dj38⟩
          have H := HR5 i3 w_2 hI5
          replace H := H hn_w_2
          refine WC.seq ?_
          refine WC.seq ?_
          refine WC.region ?_
          refine WL.y rfl (Yld.pure tab_ok rfl) ?_
          refine WL.y rfl (Yld.pure tab_ok rfl) ?_
          refine WL.nil (WX.then_normal ?_)
          refine WC.cond rfl (fun b5 => ?_) (fun b5 => ?_)
          · replace H := H.1 (of_decide_eq_true b5)
            refine WC.skip (WX.then_normal ?_)
            refine WC.seq ?_
            refine WC.block ?_
            refine WC.seq ?_
            refine WC.chainF (fun k => !(Nat.beq k 5 || Nat.beq k 11)) (LD [4, 10, 17] (fun w' => Rd vu w' (some ⟨g7, 0, none⟩) 64 w_2)) mixed (by kernel_rfl) (fun k w' h _ => (rd_eqv h k61.rd)) ?_
            refine WJ.y rfl rfl (fun w' hw' => Yld.pure tab_ok rfl) ?_
            refine WJ.y rfl rfl (fun w' hw' => Yld.pure tab_ok rfl) ?_
            obtain ⟨h30, H⟩ := H
            refine WJ.y rfl rfl (fun w' hw' => Yld.sub rfl rfl h30) ?_
            obtain ⟨h31, H⟩ := H
            refine WJ.y rfl rfl (fun w' hw' => Yld.iaddrW tab_ok k61.rd rfl rfl hn_w_2 rfl h31.1 h31.2) ?_
            refine WJ.y rfl rfl (fun w' hw' => Yld.iload 0 tab_ok (hw' rfl) rfl rfl (iltN h31 hn_w_2)) ?_
            refine WJ.call rfl (wants_none) rfl rfl (W_smithyref1_turn H) (fun v w' h w2 e => DD.keep (rd_eqv (eqvL h.1 e) k61.rd)) ?_
            rintro _ _ ⟨rfl, t124, rfl, H⟩
            refine WJ.y rfl rfl (fun w' hw' => Yld.pure tab_ok rfl) ?_
            refine WJ.y rfl rfl (fun w' hw' => Yld.pure tab_ok rfl) ?_
            obtain ⟨h32, H⟩ := H
            refine WJ.y rfl rfl (fun w' hw' => Yld.sub rfl rfl h32) ?_
            obtain ⟨h33, H⟩ := H
            refine WJ.y rfl rfl (fun w' hw' => Yld.iaddrW tab_ok k61.rd rfl rfl hn_w_2 rfl h33.1 h33.2) ?_
            refine WJ.y rfl rfl (fun w' hw' => Yld.iload 0 tab_ok (hw' rfl) rfl rfl (iltN h33 hn_w_2)) ?_
            refine WJ.call rfl (wants_none) rfl rfl (W_smithyref1_turn H) (fun v w' h w2 e => DD.keep (rd_eqv (eqvL h.1 e) k61.rd)) ?_
            rintro _ _ ⟨rfl, t130, rfl, H⟩
            refine WJ.y rfl rfl (fun w' hw' => Yld.pure tab_ok rfl) ?_
            refine WJ.y rfl rfl (fun w' hw' => Yld.pure tab_ok rfl) ?_
            refine WJ.y rfl rfl (fun w' hw' => Yld.pure tab_ok rfl) ?_
            obtain ⟨h34, H⟩ := H
            refine WJ.y rfl rfl (fun w' hw' => Yld.sub rfl rfl h34) ?_
            obtain ⟨h35, H⟩ := H
            refine WJ.y rfl rfl (fun w' hw' => Yld.iaddrW tab_ok k61.rd rfl rfl hn_w_2 rfl h35.1 h35.2) ?_
            refine WJ.y rfl rfl (fun w' hw' => Yld.iload 0 tab_ok (hw' rfl) rfl rfl (iltN h35 hn_w_2)) ?_
            refine WJ.y rfl rfl (fun w' hw' => Yld.shr rfl rfl (by omega)) ?_
            refine WJ.y rfl rfl (fun w' hw' => Yld.pure tab_ok rfl) ?_
            refine WJ.y rfl rfl (fun w' hw' => Yld.pure tab_ok rfl) ?_
            refine WJ.nil (WX.then_normal ?_)
            refine WC.seq ?_
            refine WC.chainF (fun k => !(Nat.beq k 5 || Nat.beq k 11)) (LD [4, 10, 17] (fun w' => Rd vu w' (some ⟨g7, 0, none⟩) 64 w_2)) mixed (by kernel_rfl) (fun k w' h _ => (rd_eqv h k61.rd)) ?_
            refine WJ.y rfl rfl (fun w' hw' => Yld.pure tab_ok rfl) ?_
            refine WJ.y rfl rfl (fun w' hw' => Yld.pure tab_ok rfl) ?_
            obtain ⟨h36, H⟩ := H
            refine WJ.y rfl rfl (fun w' hw' => Yld.sub rfl rfl h36) ?_
            obtain ⟨h37, H⟩ := H
            refine WJ.y rfl rfl (fun w' hw' => Yld.iaddrW tab_ok k61.rd rfl rfl hn_w_2 rfl h37.1 h37.2) ?_
            refine WJ.y rfl rfl (fun w' hw' => Yld.iload 0 tab_ok (hw' rfl) rfl rfl (iltN h37 hn_w_2)) ?_
            refine WJ.call rfl (wants_none) rfl rfl (W_smithyref1_turn H) (fun v w' h w2 e => DD.keep (rd_eqv (eqvL h.1 e) k61.rd)) ?_
            rintro _ _ ⟨rfl, t144, rfl, H⟩
            refine WJ.y rfl rfl (fun w' hw' => Yld.pure tab_ok rfl) ?_
            refine WJ.y rfl rfl (fun w' hw' => Yld.pure tab_ok rfl) ?_
            obtain ⟨h38, H⟩ := H
            refine WJ.y rfl rfl (fun w' hw' => Yld.sub rfl rfl h38) ?_
            obtain ⟨h39, H⟩ := H
            refine WJ.y rfl rfl (fun w' hw' => Yld.iaddrW tab_ok k61.rd rfl rfl hn_w_2 rfl h39.1 h39.2) ?_
            refine WJ.y rfl rfl (fun w' hw' => Yld.iload 0 tab_ok (hw' rfl) rfl rfl (iltN h39 hn_w_2)) ?_
            refine WJ.call rfl (wants_none) rfl rfl (W_smithyref1_turn H) (fun v w' h w2 e => DD.keep (rd_eqv (eqvL h.1 e) k61.rd)) ?_
            rintro _ _ ⟨rfl, t150, rfl, H⟩
            refine WJ.y rfl rfl (fun w' hw' => Yld.pure tab_ok rfl) ?_
            refine WJ.y rfl rfl (fun w' hw' => Yld.pure tab_ok rfl) ?_
            refine WJ.y rfl rfl (fun w' hw' => Yld.pure tab_ok rfl) ?_
            obtain ⟨h40, H⟩ := H
            refine WJ.y rfl rfl (fun w' hw' => Yld.sub rfl rfl h40) ?_
            obtain ⟨h41, H⟩ := H
            refine WJ.y rfl rfl (fun w' hw' => Yld.iaddrW tab_ok k61.rd rfl rfl hn_w_2 rfl h41.1 h41.2) ?_
            refine WJ.y rfl rfl (fun w' hw' => Yld.iload 0 tab_ok (hw' rfl) rfl rfl (iltN h41 hn_w_2)) ?_
            refine WJ.y rfl rfl (fun w' hw' => Yld.shr rfl rfl (by omega)) ?_
            refine WJ.y rfl rfl (fun w' hw' => Yld.pure tab_ok rfl) ?_
            refine WJ.y rfl rfl (fun w' hw' => Yld.pure tab_ok rfl) ?_
            refine WJ.nil (WX.then_normal ?_)
            refine WC.chainF (fun k => !(Nat.beq k 18)) (LD [6, 13] (fun w' => Rd vu w' (some ⟨g7, 0, none⟩) 64 w_2)) mixed (by kernel_rfl) (fun k w' h _ => (rd_eqv h k61.rd)) ?_
            refine WJ.y rfl rfl (fun w' hw' => Yld.pure tab_ok rfl) ?_
            refine WJ.y rfl rfl (fun w' hw' => Yld.pure tab_ok rfl) ?_
            refine WJ.y rfl rfl (fun w' hw' => Yld.pure tab_ok rfl) ?_
            refine WJ.y rfl rfl (fun w' hw' => Yld.pure tab_ok rfl) ?_
            obtain ⟨h42, H⟩ := H
            refine WJ.y rfl rfl (fun w' hw' => Yld.sub rfl rfl h42) ?_
            obtain ⟨h43, H⟩ := H
            refine WJ.y rfl rfl (fun w' hw' => Yld.iaddrW tab_ok k61.rd rfl rfl hn_w_2 rfl h43.1 h43.2) ?_
            refine WJ.y rfl rfl (fun w' hw' => Yld.iload 0 tab_ok (hw' rfl) rfl rfl (iltN h43 hn_w_2)) ?_
            refine WJ.y rfl rfl (fun w' hw' => Yld.pure tab_ok rfl) ?_
            refine WJ.y rfl rfl (fun w' hw' => Yld.pure tab_ok rfl) ?_
            refine WJ.y rfl rfl (fun w' hw' => Yld.pure tab_ok rfl) ?_
            refine WJ.y rfl rfl (fun w' hw' => Yld.pure tab_ok rfl) ?_
            obtain ⟨h44, H⟩ := H
            refine WJ.y rfl rfl (fun w' hw' => Yld.sub rfl rfl h44) ?_
            obtain ⟨h45, H⟩ := H
            refine WJ.y rfl rfl (fun w' hw' => Yld.iaddrW tab_ok k61.rd rfl rfl hn_w_2 rfl h45.1 h45.2) ?_
            refine WJ.y rfl rfl (fun w' hw' => Yld.iload 0 tab_ok (hw' rfl) rfl rfl (iltN h45 hn_w_2)) ?_
            refine WJ.y rfl rfl (fun w' hw' => Yld.pure tab_ok rfl) ?_
            refine WJ.y rfl rfl (fun w' hw' => Yld.pure tab_ok rfl) ?_
            refine WJ.y rfl rfl (fun w' hw' => Yld.pure tab_ok rfl) ?_
            obtain ⟨h46, H⟩ := H
            refine WJ.y rfl rfl (fun w' hw' => Yld.iaddrW tab_ok k61.rd rfl rfl hn_w_2 rfl h46.1 h46.2) ?_
            refine WJ.eff rfl (Ef0.ostore (v := IntKind.wrap .u32 ((IntKind.wrap .u32 ((IntKind.wrap .u32 ((w_2.getD ((i3 - (16 : Int)).toNat) 0) + (bits .xor .u32 (bits .xor .u32 t124 t130) (shrV .u32 (w_2.getD ((i3 - (15 : Int)).toNat) 0) 3)))) + (w_2.getD ((i3 - (7 : Int)).toNat) 0))) + (bits .xor .u32 (bits .xor .u32 t144 t150) (shrV .u32 (w_2.getD ((i3 - (2 : Int)).toNat) 0) 10)))) one145 One.u k61 rfl rfl (iltN h46 hn_w_2)) (fun w' h => DD.past (by kernel_rfl)) ?_
            rintro w19 ⟨hO12, hg14⟩
            have gr19 := gr_mod gr18 hg14 k61.ge'
            have k62 := k57.go hg14 dj32
            have k63 := k58.go hg14 dj35
            have k64 := k59.go hg14 dj37
            have k65 := k60.go hg14 dj38
            refine WJ.nil (WX.block_normal (WX.then_normal ?_))
            refine WC.region ?_
            refine WL.y rfl (Yld.pure tab_ok rfl) ?_
            obtain ⟨h47, H⟩ := H
            refine WL.y rfl (Yld.add rfl rfl h47) ?_
            refine WL.y rfl (Yld.pure tab_ok rfl) ?_
            refine WL.nil ?_
            exact WX.roundF _ ⟨i3 + (1 : Int), w_2.set i3.toNat (IntKind.wrap .u32 ((IntKind.wrap .u32 ((IntKind.wrap .u32 ((w_2.getD ((i3 - (16 : Int)).toNat) 0) + (bits .xor .u32 (bits .xor .u32 t124 t130) (shrV .u32 (w_2.getD ((i3 - (15 : Int)).toNat) 0) 3)))) + (w_2.getD ((i3 - (7 : Int)).toNat) 0))) + (bits .xor .u32 (bits .xor .u32 t144 t150) (shrV .u32 (w_2.getD ((i3 - (2 : Int)).toNat) 0) 10)))), rfl, rfl, H.1, (hn_w_2.trans List.length_set.symm), gr19, k62, k63, k64, k65, hO12, dj29, dj30, dj31, dj32, dj33, dj34, dj35, dj36, dj37, dj38⟩ (by repeat (first | exact Sub.nil | refine Sub.cons rfl ?_)) H.2
          · replace H := H.2 (of_decide_eq_false b5)
            refine WC.exit (WX.then_exit (WX.then_exit (WX.block_same (WX.then_normal ?_))))
            refine WC.seq ?_
            refine WC.region ?_
            obtain ⟨h48, H⟩ := H
            refine WL.makeCI (f := vu) (B := w.heap.size) tab_ok rfl rfl rfl rfl h48.1 h48.2.1 h48.2.2 (size_le gr18) (fun g8 w20 hO13 hg15 hl8 => ?_)
            have gr20 := gr_trans gr18 hg15
            have k66 := k57.g0 hg15
            have k67 := k58.grown hg15
            have k68 := k59.grown hg15
            have k69 := k60.grown hg15
            have k70 := k61.grown hg15
            refine WL.y rfl (Yld.pure tab_ok rfl) ?_
            obtain ⟨h49, H⟩ := H
            refine WL.append tab_ok rfl rfl One.u hO13 rfl rfl k68.rd rfl hn_h h49 (applen h49) (size_le gr20) (fun A_v c_v w21 hO14 hg16 hk5 => ?_)
            have gr21 := gr_mod gr20 hg16 hO13.ge'
            have k71 := k66.go hg16 (Dj.new k57.lt' (Ge.box hl8))
            have k72 := k67.go hg16 (Dj.new k58.lt' (Ge.box hl8))
            have k73 := k68.go hg16 (Dj.new k59.lt' (Ge.box hl8))
            have k74 := k69.go hg16 (Dj.new k60.lt' (Ge.box hl8))
            have k75 := k70.go hg16 (Dj.new k61.lt' (Ge.box hl8))
            refine WL.y rfl (Yld.pure tab_ok rfl) ?_
            refine WL.nil (WX.then_normal ?_)
            refine WC.seq ?_
            refine WC.seq ?_
            refine WC.region ?_
            refine WL.y rfl (Yld.pure tab_ok rfl) ?_
            refine WL.nil (WX.then_normal ?_)
            refine WC.block ?_
            obtain ⟨I6, mu6, h0_6, HR6⟩ := H
            refine WC.loopF (fun n' L' w' => ∃ (v : List Int), ∃ (A_v2 : Option Addr), ∃ (c_v2 : Nat), ∃ (n_v : Nat), ∃ (i4 : Int), n' = mu6 v i4 ∧ L' = [(2, .pointer (some ⟨g1, 0, none⟩)), (3, .slice A_k k.length c_k), (4, .slice (some ⟨g2, 0, none⟩) 8 8), (5, .slice A_m5 m2.length c_m5), (8, .int .i64 at_), (9, .slice (some ⟨g7, 0, none⟩) 64 64), (14, .slice A_v2 n_v c_v2), (15, .int .i64 i4)] ∧ I6 v i4 ∧ n_v = v.length ∧ w.grownBy w' none ∧ Bl w' g1 73 (a32 (List.replicate 32 0 : List UInt8)) ∧ Own vu w' w.heap.size 145 A_k c_k k ∧ Own vu w' w.heap.size 145 (some ⟨g2, 0, none⟩) 8 h ∧ Own vb w' w.heap.size 5 A_m5 c_m5 m2 ∧ Own vu w' w.heap.size 145 (some ⟨g7, 0, none⟩) 64 w_2 ∧ Own vu w' w.heap.size 145 A_v2 c_v2 v ∧ Dj (some g1) (blk A_k) ∧ Dj (some g1) (blk (some ⟨g2, 0, none⟩)) ∧ Dj (some g1) (blk A_m5) ∧ Dj (some g1) (blk (some ⟨g7, 0, none⟩)) ∧ Dj (some g1) (blk A_v2) ∧ Dj (blk A_k) (blk (some ⟨g2, 0, none⟩)) ∧ Dj (blk A_k) (blk A_m5) ∧ Dj (blk A_k) (blk (some ⟨g7, 0, none⟩)) ∧ Dj (blk A_k) (blk A_v2) ∧ Dj (blk (some ⟨g2, 0, none⟩)) (blk A_m5) ∧ Dj (blk (some ⟨g2, 0, none⟩)) (blk (some ⟨g7, 0, none⟩)) ∧ Dj (blk (some ⟨g2, 0, none⟩)) (blk A_v2) ∧ Dj (blk A_m5) (blk (some ⟨g7, 0, none⟩)) ∧ Dj (blk A_m5) (blk A_v2) ∧ Dj (blk (some ⟨g7, 0, none⟩)) (blk A_v2)) _ _ ⟨([] : List Int) ++ h, A_v, c_v, (([] : List Int) ++ h).length, (0 : Int), rfl, rfl, h0_6, rfl, gr21, k71, k72, k73, k74, k75, hO14, dj29, dj30, dj31, dj32, (Dj.app (Dj.new k57.lt' (Ge.box hl8)).symm k66.lt' hk5).symm, dj33, dj34, dj35, (Dj.app (Dj.new k58.lt' (Ge.box hl8)).symm k67.lt' hk5).symm, dj36, dj37, (Dj.app (Dj.new k59.lt' (Ge.box hl8)).symm k68.lt' hk5).symm, dj38, (Dj.app (Dj.new k60.lt' (Ge.box hl8)).symm k69.lt' hk5).symm, (Dj.app (Dj.new k61.lt' (Ge.box hl8)).symm k70.lt' hk5).symm⟩ (by repeat (first | exact Sub.nil | refine Sub.cons rfl ?_)) ?_
            clear h0_6
            rintro _ _ w22 ⟨v, A_v2, c_v2, n_v, i4, rfl, rfl, hI6, rfl, gr22, k76, k77, k78, k79, k80, k81, dj39, dj40, dj41, dj42, dj43, dj44, dj45, dj46, dj47, dj48, dj49, dj50, dj51, dj52, dj53⟩
            have H := HR6 v i4 hI6
            refine WC.seq ?_
            refine WC.seq ?_
            refine WC.region ?_
            refine WL.y rfl (Yld.pure tab_ok rfl) ?_
            refine WL.y rfl (Yld.pure tab_ok rfl) ?_
            refine WL.nil (WX.then_normal ?_)
            refine WC.cond rfl (fun b6 => ?_) (fun b6 => ?_)
            · replace H := H.1 (of_decide_eq_true b6)
              refine WC.skip (WX.then_normal ?_)
              refine WC.seq ?_
              refine WC.block ?_
              refine WC.seq ?_
              refine WC.chainF (fun k => !(Nat.beq k 3 || Nat.beq k 7 || Nat.beq k 12)) (LD [2, 6, 11] (fun w' => Rd vu w' A_v2 c_v2 v)) mixed (by kernel_rfl) (fun k w' h _ => (rd_eqv h k81.rd)) ?_
              refine WJ.y rfl rfl (fun w' hw' => Yld.pure tab_ok rfl) ?_
              obtain ⟨h50, H⟩ := H
              refine WJ.y rfl rfl (fun w' hw' => Yld.iaddrW tab_ok k81.rd rfl rfl rfl rfl h50.1 h50.2) ?_
              refine WJ.y rfl rfl (fun w' hw' => Yld.iload 0 tab_ok (hw' rfl) rfl rfl (iltN h50 rfl)) ?_
              refine WJ.call rfl (wants_none) rfl rfl (W_smithyref1_turn H) (fun v w' h w2 e => DD.keep (rd_eqv (eqvL h.1 e) k81.rd)) ?_
              rintro _ _ ⟨rfl, t187, rfl, H⟩
              refine WJ.y rfl rfl (fun w' hw' => Yld.pure tab_ok rfl) ?_
              obtain ⟨h51, H⟩ := H
              refine WJ.y rfl rfl (fun w' hw' => Yld.iaddrW tab_ok k81.rd rfl rfl rfl rfl h51.1 h51.2) ?_
              refine WJ.y rfl rfl (fun w' hw' => Yld.iload 0 tab_ok (hw' rfl) rfl rfl (iltN h51 rfl)) ?_
              refine WJ.call rfl (wants_none) rfl rfl (W_smithyref1_turn H) (fun v w' h w2 e => DD.keep (rd_eqv (eqvL h.1 e) k81.rd)) ?_
              rintro _ _ ⟨rfl, t191, rfl, H⟩
              refine WJ.y rfl rfl (fun w' hw' => Yld.pure tab_ok rfl) ?_
              refine WJ.y rfl rfl (fun w' hw' => Yld.pure tab_ok rfl) ?_
              obtain ⟨h52, H⟩ := H
              refine WJ.y rfl rfl (fun w' hw' => Yld.iaddrW tab_ok k81.rd rfl rfl rfl rfl h52.1 h52.2) ?_
              refine WJ.y rfl rfl (fun w' hw' => Yld.iload 0 tab_ok (hw' rfl) rfl rfl (iltN h52 rfl)) ?_
              refine WJ.call rfl (wants_none) rfl rfl (W_smithyref1_turn H) (fun v w' h w2 e => DD.keep (rd_eqv (eqvL h.1 e) k81.rd)) ?_
              rintro _ _ ⟨rfl, t196, rfl, H⟩
              refine WJ.y rfl rfl (fun w' hw' => Yld.pure tab_ok rfl) ?_
              refine WJ.y rfl rfl (fun w' hw' => Yld.pure tab_ok rfl) ?_
              refine WJ.nil (WX.then_normal ?_)
              refine WC.seq ?_
              refine WC.quiet mixed (by kernel_rfl) ?_
              refine WQ.y rfl (Yld.pure tab_ok rfl) ?_
              obtain ⟨h53, H⟩ := H
              refine WQ.y rfl (Yld.iaddrW tab_ok k81.rd rfl rfl rfl rfl h53.1 h53.2) ?_
              refine WQ.y rfl (Yld.iload 0 tab_ok k81.rd rfl rfl (iltN h53 rfl)) ?_
              refine WQ.y rfl (Yld.pure tab_ok rfl) ?_
              obtain ⟨h54, H⟩ := H
              refine WQ.y rfl (Yld.iaddrW tab_ok k81.rd rfl rfl rfl rfl h54.1 h54.2) ?_
              refine WQ.y rfl (Yld.iload 0 tab_ok k81.rd rfl rfl (iltN h54 rfl)) ?_
              refine WQ.y rfl (Yld.pure tab_ok rfl) ?_
              refine WQ.y rfl (Yld.pure tab_ok rfl) ?_
              obtain ⟨h55, H⟩ := H
              refine WQ.y rfl (Yld.iaddrW tab_ok k81.rd rfl rfl rfl rfl h55.1 h55.2) ?_
              refine WQ.y rfl (Yld.iload 0 tab_ok k81.rd rfl rfl (iltN h55 rfl)) ?_
              refine WQ.y rfl (Yld.pure tab_ok rfl) ?_
              refine WQ.y rfl (Yld.pure tab_ok rfl) ?_
              obtain ⟨h56, H⟩ := H
              refine WQ.y rfl (Yld.iaddrW tab_ok k81.rd rfl rfl rfl rfl h56.1 h56.2) ?_
              refine WQ.y rfl (Yld.iload 0 tab_ok k81.rd rfl rfl (iltN h56 rfl)) ?_
              refine WQ.y rfl (Yld.pure tab_ok rfl) ?_
              refine WQ.y rfl (Yld.pure tab_ok rfl) ?_
              refine WQ.y rfl (Yld.pure tab_ok rfl) ?_
              refine WQ.nil (WX.then_normal ?_)
              refine WC.seq ?_
              refine WC.quiet mixed (by kernel_rfl) ?_
              refine WQ.y rfl (Yld.pure tab_ok rfl) ?_
              obtain ⟨h57, H⟩ := H
              refine WQ.y rfl (Yld.iaddrW tab_ok k81.rd rfl rfl rfl rfl h57.1 h57.2) ?_
              refine WQ.y rfl (Yld.iload 0 tab_ok k81.rd rfl rfl (iltN h57 rfl)) ?_
              refine WQ.y rfl (Yld.pure tab_ok rfl) ?_
              refine WQ.y rfl (Yld.pure tab_ok rfl) ?_
              refine WQ.y rfl (Yld.pure tab_ok rfl) ?_
              refine WQ.y rfl (Yld.pure tab_ok rfl) ?_
              refine WQ.y rfl (Yld.pure tab_ok rfl) ?_
              refine WQ.y rfl (Yld.pure tab_ok rfl) ?_
              obtain ⟨h58, H⟩ := H
              refine WQ.y rfl (Yld.iaddrW tab_ok k77.rd rfl rfl rfl rfl h58.1 h58.2) ?_
              refine WQ.y rfl (Yld.iload 0 tab_ok k77.rd rfl rfl (iltN h58 rfl)) ?_
              refine WQ.y rfl (Yld.pure tab_ok rfl) ?_
              refine WQ.y rfl (Yld.pure tab_ok rfl) ?_
              refine WQ.y rfl (Yld.pure tab_ok rfl) ?_
              obtain ⟨h59, H⟩ := H
              refine WQ.y rfl (Yld.iaddrW tab_ok k80.rd rfl rfl hn_w_2 rfl h59.1 h59.2) ?_
              refine WQ.y rfl (Yld.iload 0 tab_ok k80.rd rfl rfl (iltN h59 hn_w_2)) ?_
              refine WQ.y rfl (Yld.pure tab_ok rfl) ?_
              refine WQ.y rfl (Yld.pure tab_ok rfl) ?_
              refine WQ.nil (WX.then_normal ?_)
              refine WC.seq ?_
              refine WC.chainF (fun k => !(Nat.beq k 3 || Nat.beq k 7 || Nat.beq k 12)) (LD [2, 6, 11] (fun w' => Rd vu w' A_v2 c_v2 v)) mixed (by kernel_rfl) (fun k w' h _ => (rd_eqv h k81.rd)) ?_
              refine WJ.y rfl rfl (fun w' hw' => Yld.pure tab_ok rfl) ?_
              obtain ⟨h60, H⟩ := H
              refine WJ.y rfl rfl (fun w' hw' => Yld.iaddrW tab_ok k81.rd rfl rfl rfl rfl h60.1 h60.2) ?_
              refine WJ.y rfl rfl (fun w' hw' => Yld.iload 0 tab_ok (hw' rfl) rfl rfl (iltN h60 rfl)) ?_
              refine WJ.call rfl (wants_none) rfl rfl (W_smithyref1_turn H) (fun v w' h w2 e => DD.keep (rd_eqv (eqvL h.1 e) k81.rd)) ?_
              rintro _ _ ⟨rfl, t234, rfl, H⟩
              refine WJ.y rfl rfl (fun w' hw' => Yld.pure tab_ok rfl) ?_
              obtain ⟨h61, H⟩ := H
              refine WJ.y rfl rfl (fun w' hw' => Yld.iaddrW tab_ok k81.rd rfl rfl rfl rfl h61.1 h61.2) ?_
              refine WJ.y rfl rfl (fun w' hw' => Yld.iload 0 tab_ok (hw' rfl) rfl rfl (iltN h61 rfl)) ?_
              refine WJ.call rfl (wants_none) rfl rfl (W_smithyref1_turn H) (fun v w' h w2 e => DD.keep (rd_eqv (eqvL h.1 e) k81.rd)) ?_
              rintro _ _ ⟨rfl, t238, rfl, H⟩
              refine WJ.y rfl rfl (fun w' hw' => Yld.pure tab_ok rfl) ?_
              refine WJ.y rfl rfl (fun w' hw' => Yld.pure tab_ok rfl) ?_
              obtain ⟨h62, H⟩ := H
              refine WJ.y rfl rfl (fun w' hw' => Yld.iaddrW tab_ok k81.rd rfl rfl rfl rfl h62.1 h62.2) ?_
              refine WJ.y rfl rfl (fun w' hw' => Yld.iload 0 tab_ok (hw' rfl) rfl rfl (iltN h62 rfl)) ?_
              refine WJ.call rfl (wants_none) rfl rfl (W_smithyref1_turn H) (fun v w' h w2 e => DD.keep (rd_eqv (eqvL h.1 e) k81.rd)) ?_
              rintro _ _ ⟨rfl, t243, rfl, H⟩
              refine WJ.y rfl rfl (fun w' hw' => Yld.pure tab_ok rfl) ?_
              refine WJ.y rfl rfl (fun w' hw' => Yld.pure tab_ok rfl) ?_
              refine WJ.nil (WX.then_normal ?_)
              refine WC.seq ?_
              refine WC.quiet mixed (by kernel_rfl) ?_
              refine WQ.y rfl (Yld.pure tab_ok rfl) ?_
              obtain ⟨h63, H⟩ := H
              refine WQ.y rfl (Yld.iaddrW tab_ok k81.rd rfl rfl rfl rfl h63.1 h63.2) ?_
              refine WQ.y rfl (Yld.iload 0 tab_ok k81.rd rfl rfl (iltN h63 rfl)) ?_
              refine WQ.y rfl (Yld.pure tab_ok rfl) ?_
              obtain ⟨h64, H⟩ := H
              refine WQ.y rfl (Yld.iaddrW tab_ok k81.rd rfl rfl rfl rfl h64.1 h64.2) ?_
              refine WQ.y rfl (Yld.iload 0 tab_ok k81.rd rfl rfl (iltN h64 rfl)) ?_
              refine WQ.y rfl (Yld.pure tab_ok rfl) ?_
              refine WQ.y rfl (Yld.pure tab_ok rfl) ?_
              obtain ⟨h65, H⟩ := H
              refine WQ.y rfl (Yld.iaddrW tab_ok k81.rd rfl rfl rfl rfl h65.1 h65.2) ?_
              refine WQ.y rfl (Yld.iload 0 tab_ok k81.rd rfl rfl (iltN h65 rfl)) ?_
              refine WQ.y rfl (Yld.pure tab_ok rfl) ?_
              obtain ⟨h66, H⟩ := H
              refine WQ.y rfl (Yld.iaddrW tab_ok k81.rd rfl rfl rfl rfl h66.1 h66.2) ?_
              refine WQ.y rfl (Yld.iload 0 tab_ok k81.rd rfl rfl (iltN h66 rfl)) ?_
              refine WQ.y rfl (Yld.pure tab_ok rfl) ?_
              refine WQ.y rfl (Yld.pure tab_ok rfl) ?_
              refine WQ.y rfl (Yld.pure tab_ok rfl) ?_
              obtain ⟨h67, H⟩ := H
              refine WQ.y rfl (Yld.iaddrW tab_ok k81.rd rfl rfl rfl rfl h67.1 h67.2) ?_
              refine WQ.y rfl (Yld.iload 0 tab_ok k81.rd rfl rfl (iltN h67 rfl)) ?_
              refine WQ.y rfl (Yld.pure tab_ok rfl) ?_
              obtain ⟨h68, H⟩ := H
              refine WQ.y rfl (Yld.iaddrW tab_ok k81.rd rfl rfl rfl rfl h68.1 h68.2) ?_
              refine WQ.y rfl (Yld.iload 0 tab_ok k81.rd rfl rfl (iltN h68 rfl)) ?_
              refine WQ.y rfl (Yld.pure tab_ok rfl) ?_
              refine WQ.y rfl (Yld.pure tab_ok rfl) ?_
              refine WQ.y rfl (Yld.pure tab_ok rfl) ?_
              refine WQ.nil (WX.then_normal ?_)
              refine WC.chainF (fun k => !(Nat.beq k 28)) (LD [7, 10, 13, 16, 21, 24, 27] (fun w' => Rd vu w' A_v2 c_v2 v)) mixed (by kernel_rfl) (fun k w' h _ => (rd_eqv h k81.rd)) ?_
              refine WJ.y rfl rfl (fun w' hw' => Yld.pure tab_ok rfl) ?_
              refine WJ.y rfl rfl (fun w' hw' => Yld.pure tab_ok rfl) ?_
              refine WJ.y rfl rfl (fun w' hw' => Yld.pure tab_ok rfl) ?_
              refine WJ.y rfl rfl (fun w' hw' => Yld.pure tab_ok rfl) ?_
              refine WJ.y rfl rfl (fun w' hw' => Yld.pure tab_ok rfl) ?_
              refine WJ.y rfl rfl (fun w' hw' => Yld.pure tab_ok rfl) ?_
              obtain ⟨h69, H⟩ := H
              refine WJ.y rfl rfl (fun w' hw' => Yld.iaddrW tab_ok k81.rd rfl rfl rfl rfl h69.1 h69.2) ?_
              refine WJ.y rfl rfl (fun w' hw' => Yld.iload 0 tab_ok (hw' rfl) rfl rfl (iltN h69 rfl)) ?_
              refine WJ.y rfl rfl (fun w' hw' => Yld.pure tab_ok rfl) ?_
              obtain ⟨h70, H⟩ := H
              refine WJ.y rfl rfl (fun w' hw' => Yld.iaddrW tab_ok k81.rd rfl rfl rfl rfl h70.1 h70.2) ?_
              refine WJ.y rfl rfl (fun w' hw' => Yld.iload 0 tab_ok (hw' rfl) rfl rfl (iltN h70 rfl)) ?_
              refine WJ.y rfl rfl (fun w' hw' => Yld.pure tab_ok rfl) ?_
              obtain ⟨h71, H⟩ := H
              refine WJ.y rfl rfl (fun w' hw' => Yld.iaddrW tab_ok k81.rd rfl rfl rfl rfl h71.1 h71.2) ?_
              refine WJ.y rfl rfl (fun w' hw' => Yld.iload 0 tab_ok (hw' rfl) rfl rfl (iltN h71 rfl)) ?_
              refine WJ.y rfl rfl (fun w' hw' => Yld.pure tab_ok rfl) ?_
              obtain ⟨h72, H⟩ := H
              refine WJ.y rfl rfl (fun w' hw' => Yld.iaddrW tab_ok k81.rd rfl rfl rfl rfl h72.1 h72.2) ?_
              refine WJ.y rfl rfl (fun w' hw' => Yld.iload 0 tab_ok (hw' rfl) rfl rfl (iltN h72 rfl)) ?_
              refine WJ.y rfl rfl (fun w' hw' => Yld.pure tab_ok rfl) ?_
              refine WJ.y rfl rfl (fun w' hw' => Yld.pure tab_ok rfl) ?_
              refine WJ.y rfl rfl (fun w' hw' => Yld.pure tab_ok rfl) ?_
              obtain ⟨h73, H⟩ := H
              refine WJ.y rfl rfl (fun w' hw' => Yld.iaddrW tab_ok k81.rd rfl rfl rfl rfl h73.1 h73.2) ?_
              refine WJ.y rfl rfl (fun w' hw' => Yld.iload 0 tab_ok (hw' rfl) rfl rfl (iltN h73 rfl)) ?_
              refine WJ.y rfl rfl (fun w' hw' => Yld.pure tab_ok rfl) ?_
              obtain ⟨h74, H⟩ := H
              refine WJ.y rfl rfl (fun w' hw' => Yld.iaddrW tab_ok k81.rd rfl rfl rfl rfl h74.1 h74.2) ?_
              refine WJ.y rfl rfl (fun w' hw' => Yld.iload 0 tab_ok (hw' rfl) rfl rfl (iltN h74 rfl)) ?_
              refine WJ.y rfl rfl (fun w' hw' => Yld.pure tab_ok rfl) ?_
              obtain ⟨h75, H⟩ := H
              refine WJ.y rfl rfl (fun w' hw' => Yld.iaddrW tab_ok k81.rd rfl rfl rfl rfl h75.1 h75.2) ?_
              refine WJ.y rfl rfl (fun w' hw' => Yld.iload 0 tab_ok (hw' rfl) rfl rfl (iltN h75 rfl)) ?_
              refine WJ.putw rfl (wants_none) rfl (Eff.lit tab_ok rfl rfl (all1c rfl (all1c rfl (all1c rfl (all1c rfl (all1c rfl (all1c rfl (all1c rfl (all1c rfl all1n)))))))) rfl (by omega)) (fun v w' ⟨_, _, h⟩ => DD.keep (Rd.grown k81.rd (gr_eqv h (Eqv.refl _)))) ?_
              rintro _ w23 ⟨rfl, hB6, hg17⟩
              obtain ⟨g_v, hl9⟩ : ∃ g, g = w22.heap.size := ⟨_, rfl⟩
              rw [← hl9] at hB6
              rw [← hl9]
              have hO15 : Own vu w23 w.heap.size 145 (some ⟨g_v, 0, none⟩) 8 ([IntKind.wrap .u32 ((IntKind.wrap .u32 ((IntKind.wrap .u32 ((IntKind.wrap .u32 ((IntKind.wrap .u32 ((IntKind.wrap .u32 ((v.getD 7 0) + (bits .xor .u32 (bits .xor .u32 t187 t191) t196))) + (bits .xor .u32 (bits .and .u32 (v.getD 4 0) (v.getD 5 0)) (bits .and .u32 (bits .xor .u32 (if IntKind.signed .u32 then -1 else IntKind.max .u32) (v.getD 4 0)) (v.getD 6 0))))) + (k.getD i4.toNat 0))) + (w_2.getD i4.toNat 0))) + (bits .xor .u32 (bits .xor .u32 t234 t238) t243))) + (bits .xor .u32 (bits .xor .u32 (bits .and .u32 (v.getD 0 0) (v.getD 1 0)) (bits .and .u32 (v.getD 0 0) (v.getD 2 0))) (bits .and .u32 (v.getD 1 0) (v.getD 2 0)))), v.getD 0 0, v.getD 1 0, v.getD 2 0, IntKind.wrap .u32 ((v.getD 3 0) + (IntKind.wrap .u32 ((IntKind.wrap .u32 ((IntKind.wrap .u32 ((IntKind.wrap .u32 ((v.getD 7 0) + (bits .xor .u32 (bits .xor .u32 t187 t191) t196))) + (bits .xor .u32 (bits .and .u32 (v.getD 4 0) (v.getD 5 0)) (bits .and .u32 (bits .xor .u32 (if IntKind.signed .u32 then -1 else IntKind.max .u32) (v.getD 4 0)) (v.getD 6 0))))) + (k.getD i4.toNat 0))) + (w_2.getD i4.toNat 0)))), v.getD 4 0, v.getD 5 0, v.getD 6 0] : List Int) := Own.ofBl hB6 (Nat.le_trans (size_le gr22) (Nat.le_of_eq hl9.symm)) (by simp [maxLen]) rfl
              have gr23 := gr_trans gr22 hg17
              have k82 := k76.g0 hg17
              have k83 := k77.grown hg17
              have k84 := k78.grown hg17
              have k85 := k79.grown hg17
              have k86 := k80.grown hg17
              have k87 := k81.grown hg17
              refine WJ.y rfl rfl (fun w' hw' => Yld.pure tab_ok rfl) ?_
              refine WJ.nil (WX.block_normal (WX.then_normal ?_))
              refine WC.region ?_
              refine WL.y rfl (Yld.pure tab_ok rfl) ?_
              obtain ⟨h76, H⟩ := H
              refine WL.y rfl (Yld.add rfl rfl h76) ?_
              refine WL.y rfl (Yld.pure tab_ok rfl) ?_
              refine WL.nil ?_
              exact WX.roundF _ ⟨([IntKind.wrap .u32 ((IntKind.wrap .u32 ((IntKind.wrap .u32 ((IntKind.wrap .u32 ((IntKind.wrap .u32 ((IntKind.wrap .u32 ((v.getD 7 0) + (bits .xor .u32 (bits .xor .u32 t187 t191) t196))) + (bits .xor .u32 (bits .and .u32 (v.getD 4 0) (v.getD 5 0)) (bits .and .u32 (bits .xor .u32 (if IntKind.signed .u32 then -1 else IntKind.max .u32) (v.getD 4 0)) (v.getD 6 0))))) + (k.getD i4.toNat 0))) + (w_2.getD i4.toNat 0))) + (bits .xor .u32 (bits .xor .u32 t234 t238) t243))) + (bits .xor .u32 (bits .xor .u32 (bits .and .u32 (v.getD 0 0) (v.getD 1 0)) (bits .and .u32 (v.getD 0 0) (v.getD 2 0))) (bits .and .u32 (v.getD 1 0) (v.getD 2 0)))), v.getD 0 0, v.getD 1 0, v.getD 2 0, IntKind.wrap .u32 ((v.getD 3 0) + (IntKind.wrap .u32 ((IntKind.wrap .u32 ((IntKind.wrap .u32 ((IntKind.wrap .u32 ((v.getD 7 0) + (bits .xor .u32 (bits .xor .u32 t187 t191) t196))) + (bits .xor .u32 (bits .and .u32 (v.getD 4 0) (v.getD 5 0)) (bits .and .u32 (bits .xor .u32 (if IntKind.signed .u32 then -1 else IntKind.max .u32) (v.getD 4 0)) (v.getD 6 0))))) + (k.getD i4.toNat 0))) + (w_2.getD i4.toNat 0)))), v.getD 4 0, v.getD 5 0, v.getD 6 0] : List Int), (some ⟨g_v, 0, none⟩), 8, 8, i4 + (1 : Int), rfl, rfl, H.1, rfl, gr23, k82, k83, k84, k85, k86, hO15, dj39, dj40, dj41, dj42, (Dj.new k76.lt' (Ge.box (Nat.le_of_eq hl9.symm))), dj44, dj45, dj46, (Dj.new k77.lt' (Ge.box (Nat.le_of_eq hl9.symm))), dj48, dj49, (Dj.new k78.lt' (Ge.box (Nat.le_of_eq hl9.symm))), dj51, (Dj.new k79.lt' (Ge.box (Nat.le_of_eq hl9.symm))), (Dj.new k80.lt' (Ge.box (Nat.le_of_eq hl9.symm)))⟩ (by repeat (first | exact Sub.nil | refine Sub.cons rfl ?_)) H.2
            · replace H := H.2 (of_decide_eq_false b6)
              refine WC.exit (WX.then_exit (WX.then_exit (WX.block_same (WX.then_normal ?_))))
              refine WC.seq ?_
              refine WC.region ?_
              refine WL.y rfl (Yld.pure tab_ok rfl) ?_
              refine WL.nil (WX.then_normal ?_)
              refine WC.block ?_
              obtain ⟨I7, mu7, h0_7, HR7⟩ := H
              refine WC.loopF (fun n' L' w' => ∃ (i5 : Int), ∃ (h_2 : List Int), n' = mu7 i5 h_2 ∧ L' = [(2, .pointer (some ⟨g1, 0, none⟩)), (3, .slice A_k k.length c_k), (4, .slice (some ⟨g2, 0, none⟩) 8 8), (5, .slice A_m5 m2.length c_m5), (8, .int .i64 at_), (14, .slice A_v2 v.length c_v2), (21, .int .i64 i5)] ∧ I7 i5 h_2 ∧ 8 = h_2.length ∧ w.grownBy w' none ∧ Bl w' g1 73 (a32 (List.replicate 32 0 : List UInt8)) ∧ Own vu w' w.heap.size 145 A_k c_k k ∧ Own vu w' w.heap.size 145 (some ⟨g2, 0, none⟩) 8 h_2 ∧ Own vb w' w.heap.size 5 A_m5 c_m5 m2 ∧ Own vu w' w.heap.size 145 A_v2 c_v2 v ∧ Dj (some g1) (blk A_k) ∧ Dj (some g1) (blk (some ⟨g2, 0, none⟩)) ∧ Dj (some g1) (blk A_m5) ∧ Dj (some g1) (blk A_v2) ∧ Dj (blk A_k) (blk (some ⟨g2, 0, none⟩)) ∧ Dj (blk A_k) (blk A_m5) ∧ Dj (blk A_k) (blk A_v2) ∧ Dj (blk (some ⟨g2, 0, none⟩)) (blk A_m5) ∧ Dj (blk (some ⟨g2, 0, none⟩)) (blk A_v2) ∧ Dj (blk A_m5) (blk A_v2)) _ _ ⟨(0 : Int), h, rfl, rfl, h0_7, hn_h, gr22, k76, k77, k78, k79, k81, dj39, dj40, dj41, dj43, dj44, dj45, dj47, dj48, dj50, dj52⟩ (by repeat (first | exact Sub.nil | refine Sub.cons rfl ?_)) ?_
              clear h0_7
              rintro _ _ w24 ⟨i5, h_2, rfl, rfl, hI7, hn_h_2, gr24, k88, k89, k90, k91, k92, dj54, dj55, dj56, dj57, dj58, dj59, dj60, dj61, dj62, dj63⟩
              have H := HR7 i5 h_2 hI7
              replace H := H hn_h_2
              refine WC.seq ?_
              refine WC.seq ?_
              refine WC.region ?_
              refine WL.y rfl (Yld.pure tab_ok rfl) ?_
              refine WL.y rfl (Yld.pure tab_ok rfl) ?_
              refine WL.nil (WX.then_normal ?_)
              refine WC.cond rfl (fun b7 => ?_) (fun b7 => ?_)
              · replace H := H.1 (of_decide_eq_true b7)
                refine WC.skip (WX.then_normal ?_)
                refine WC.seq ?_
                refine WC.block ?_
                refine WC.chainF (fun k => !(Nat.beq k 12)) (LD [5, 9] (fun w' => Rd vu w' (some ⟨g2, 0, none⟩) 8 h_2 ∧ Rd vu w' A_v2 c_v2 v)) mixed (by kernel_rfl) (fun k w' h _ => ⟨(rd_eqv h k90.rd), (rd_eqv h k92.rd)⟩) ?_
                refine WJ.y rfl rfl (fun w' hw' => Yld.pure tab_ok rfl) ?_
                refine WJ.y rfl rfl (fun w' hw' => Yld.pure tab_ok rfl) ?_
                refine WJ.y rfl rfl (fun w' hw' => Yld.pure tab_ok rfl) ?_
                refine WJ.y rfl rfl (fun w' hw' => Yld.pure tab_ok rfl) ?_
                obtain ⟨h77, H⟩ := H
                refine WJ.y rfl rfl (fun w' hw' => Yld.iaddrW tab_ok k90.rd rfl rfl hn_h_2 rfl h77.1 h77.2) ?_
                refine WJ.y rfl rfl (fun w' hw' => Yld.iload 0 tab_ok (hw' rfl).1 rfl rfl (iltN h77 hn_h_2)) ?_
                refine WJ.y rfl rfl (fun w' hw' => Yld.pure tab_ok rfl) ?_
                refine WJ.y rfl rfl (fun w' hw' => Yld.pure tab_ok rfl) ?_
                obtain ⟨h78, H⟩ := H
                refine WJ.y rfl rfl (fun w' hw' => Yld.iaddrW tab_ok k92.rd rfl rfl rfl rfl h78.1 h78.2) ?_
                refine WJ.y rfl rfl (fun w' hw' => Yld.iload 0 tab_ok (hw' rfl).2 rfl rfl (iltN h78 rfl)) ?_
                refine WJ.y rfl rfl (fun w' hw' => Yld.pure tab_ok rfl) ?_
                obtain ⟨h79, H⟩ := H
                refine WJ.y rfl rfl (fun w' hw' => Yld.iaddrW tab_ok k90.rd rfl rfl hn_h_2 rfl h79.1 h79.2) ?_
                refine WJ.eff rfl (Ef0.ostore (v := IntKind.wrap .u32 ((h_2.getD i5.toNat 0) + (v.getD i5.toNat 0))) one145 One.u k90 rfl rfl (iltN h79 hn_h_2)) (fun w' h => DD.past (by kernel_rfl)) ?_
                rintro w25 ⟨hO16, hg18⟩
                have gr25 := gr_mod gr24 hg18 k90.ge'
                have k93 := k88.go hg18 dj55
                have k94 := k89.go hg18 dj58
                have k95 := k91.go hg18 dj61.symm
                have k96 := k92.go hg18 dj62.symm
                refine WJ.nil (WX.block_normal (WX.then_normal ?_))
                refine WC.region ?_
                refine WL.y rfl (Yld.pure tab_ok rfl) ?_
                obtain ⟨h80, H⟩ := H
                refine WL.y rfl (Yld.add rfl rfl h80) ?_
                refine WL.y rfl (Yld.pure tab_ok rfl) ?_
                refine WL.nil ?_
                exact WX.roundF _ ⟨i5 + (1 : Int), h_2.set i5.toNat (IntKind.wrap .u32 ((h_2.getD i5.toNat 0) + (v.getD i5.toNat 0))), rfl, rfl, H.1, (hn_h_2.trans List.length_set.symm), gr25, k93, k94, hO16, k95, k96, dj54, dj55, dj56, dj57, dj58, dj59, dj60, dj61, dj62, dj63⟩ (by repeat (first | exact Sub.nil | refine Sub.cons rfl ?_)) H.2
              · replace H := H.2 (of_decide_eq_false b7)
                refine WC.exit (WX.then_exit (WX.then_exit (WX.block_same (WX.block_normal (WX.then_normal ?_)))))
                refine WC.region ?_
                refine WL.y rfl (Yld.pure tab_ok rfl) ?_
                obtain ⟨h81, H⟩ := H
                refine WL.y rfl (Yld.add rfl rfl h81) ?_
                refine WL.y rfl (Yld.pure tab_ok rfl) ?_
                refine WL.nil ?_
                exact WX.roundF _ ⟨at_ + (64 : Int), h_2, rfl, rfl, H.1, hn_h_2, gr24, k88, k89, k90, k91, dj54, dj55, dj56, dj58, dj59, dj61⟩ (by repeat (first | exact Sub.nil | refine Sub.cons rfl ?_)) H.2
      · replace H := H.2 (of_decide_eq_false b3)
        refine WC.exit (WX.then_exit (WX.then_exit (WX.block_same (WX.then_normal ?_))))
        refine WC.seq ?_
        refine WC.region ?_
        refine WL.alloc rfl zero73 (fun g9 w26 hB7 hg19 hl10 => ?_)
        rw [a32_zero] at hB7
        have gr26 := gr_trans gr14 hg19
        have k97 := k40.g0 hg19
        have k98 := k42.grown hg19
        refine WL.nil (WX.then_normal ?_)
        refine WC.seq ?_
        refine WC.seq ?_
        refine WC.region ?_
        refine WL.y rfl (Yld.pure tab_ok rfl) ?_
        refine WL.nil (WX.then_normal ?_)
        refine WC.block ?_
        obtain ⟨I8, mu8, h0_8, HR8⟩ := H
        refine WC.loopF (fun n' L' w' => ∃ (i6 : Int), ∃ (out0 : List UInt8), n' = mu8 i6 out0 ∧ L' = [(2, .pointer (some ⟨g1, 0, none⟩)), (4, .slice (some ⟨g2, 0, none⟩) 8 8), (22, .pointer (some ⟨g9, 0, none⟩)), (23, .int .i64 i6)] ∧ I8 i6 out0 ∧ w.grownBy w' none ∧ Bl w' g1 73 (a32 (List.replicate 32 0 : List UInt8)) ∧ Own vu w' w.heap.size 145 (some ⟨g2, 0, none⟩) 8 h ∧ Bl w' g9 73 (a32 out0) ∧ Dj (some g1) (blk (some ⟨g2, 0, none⟩)) ∧ Dj (some g1) (some g9) ∧ Dj (blk (some ⟨g2, 0, none⟩)) (some g9)) _ _ ⟨(0 : Int), (List.replicate 32 0 : List UInt8), rfl, rfl, h0_8, gr26, k97, k98, hB7, dj14, (Dj.new k40.lt' (Ge.box hl10)), (Dj.new k42.lt' (Ge.box hl10))⟩ (by repeat (first | exact Sub.nil | refine Sub.cons rfl ?_)) ?_
        clear h0_8
        rintro _ _ w27 ⟨i6, out0, rfl, rfl, hI8, gr27, k99, k100, k101, dj64, dj65, dj66⟩
        have H := HR8 i6 out0 hI8
        refine WC.seq ?_
        refine WC.seq ?_
        refine WC.region ?_
        refine WL.y rfl (Yld.pure tab_ok rfl) ?_
        refine WL.y rfl (Yld.pure tab_ok rfl) ?_
        refine WL.nil (WX.then_normal ?_)
        refine WC.cond rfl (fun b8 => ?_) (fun b8 => ?_)
        · replace H := H.1 (of_decide_eq_true b8)
          refine WC.skip (WX.then_normal ?_)
          refine WC.seq ?_
          refine WC.block ?_
          refine WC.seq ?_
          refine WC.region ?_
          refine WL.y rfl (Yld.pure tab_ok rfl) ?_
          refine WL.nil (WX.then_normal ?_)
          refine WC.block ?_
          obtain ⟨I9, mu9, h0_9, HR9⟩ := H
          refine WC.loopF (fun n' L' w' => ∃ (j : Int), ∃ (out02 : List UInt8), n' = mu9 j out02 ∧ L' = [(2, .pointer (some ⟨g1, 0, none⟩)), (4, .slice (some ⟨g2, 0, none⟩) 8 8), (22, .pointer (some ⟨g9, 0, none⟩)), (23, .int .i64 i6), (24, .int .i64 j)] ∧ I9 j out02 ∧ w.grownBy w' none ∧ Bl w' g1 73 (a32 (List.replicate 32 0 : List UInt8)) ∧ Own vu w' w.heap.size 145 (some ⟨g2, 0, none⟩) 8 h ∧ Bl w' g9 73 (a32 out02) ∧ Dj (some g1) (blk (some ⟨g2, 0, none⟩)) ∧ Dj (some g1) (some g9) ∧ Dj (blk (some ⟨g2, 0, none⟩)) (some g9)) _ _ ⟨(0 : Int), out0, rfl, rfl, h0_9, gr27, k99, k100, k101, dj64, dj65, dj66⟩ (by repeat (first | exact Sub.nil | refine Sub.cons rfl ?_)) ?_
          clear h0_9
          rintro _ _ w28 ⟨j, out02, rfl, rfl, hI9, gr28, k102, k103, k104, dj67, dj68, dj69⟩
          have H := HR9 j out02 hI9
          refine WC.seq ?_
          refine WC.seq ?_
          refine WC.region ?_
          refine WL.y rfl (Yld.pure tab_ok rfl) ?_
          refine WL.y rfl (Yld.pure tab_ok rfl) ?_
          refine WL.nil (WX.then_normal ?_)
          refine WC.cond rfl (fun b9 => ?_) (fun b9 => ?_)
          · replace H := H.1 (of_decide_eq_true b9)
            refine WC.skip (WX.then_normal ?_)
            refine WC.seq ?_
            refine WC.block ?_
            refine WC.region ?_
            refine WL.y rfl (Yld.pure tab_ok rfl) ?_
            obtain ⟨h82, H⟩ := H
            refine WL.y rfl (Yld.mul rfl rfl h82) ?_
            refine WL.y rfl (Yld.pure tab_ok rfl) ?_
            obtain ⟨h83, H⟩ := H
            refine WL.y rfl (Yld.add rfl rfl h83) ?_
            refine WL.y rfl (Yld.pure tab_ok rfl) ?_
            refine WL.y rfl (Yld.pure tab_ok rfl) ?_
            obtain ⟨h84, H⟩ := H
            refine WL.y rfl (Yld.iaddrW tab_ok k103.rd rfl rfl hn_h rfl h84.1 h84.2) ?_
            refine WL.y rfl (Yld.iload 0 tab_ok k103.rd rfl rfl (iltN h84 hn_h)) ?_
            refine WL.y rfl (Yld.pure tab_ok rfl) ?_
            obtain ⟨h85, H⟩ := H
            refine WL.y rfl (Yld.mul rfl rfl h85) ?_
            obtain ⟨h86, H⟩ := H
            refine WL.y rfl (Yld.sub rfl rfl h86) ?_
            refine WL.y rfl (Yld.pure tab_ok rfl) ?_
            obtain ⟨h87, H⟩ := H
            refine WL.y rfl (Yld.shr rfl rfl h87) ?_
            refine WL.y rfl (Yld.pure tab_ok rfl) ?_
            obtain ⟨h88, H⟩ := H
            refine WL.y rfl (Yld.aaddr tab_ok rfl rfl rfl h88.1 h88.2) ?_
            obtain ⟨h89, H⟩ := H
            obtain ⟨h90, H⟩ := H
            refine WL.store1 (u := vb (UInt8.ofNat (IntKind.wrap .u8 (shrV .u32 (h.getD i6.toNat 0) (IntKind.wrap .u64 ((24 : Int) - ((8 : Int) * j))).toNat)).toNat)) one5 rfl (byte_eq h89) rfl k104 (a32_lt (lt32 h88)) (fun w29 hB8 hg20 => ?_)
            have hB9 : Bl w29 g9 73 (a32 (out02.set ((((4 : Int) * i6) + j).toNat) (UInt8.ofNat (IntKind.wrap .u8 (shrV .u32 (h.getD i6.toNat 0) (IntKind.wrap .u64 ((24 : Int) - ((8 : Int) * j))).toNat)).toNat))) := a32_setO h90 ▸ hB8
            have gr29 := gr_mod gr28 hg20 (Ge.le (Ge.box hl10) (size_le gr14))
            have k105 := k102.go hg20 dj68
            have k106 := k103.go hg20 dj69
            refine WL.nil (WX.block_normal (WX.then_normal ?_))
            refine WC.region ?_
            refine WL.y rfl (Yld.pure tab_ok rfl) ?_
            obtain ⟨h91, H⟩ := H
            refine WL.y rfl (Yld.add rfl rfl h91) ?_
            refine WL.y rfl (Yld.pure tab_ok rfl) ?_
            refine WL.nil ?_
            exact WX.roundF _ ⟨j + (1 : Int), out02.set ((((4 : Int) * i6) + j).toNat) (UInt8.ofNat (IntKind.wrap .u8 (shrV .u32 (h.getD i6.toNat 0) (IntKind.wrap .u64 ((24 : Int) - ((8 : Int) * j))).toNat)).toNat), rfl, rfl, H.1, gr29, k105, k106, hB9, dj67, dj68, dj69⟩ (by repeat (first | exact Sub.nil | refine Sub.cons rfl ?_)) H.2
          · replace H := H.2 (of_decide_eq_false b9)
            refine WC.exit (WX.then_exit (WX.then_exit (WX.block_same (WX.block_normal (WX.then_normal ?_)))))
            refine WC.region ?_
            refine WL.y rfl (Yld.pure tab_ok rfl) ?_
            obtain ⟨h92, H⟩ := H
            refine WL.y rfl (Yld.add rfl rfl h92) ?_
            refine WL.y rfl (Yld.pure tab_ok rfl) ?_
            refine WL.nil ?_
            exact WX.roundF _ ⟨i6 + (1 : Int), out02, rfl, rfl, H.1, gr28, k102, k103, k104, dj67, dj68, dj69⟩ (by repeat (first | exact Sub.nil | refine Sub.cons rfl ?_)) H.2
        · replace H := H.2 (of_decide_eq_false b8)
          refine WC.exit (WX.then_exit (WX.then_exit (WX.block_same (WX.then_normal ?_))))
          refine WC.seq ?_
          refine WC.region ?_
          refine WL.y rfl (Yld.bagg (vs := (a32 out0)) tab_ok k101 rfl rfl rfl rfl) ?_
          refine WL.storeW (vs := (a32 out0)) tab_ok rfl rfl rfl (all1a (a32_one _) all1n) k99 rfl rfl (fun w30 hB10 hg21 => ?_)
          have gr30 := gr_mod gr27 hg21 (Ge.le (Ge.box hl1) (Nat.le_refl _))
          refine WL.nil (WX.then_normal ?_)
          refine WC.ret ?_
          exact WX.retc tab_ok rfl rfl rfl hB10 rfl ⟨gr30, out0, rfl, H⟩

set_option maxHeartbeats 8000000 in
theorem W_smithyref1_Many {w : World} {l : List (List UInt8)} {A_l : Option Addr} {c_l : Nat} {n_l : Nat} {K : (List UInt8) → Prop} (hl : Rd vs w A_l c_l l) (hn_l : n_l = l.length) (H : M_smithyref1_Many l K) : Fn Tryd.prog 86 ⟨[.slice A_l n_l c_l]⟩ w (fun v w' => w.grownBy w' none ∧ ∃ (r : List UInt8), v = .agg ⟨a32 r⟩ ∧ K r) := by
  subst hn_l
  unfold M_smithyref1_Many at H
  refine Fn.enter (by kernel_rfl) Tryd.func86 rfl Tryd.ntmps86 rfl ?_
  replace H := H (Nat.le_trans hl.cap hl.max)
  refine WC.seq ?_
  refine WC.region ?_
  refine WL.alloc rfl zero73 (fun g1 w1 hB1 hg1 hl1 => ?_)
  rw [a32_zero] at hB1
  have gr1 := hg1
  refine WL.nil (WX.then_normal ?_)
  refine WC.seq ?_
  refine WC.region ?_
  refine WL.y rfl (Yld.pure tab_ok rfl) ?_
  refine WL.nil (WX.then_normal ?_)
  refine WC.seq ?_
  refine WC.seq ?_
  refine WC.region ?_
  refine WL.y rfl (Yld.pure tab_ok rfl) ?_
  refine WL.nil (WX.then_normal ?_)
  refine WC.block ?_
  obtain ⟨I1, mu1, h0_1, HR1⟩ := H
  refine WC.loopF (fun n' L' w' => ∃ (m : List UInt8), ∃ (A_m : Option Addr), ∃ (c_m : Nat), ∃ (n_m : Nat), ∃ (i : Int), n' = mu1 m i ∧ L' = [(0, .slice A_l l.length c_l), (2, .pointer (some ⟨g1, 0, none⟩)), (3, .slice A_m n_m c_m), (4, .int .i64 i)] ∧ I1 m i ∧ n_m = m.length ∧ w.grownBy w' none ∧ Bl w' g1 73 (a32 (List.replicate 32 0 : List UInt8)) ∧ Own vb w' w.heap.size 5 A_m c_m m ∧ Dj (some g1) (blk A_m)) _ _ ⟨[], none, 0, 0, (0 : Int), rfl, rfl, h0_1, rfl, gr1, hB1, (Own.nil vb w1 w.heap.size 5), Dj.nr⟩ (by repeat (first | exact Sub.nil | refine Sub.cons rfl ?_)) ?_
  clear h0_1
  rintro _ _ w2 ⟨m, A_m, c_m, n_m, i, rfl, rfl, hI1, rfl, gr2, k1, k2, dj1⟩
  have H := HR1 m i hI1
  refine WC.seq ?_
  refine WC.seq ?_
  refine WC.region ?_
  refine WL.y rfl (Yld.pure tab_ok rfl) ?_
  refine WL.y rfl (Yld.pure tab_ok rfl) ?_
  refine WL.y rfl (Yld.pure tab_ok rfl) ?_
  refine WL.y rfl (Yld.pure tab_ok rfl) ?_
  refine WL.nil (WX.then_normal ?_)
  refine WC.cond rfl (fun b1 => ?_) (fun b1 => ?_)
  · replace H := H.1 (of_decide_eq_true b1)
    refine WC.skip (WX.then_normal ?_)
    refine WC.seq ?_
    refine WC.block ?_
    refine WC.seq ?_
    refine WC.region ?_
    refine WL.y rfl (Yld.pure tab_ok rfl) ?_
    refine WL.y rfl (Yld.pure tab_ok rfl) ?_
    obtain ⟨h1, H⟩ := H
    refine WL.y rfl (Yld.iaddrW tab_ok (hl.grown gr2) rfl rfl rfl rfl h1.1 h1.2) ?_
    refine WL.y rfl (Yld.iload [] tab_ok (hl.grown gr2) rfl rfl (iltN h1 rfl)) ?_
    refine WL.y rfl (Yld.pure tab_ok rfl) ?_
    refine WL.y rfl (Yld.pure tab_ok rfl) ?_
    refine WL.nil (WX.then_normal ?_)
    refine WC.seq ?_
    refine WC.region ?_
    refine WL.y rfl (Yld.pure tab_ok rfl) ?_
    refine WL.y rfl (Yld.pure tab_ok rfl) ?_
    refine WL.y rfl (Yld.shr rfl rfl (by omega)) ?_
    refine WL.y rfl (Yld.pure tab_ok rfl) ?_
    refine WL.y rfl (Yld.pure tab_ok rfl) ?_
    refine WL.y rfl (Yld.shr rfl rfl (by omega)) ?_
    refine WL.y rfl (Yld.pure tab_ok rfl) ?_
    refine WL.y rfl (Yld.pure tab_ok rfl) ?_
    refine WL.y rfl (Yld.shr rfl rfl (by omega)) ?_
    refine WL.y rfl (Yld.pure tab_ok rfl) ?_
    refine WL.y rfl (Yld.pure tab_ok rfl) ?_
    refine WL.y rfl (Yld.pure tab_ok rfl) ?_
    obtain ⟨h2, H⟩ := H
    obtain ⟨h3, H⟩ := H
    obtain ⟨h4, H⟩ := H
    obtain ⟨h5, H⟩ := H
    refine WL.lit tab_ok rfl rfl rfl (all1c rfl (all1c rfl (all1c rfl (all1c rfl all1n)))) rfl (by omega) (fun g2 w3 hB2 hg2 hl2 => ?_)
    replace hB2 : Bl w3 g2 5 (([UInt8.ofNat (IntKind.wrap .u8 (shrV .i64 ((l.getD i.toNat []).length : Int) 24)).toNat, UInt8.ofNat (IntKind.wrap .u8 (shrV .i64 ((l.getD i.toNat []).length : Int) 16)).toNat, UInt8.ofNat (IntKind.wrap .u8 (shrV .i64 ((l.getD i.toNat []).length : Int) 8)).toNat, UInt8.ofNat (IntKind.wrap .u8 ((l.getD i.toNat []).length : Int)).toNat] : List UInt8).map vb) := Bl.cast (lcons (byte_eq' h2) (lcons (byte_eq' h3) (lcons (byte_eq' h4) (lcons (byte_eq' h5) lnil)))) hB2
    have hO1 : Own vb w3 w.heap.size 5 (some ⟨g2, 0, none⟩) 4 ([UInt8.ofNat (IntKind.wrap .u8 (shrV .i64 ((l.getD i.toNat []).length : Int) 24)).toNat, UInt8.ofNat (IntKind.wrap .u8 (shrV .i64 ((l.getD i.toNat []).length : Int) 16)).toNat, UInt8.ofNat (IntKind.wrap .u8 (shrV .i64 ((l.getD i.toNat []).length : Int) 8)).toNat, UInt8.ofNat (IntKind.wrap .u8 ((l.getD i.toNat []).length : Int)).toNat] : List UInt8) := Own.ofBl hB2 (Nat.le_trans (size_le gr2) hl2) (by simp [maxLen]) rfl
    have gr3 := gr_trans gr2 hg2
    have k3 := k1.g0 hg2
    have k4 := k2.grown hg2
    obtain ⟨h6, H⟩ := H
    refine WL.append tab_ok rfl rfl One.b k4 rfl rfl hO1.rd rfl rfl h6 (applen h6) (size_le gr3) (fun A_m2 c_m2 w4 hO2 hg3 hk1 => ?_)
    have gr4 := gr_mod gr3 hg3 k4.ge'
    have k5 := k3.go hg3 dj1
    refine WL.y rfl (Yld.pure tab_ok rfl) ?_
    refine WL.nil (WX.then_normal ?_)
    refine WC.region ?_
    refine WL.y rfl (Yld.pure tab_ok rfl) ?_
    refine WL.y rfl (Yld.pure tab_ok rfl) ?_
    refine WL.y rfl (Yld.pure tab_ok rfl) ?_
    obtain ⟨h7, H⟩ := H
    refine WL.y rfl (Yld.iaddrW tab_ok (hl.grown gr4) rfl rfl rfl rfl h7.1 h7.2) ?_
    refine WL.y rfl (Yld.iload [] tab_ok (hl.grown gr4) rfl rfl (iltN h7 rfl)) ?_
    obtain ⟨h8, H⟩ := H
    refine WL.appendS tab_ok rfl rfl rfl hO2 rfl rfl rfl h8 (applen h8) (size_le gr4) (fun A_m3 c_m3 w5 hO3 hg4 hk2 => ?_)
    have gr5 := gr_mod gr4 hg4 hO2.ge'
    have k6 := k5.go hg4 ((Dj.app dj1.symm k3.lt' hk1).symm)
    refine WL.y rfl (Yld.pure tab_ok rfl) ?_
    refine WL.nil (WX.block_normal (WX.then_normal ?_))
    refine WC.region ?_
    refine WL.y rfl (Yld.pure tab_ok rfl) ?_
    obtain ⟨h9, H⟩ := H
    refine WL.y rfl (Yld.add rfl rfl h9) ?_
    refine WL.y rfl (Yld.pure tab_ok rfl) ?_
    refine WL.nil ?_
    exact WX.roundF _ ⟨(m ++ ([UInt8.ofNat (IntKind.wrap .u8 (shrV .i64 ((l.getD i.toNat []).length : Int) 24)).toNat, UInt8.ofNat (IntKind.wrap .u8 (shrV .i64 ((l.getD i.toNat []).length : Int) 16)).toNat, UInt8.ofNat (IntKind.wrap .u8 (shrV .i64 ((l.getD i.toNat []).length : Int) 8)).toNat, UInt8.ofNat (IntKind.wrap .u8 ((l.getD i.toNat []).length : Int)).toNat] : List UInt8)) ++ (l.getD i.toNat []), A_m3, c_m3, ((m ++ ([UInt8.ofNat (IntKind.wrap .u8 (shrV .i64 ((l.getD i.toNat []).length : Int) 24)).toNat, UInt8.ofNat (IntKind.wrap .u8 (shrV .i64 ((l.getD i.toNat []).length : Int) 16)).toNat, UInt8.ofNat (IntKind.wrap .u8 (shrV .i64 ((l.getD i.toNat []).length : Int) 8)).toNat, UInt8.ofNat (IntKind.wrap .u8 ((l.getD i.toNat []).length : Int)).toNat] : List UInt8)) ++ (l.getD i.toNat [])).length, i + (1 : Int), rfl, rfl, H.1, rfl, gr5, k6, hO3, (Dj.app (Dj.app dj1.symm k3.lt' hk1) k5.lt' hk2).symm⟩ (by repeat (first | exact Sub.nil | refine Sub.cons rfl ?_)) H.2
  · replace H := H.2 (of_decide_eq_false b1)
    refine WC.exit (WX.then_exit (WX.then_exit (WX.block_same (WX.then_normal ?_))))
    refine WC.seq ?_
    refine WC.region ?_
    refine WL.y rfl (Yld.pure tab_ok rfl) ?_
    refine WL.y rfl (Yld.b2s tab_ok k2.rd rfl rfl rfl rfl rfl) ?_
    refine WL.call rfl rfl (W_smithyref1_Sum H) ?_
    rintro _ w6 ⟨hg5, t39, rfl, H⟩
    have gr6 := gr_trans gr2 hg5
    have k7 := k1.g0 hg5
    refine WL.storeW (vs := (a32 t39)) tab_ok rfl rfl rfl (all1a (a32_one _) all1n) k7 rfl rfl (fun w7 hB3 hg6 => ?_)
    have gr7 := gr_mod gr6 hg6 (Ge.le (Ge.box hl1) (Nat.le_refl _))
    refine WL.nil (WX.then_normal ?_)
    refine WC.ret ?_
    exact WX.retc tab_ok rfl rfl rfl hB3 rfl ⟨gr7, t39, rfl, H⟩

set_option maxHeartbeats 8000000 in
theorem W_smithyref1_Hex {w : World} {s : List UInt8} {K : (List UInt8) → Prop} (H : M_smithyref1_Hex s K) : Fn Tryd.prog 85 ⟨[.agg ⟨a32 s⟩]⟩ w (fun v w' => w.grownBy w' none ∧ ∃ (r : List UInt8), v = vs r ∧ K r) := by
  unfold M_smithyref1_Hex at H
  refine Fn.enter (by kernel_rfl) Tryd.func85 rfl Tryd.ntmps85 rfl ?_
  refine WC.seq ?_
  refine WC.region ?_
  refine WL.box (us := (a32 s)) rfl rfl rfl (fun g1 w1 hB1 hg1 hl1 => ?_)
  have gr1 := hg1
  refine WL.y rfl (Yld.pure tab_ok rfl) ?_
  refine WL.nil (WX.then_normal ?_)
  refine WC.seq ?_
  refine WC.region ?_
  refine WL.y rfl (Yld.pure tab_ok rfl) ?_
  refine WL.nil (WX.then_normal ?_)
  refine WC.seq ?_
  refine WC.region ?_
  obtain ⟨h1, H⟩ := H
  refine WL.makeCI (f := vb) (B := w.heap.size) tab_ok rfl rfl rfl rfl h1.1 h1.2.1 h1.2.2 (size_le gr1) (fun g2 w2 hO1 hg2 hl2 => ?_)
  have gr2 := gr_trans gr1 hg2
  have k1 := hB1.g0 hg2
  refine WL.y rfl (Yld.pure tab_ok rfl) ?_
  refine WL.nil (WX.then_normal ?_)
  refine WC.seq ?_
  refine WC.seq ?_
  refine WC.region ?_
  refine WL.y rfl (Yld.pure tab_ok rfl) ?_
  refine WL.nil (WX.then_normal ?_)
  refine WC.block ?_
  obtain ⟨I1, mu1, h0_1, HR1⟩ := H
  refine WC.loopF (fun n' L' w' => ∃ (out : List UInt8), ∃ (A_out : Option Addr), ∃ (c_out : Nat), ∃ (n_out : Nat), ∃ (i : Int), n' = mu1 out i ∧ L' = [(1, .pointer (some ⟨g1, 0, none⟩)), (3, vs ([48, 49, 50, 51, 52, 53, 54, 55, 56, 57, 97, 98, 99, 100, 101, 102] : List UInt8)), (4, .slice A_out n_out c_out), (5, .int .i64 i)] ∧ I1 out i ∧ n_out = out.length ∧ w.grownBy w' none ∧ Bl w' g1 73 (a32 s) ∧ Own vb w' w.heap.size 5 A_out c_out out ∧ Dj (some g1) (blk A_out)) _ _ ⟨([] : List UInt8), (some ⟨g2, 0, none⟩), 64, 0, (0 : Int), rfl, rfl, h0_1, rfl, gr2, k1, hO1, (Dj.new hB1.lt' (Ge.box hl2))⟩ (by repeat (first | exact Sub.nil | refine Sub.cons rfl ?_)) ?_
  clear h0_1
  rintro _ _ w3 ⟨out, A_out, c_out, n_out, i, rfl, rfl, hI1, rfl, gr3, k2, k3, dj1⟩
  have H := HR1 out i hI1
  refine WC.seq ?_
  refine WC.seq ?_
  refine WC.region ?_
  refine WL.y rfl (Yld.pure tab_ok rfl) ?_
  refine WL.y rfl (Yld.pure tab_ok rfl) ?_
  refine WL.nil (WX.then_normal ?_)
  refine WC.cond rfl (fun b1 => ?_) (fun b1 => ?_)
  · replace H := H.1 (of_decide_eq_true b1)
    refine WC.skip (WX.then_normal ?_)
    refine WC.seq ?_
    refine WC.block ?_
    refine WC.chainF (fun k => !(Nat.beq k 13 || Nat.beq k 14)) (LD [4, 10] (fun w' => Bl w' g1 73 (a32 s))) mixed (by kernel_rfl) (fun k w' h _ => (bl_eqv h k2)) ?_
    refine WJ.y rfl rfl (fun w' hw' => Yld.pure tab_ok rfl) ?_
    refine WJ.y rfl rfl (fun w' hw' => Yld.pure tab_ok rfl) ?_
    refine WJ.y rfl rfl (fun w' hw' => Yld.pure tab_ok rfl) ?_
    obtain ⟨h2, H⟩ := H
    refine WJ.y rfl rfl (fun w' hw' => Yld.aaddr tab_ok rfl rfl rfl h2.1 h2.2) ?_
    refine WJ.y rfl rfl (fun w' hw' => Yld.bload tab_ok (hw' rfl) rfl rfl (a32_getO _ _ (lt32 h2))) ?_
    refine WJ.y rfl rfl (fun w' hw' => Yld.shr rfl rfl (by omega)) ?_
    obtain ⟨h3, H⟩ := H
    refine WJ.y rfl rfl (fun w' hw' => Yld.sidx tab_ok rfl rfl rfl h3.1 h3.2) ?_
    refine WJ.y rfl rfl (fun w' hw' => Yld.pure tab_ok rfl) ?_
    refine WJ.y rfl rfl (fun w' hw' => Yld.pure tab_ok rfl) ?_
    obtain ⟨h4, H⟩ := H
    refine WJ.y rfl rfl (fun w' hw' => Yld.aaddr tab_ok rfl rfl rfl h4.1 h4.2) ?_
    refine WJ.y rfl rfl (fun w' hw' => Yld.bload tab_ok (hw' rfl) rfl rfl (a32_getO _ _ (lt32 h4))) ?_
    refine WJ.y rfl rfl (fun w' hw' => Yld.pure tab_ok rfl) ?_
    obtain ⟨h5, H⟩ := H
    refine WJ.y rfl rfl (fun w' hw' => Yld.sidx tab_ok rfl rfl rfl h5.1 h5.2) ?_
    refine WJ.putw rfl (wants_none) rfl (Eff.lit tab_ok rfl rfl (all1c rfl (all1c rfl all1n)) rfl (by omega)) (fun v w' ⟨_, _, h⟩ => DD.keep (Bl.g0 k2 (gr_eqv h (Eqv.refl _)))) ?_
    rintro _ w4 ⟨rfl, hB2, hg3⟩
    obtain ⟨g_t24, hl3⟩ : ∃ g, g = w3.heap.size := ⟨_, rfl⟩
    rw [← hl3] at hB2
    rw [← hl3]
    have hO2 : Own vb w4 w.heap.size 5 (some ⟨g_t24, 0, none⟩) 2 ([([48, 49, 50, 51, 52, 53, 54, 55, 56, 57, 97, 98, 99, 100, 101, 102] : List UInt8).getD (shrV .u8 ((s.getD i.toNat 0).toNat : Int) 4).toNat 0, ([48, 49, 50, 51, 52, 53, 54, 55, 56, 57, 97, 98, 99, 100, 101, 102] : List UInt8).getD (bits .and .u8 ((s.getD i.toNat 0).toNat : Int) (15 : Int)).toNat 0] : List UInt8) := Own.ofBl hB2 (Nat.le_trans (size_le gr3) (Nat.le_of_eq hl3.symm)) (by simp [maxLen]) rfl
    have gr4 := gr_trans gr3 hg3
    have k4 := k2.g0 hg3
    have k5 := k3.grown hg3
    obtain ⟨h6, H⟩ := H
    refine WJ.putw rfl (wants_none) rfl (Eff.append tab_ok rfl One.b k5 rfl rfl hO2.rd rfl rfl h6 (applen h6) (size_le gr4)) (fun v w' ⟨_, _, _, _, h, _⟩ => DD.keep (Bl.go k4 (gr_eqv h (Eqv.refl _)) dj1)) ?_
    rintro _ w5 ⟨A_out2, c_out2, rfl, hO3, hg4, hk1⟩
    have gr5 := gr_mod gr4 hg4 k5.ge'
    have k6 := k4.go hg4 dj1
    refine WJ.y rfl rfl (fun w' hw' => Yld.pure tab_ok rfl) ?_
    refine WJ.nil (WX.block_normal (WX.then_normal ?_))
    refine WC.region ?_
    refine WL.y rfl (Yld.pure tab_ok rfl) ?_
    obtain ⟨h7, H⟩ := H
    refine WL.y rfl (Yld.add rfl rfl h7) ?_
    refine WL.y rfl (Yld.pure tab_ok rfl) ?_
    refine WL.nil ?_
    exact WX.roundF _ ⟨out ++ ([([48, 49, 50, 51, 52, 53, 54, 55, 56, 57, 97, 98, 99, 100, 101, 102] : List UInt8).getD (shrV .u8 ((s.getD i.toNat 0).toNat : Int) 4).toNat 0, ([48, 49, 50, 51, 52, 53, 54, 55, 56, 57, 97, 98, 99, 100, 101, 102] : List UInt8).getD (bits .and .u8 ((s.getD i.toNat 0).toNat : Int) (15 : Int)).toNat 0] : List UInt8), A_out2, c_out2, (out ++ ([([48, 49, 50, 51, 52, 53, 54, 55, 56, 57, 97, 98, 99, 100, 101, 102] : List UInt8).getD (shrV .u8 ((s.getD i.toNat 0).toNat : Int) 4).toNat 0, ([48, 49, 50, 51, 52, 53, 54, 55, 56, 57, 97, 98, 99, 100, 101, 102] : List UInt8).getD (bits .and .u8 ((s.getD i.toNat 0).toNat : Int) (15 : Int)).toNat 0] : List UInt8)).length, i + (1 : Int), rfl, rfl, H.1, rfl, gr5, k6, hO3, (Dj.app dj1.symm k4.lt' hk1).symm⟩ (by repeat (first | exact Sub.nil | refine Sub.cons rfl ?_)) H.2
  · replace H := H.2 (of_decide_eq_false b1)
    refine WC.exit (WX.then_exit (WX.then_exit (WX.block_same (WX.then_normal ?_))))
    refine WC.seq ?_
    refine WC.region ?_
    refine WL.y rfl (Yld.pure tab_ok rfl) ?_
    refine WL.y rfl (Yld.b2s tab_ok k3.rd rfl rfl rfl rfl rfl) ?_
    refine WL.y rfl (Yld.pure tab_ok rfl) ?_
    refine WL.nil (WX.then_normal ?_)
    refine WC.ret ?_
    exact WX.ret1 rfl rfl ⟨gr3, out, rfl, H⟩

set_option maxHeartbeats 8000000 in
theorem W_smithyref17_SameSum {w : World} {a : List UInt8} {b : List UInt8} {K : Bool → Prop} (H : M_smithyref17_SameSum a b K) : Fn Tryd.prog 47 ⟨[.agg ⟨a32 a⟩, .agg ⟨a32 b⟩]⟩ w (fun v w' => w.grownBy w' none ∧ ∃ (r : Bool), v = .bool r ∧ K r) := by
  unfold M_smithyref17_SameSum at H
  refine Fn.enter (by kernel_rfl) Tryd.func47 rfl Tryd.ntmps47 rfl ?_
  refine WC.seq ?_
  refine WC.region ?_
  refine WL.box (us := (a32 a)) rfl rfl rfl (fun g1 w1 hB1 hg1 hl1 => ?_)
  have gr1 := hg1
  refine WL.box (us := (a32 b)) rfl rfl rfl (fun g2 w2 hB2 hg2 hl2 => ?_)
  have gr2 := gr_trans gr1 hg2
  have k1 := hB1.g0 hg2
  refine WL.y rfl (Yld.pure tab_ok rfl) ?_
  refine WL.nil (WX.then_normal ?_)
  refine WC.seq ?_
  refine WC.chainF (fun k => !(Nat.beq k 1 || Nat.beq k 3)) (LD [0, 2] (fun w' => Bl w' g1 73 (a32 a) ∧ Bl w' g2 73 (a32 b))) mixed (by kernel_rfl) (fun k w' h _ => ⟨(bl_eqv h k1), (bl_eqv h hB2)⟩) ?_
  refine WJ.y rfl rfl (fun w' hw' => Yld.bagg (vs := (a32 a)) tab_ok (hw' rfl).1 rfl rfl rfl rfl) ?_
  refine WJ.call rfl (wants_none) rfl rfl (W_smithyref1_Hex H) (fun v w' h w2 e => DD.keep (⟨(Bl.g0 k1 (gr_eqv h.1 e)), (Bl.g0 hB2 (gr_eqv h.1 e))⟩)) ?_
  rintro _ w3 ⟨hg3, t6, rfl, H⟩
  have gr3 := gr_trans gr2 hg3
  have k2 := k1.g0 hg3
  have k3 := hB2.g0 hg3
  refine WJ.y rfl rfl (fun w' hw' => Yld.bagg (vs := (a32 b)) tab_ok (hw' rfl).2 rfl rfl rfl rfl) ?_
  refine WJ.call rfl (wants_none) rfl rfl (W_smithyref1_Hex H) (fun v w' h w2 e => DD.keep (⟨(Bl.g0 k2 (gr_eqv h.1 e)), (Bl.g0 k3 (gr_eqv h.1 e))⟩)) ?_
  rintro _ w4 ⟨hg4, t8, rfl, H⟩
  have gr4 := gr_trans gr3 hg4
  have k4 := k2.g0 hg4
  have k5 := k3.g0 hg4
  refine WJ.y rfl rfl (fun w' hw' => Yld.pure tab_ok rfl) ?_
  refine WJ.y rfl rfl (fun w' hw' => Yld.pure tab_ok rfl) ?_
  refine WJ.nil (WX.then_normal ?_)
  refine WC.ret ?_
  exact WX.ret1 rfl rfl ⟨gr4, decide (t6 = t8), rfl, H⟩

end Go.Proofs.YtlonpmajnglmoaaDoor

 /- Printed by a program (wip/vg): what the functions mean, plainly, and their walks. -/
namespace Go.Proofs.YtlonpmajnglmoaaDoor
open Go Go.RowKit
attribute [local irreducible] WL WC WX WQ WK WJ Yld Eff Ef0 Fn
end Go.Proofs.YtlonpmajnglmoaaDoor

 /- smithysee.sentinel: the number of one of api's variables. -/
namespace Go.Proofs.YtlonpmajnglmoaaDoor
open Go Go.RowKit
attribute [local irreducible] WL WC WX WQ WK WJ Yld Eff Ef0 Fn
end Go.Proofs.YtlonpmajnglmoaaDoor


 /- Printed by a program (wip/vg): what the functions mean, plainly, and their walks. -/
namespace Go.Proofs.YtlonpmajnglmoaaDoor
open Go Go.RowKit
attribute [local irreducible] WL WC WX WQ WK WJ Yld Eff Ef0 Fn
end Go.Proofs.YtlonpmajnglmoaaDoor

 /- Maps: plainly, and in the world. -/
namespace Go.Proofs.YtlonpmajnglmoaaDoor
open Go Go.RowKit Go.MapKept Go.ChangeMaps
open Go.Maps (Keyed)
/-! ## plainly: the entries, in the order in which they were laid -/
section
variable {κ ν : Type} [DecidableEq κ]
def mget : List (κ × ν) → κ → Option ν
  | [], _ => none
  | p :: m, k => if p.1 = k then some p.2 else mget m k
def mput : List (κ × ν) → κ → ν → List (κ × ν)
  | [], k, v => [(k, v)]
  | p :: m, k, v => if p.1 = k then (k, v) :: m else p :: mput m k v
def Uq (m : List (κ × ν)) : Prop := (m.map (·.1)).Nodup
theorem mget_none {m : List (κ × ν)} {k : κ} : mget m k = none ↔ ∀ p ∈ m, p.1 ≠ k := by
  induction m with
  | nil => simp [mget]
  | cons p m ih =>
    unfold mget
    split
    · rename_i h; simp [h]
    · rename_i h; rw [ih]; simp [h]
theorem mget_mput (m : List (κ × ν)) (k k' : κ) (v : ν) : mget (mput m k v) k' = if k = k' then some v else mget m k' := by
  induction m with
  | nil => simp [mget, mput]
  | cons p m ih =>
    unfold mput
    split
    · rename_i h
      subst h
      unfold mget
      split <;> simp_all
    · rename_i h
      unfold mget
      rw [ih]
      split
      · rename_i h2
        subst h2
        rw [if_neg (Ne.symm h)]
      · rfl
theorem mput_new {m : List (κ × ν)} {k : κ} {v : ν} (h : mget m k = none) : mput m k v = m ++ [(k, v)] := by
  induction m with
  | nil => rfl
  | cons p m ih =>
    unfold mget at h
    split at h
    · cases h
    · rename_i hne
      unfold mput
      rw [if_neg hne, ih h]
      rfl
theorem mput_set {m : List (κ × ν)} {k : κ} {v v0 : ν} {j : Nat} (hu : Uq m) (h : m[j]? = some (k, v0)) : mput m k v = m.set j (k, v) := by
  induction m generalizing j with
  | nil => simp at h
  | cons p m ih =>
    have hu' := List.nodup_cons.1 hu
    cases j with
    | zero =>
      simp only [List.getElem?_cons_zero, Option.some.injEq] at h
      subst h
      simp [mput]
    | succ j =>
      simp only [List.getElem?_cons_succ] at h
      have hne : p.1 ≠ k := fun e => hu'.1 (List.mem_map.2 ⟨(k, v0), List.mem_of_getElem? h, e.symm⟩)
      unfold mput
      rw [if_neg hne, ih hu'.2 h]
      rfl
theorem mget_mem {m : List (κ × ν)} {k : κ} {v : ν} (hu : Uq m) : mget m k = some v ↔ (k, v) ∈ m := by
  induction m with
  | nil => simp [mget]
  | cons p m ih =>
    have hu' := List.nodup_cons.1 hu
    unfold mget
    split
    · rename_i h
      subst h
      rw [Option.some.injEq, List.mem_cons]
      constructor
      · rintro rfl; exact .inl rfl
      · rintro (h | h)
        · exact (congrArg Prod.snd h).symm
        · exact absurd (List.mem_map.2 ⟨_, h, rfl⟩) hu'.1
    · rename_i h
      rw [ih hu'.2, List.mem_cons]
      constructor
      · exact .inr
      · rintro (h2 | h2)
        · exact absurd (congrArg Prod.fst h2).symm h
        · exact h2
theorem mput_len (m : List (κ × ν)) (k : κ) (v : ν) : (mput m k v).length = if (mget m k).isSome then m.length else m.length + 1 := by
  induction m with
  | nil => simp [mget, mput]
  | cons p m ih =>
    unfold mput mget
    split
    · simp
    · rw [List.length_cons, ih, List.length_cons]
      split <;> rfl
theorem mput_mem {m : List (κ × ν)} {k : κ} {v : ν} {p : κ × ν} (h : p ∈ mput m k v) : p = (k, v) ∨ p ∈ m := by
  induction m with
  | nil => simp [mput] at h; exact .inl h
  | cons q m ih =>
    unfold mput at h
    split at h
    · rcases List.mem_cons.1 h with h | h
      · exact .inl h
      · exact .inr (List.mem_cons_of_mem _ h)
    · rcases List.mem_cons.1 h with h | h
      · exact .inr (by rw [h]; exact List.mem_cons_self)
      · rcases ih h with h | h
        · exact .inl h
        · exact .inr (List.mem_cons_of_mem _ h)
theorem mput_keys (m : List (κ × ν)) (k : κ) (v : ν) : (mput m k v).map (·.1) = if (mget m k).isSome then m.map (·.1) else m.map (·.1) ++ [k] := by
  induction m with
  | nil => simp [mget, mput]
  | cons p m ih =>
    unfold mput mget
    split
    · rename_i h; simp [h]
    · rw [List.map_cons, ih, List.map_cons]
      split <;> rfl
theorem Uq.put {m : List (κ × ν)} (h : Uq m) (k : κ) (v : ν) : Uq (mput m k v) := by
  unfold Uq at *
  rw [mput_keys]
  split
  · exact h
  · rename_i hn
    have : mget m k = none := by simpa using hn
    rw [List.nodup_append]
    refine ⟨h, by simp, fun a ha b hb => ?_⟩
    obtain ⟨p, hp, rfl⟩ := List.mem_map.1 ha
    simp only [List.mem_cons, List.not_mem_nil, or_false] at hb
    subst hb
    exact mget_none.1 this p hp
end
/-! ## in the world -/
structure KeyF {κ : Type} (P : Program) (k : TypeId) (fk : κ → Value) (ok : κ → Prop) : Prop where
  keyed : Keyed P k
  key : ∀ x, ok x → ∃ l, keyOf P k (fk x) = some l
  inj : ∀ x y, ok x → ok y → fk x = fk y → x = y
def okS (s : List UInt8) : Prop := s.length ≤ maxLen
theorem keyF_s {P : Program} {k : TypeId} (h : P.underlying k = some .string) : KeyF P k vs okS where
  keyed := Go.Maps.string_keyed h
  key x hx := ⟨_, Go.WideMaps.keyOf_string_mk h (s := ⟨⟨x⟩⟩) hx⟩
  inj x y _ _ h := by unfold vs at h; injection h with h; injection h with h; injection h
def MapB {κ ν : Type} (fk : κ → Value) (ok : κ → Prop) (fv : ν → Value) (w : World) (b : Nat) (m : List (κ × ν)) : Prop :=
  ∃ es clock, w.heap[b]? = some (.map es clock) ∧ Stamped es clock ∧ es.size ≤ maxLen ∧ (∀ p ∈ m, ok p.1) ∧ es.toList.map (fun e => (e.key, e.val)) = m.map fun p => (fk p.1, fv p.2)
section
variable {κ ν : Type} {P : Program} {k e t : TypeId} {fk : κ → Value} {ok : κ → Prop} {fv : ν → Value} {w w' : World} {b : Nat} {m : List (κ × ν)} {row : Option Nat}
theorem MapB.lt (h : MapB fk ok fv w b m) : b < w.heap.size := by
  obtain ⟨es, clock, hb, _⟩ := h
  exact (Array.getElem?_eq_some_iff.1 hb).1
theorem MapB.lt' (h : MapB fk ok fv w b m) : Lt (some b) w.heap.size := Lt.box h.lt
theorem MapB.go (h : MapB fk ok fv w b m) (hg : w.grownBy w' row) (hd : Dj (some b) row) : MapB fk ok fv w' b m := by
  have hlt := h.lt
  obtain ⟨es, clock, hb, r⟩ := h
  exact ⟨es, clock, (hg.block b hlt (fun e => hd b rfl e.symm)).trans hb, r⟩
theorem MapB.g0 (h : MapB fk ok fv w b m) (hg : w.grownBy w' none) : MapB fk ok fv w' b m := h.go hg Dj.nr
theorem MapB.eqv (hw : Eqv w w') (h : MapB fk ok fv w b m) : MapB fk ok fv w' b m := h.g0 (gr_eqv (gr_refl w none) hw)
theorem MapB.len (h : MapB fk ok fv w b m) : m.length ≤ maxLen := by
  obtain ⟨es, clock, _, _, hs, _, he⟩ := h
  have := congrArg List.length he
  simp at this
  omega
theorem MapB.uq (h : MapB fk ok fv w b m) : Uq m := by
  obtain ⟨es, clock, _, hst, _, _, he⟩ := h
  have h1 : es.toList.map (·.key) = (m.map (·.1)).map fk := by
    have := congrArg (List.map Prod.fst) he
    simpa [Function.comp_def] using this
  have h2 := hst.2.2
  rw [h1] at h2
  unfold Uq
  rw [List.nodup_iff_pairwise_ne, List.pairwise_map] at h2
  rw [List.nodup_iff_pairwise_ne]
  exact h2.imp fun h e => h (by rw [e])
variable [DecidableEq κ]
theorem MapB.find {es : Array MapEntry} (K : KeyF P k fk ok) (hst : Uq m) (hok : ∀ p ∈ m, ok p.1) (he : es.toList.map (fun e => (e.key, e.val)) = m.map fun p => (fk p.1, fv p.2)) {q : κ} (hq : ok q) (w : World) :
    ((Instr.findKey k (fk q) es.toList).run P w = .ok none w ∧ mget m q = none ∧ ∀ x ∈ es.toList, x.key ≠ fk q) ∨ ∃ j v e0, (Instr.findKey k (fk q) es.toList).run P w = .ok (some (j, fv v)) w ∧ mget m q = some v ∧ m[j]? = some (q, v) ∧ es.toList[j]? = some e0 ∧ e0.key = fk q := by
  obtain ⟨l, hl⟩ := K.key q hq
  have hget : ∀ (j : Nat), (es.toList[j]?).map (fun e => (e.key, e.val)) = (m[j]?).map fun p => (fk p.1, fv p.2) := fun j => by
    have := congrArg (fun l => l[j]?) he
    simpa using this
  rcases K.keyed.find w hl es.toList (fun e he' => by
    obtain ⟨j, hj, rfl⟩ := List.getElem_of_mem he'
    have h1 := hget j
    rw [List.getElem?_eq_getElem hj] at h1
    simp only [Option.map_some] at h1
    obtain ⟨p, hp, hpe⟩ := Option.map_eq_some_iff.1 h1.symm
    obtain ⟨l', hl'⟩ := K.key p.1 (hok p (List.mem_of_getElem? hp))
    have h5 : fk p.1 = es.toList[j].key := congrArg Prod.fst hpe
    exact ⟨l', by rw [← h5]; exact hl'⟩) with ⟨h1, h2⟩ | ⟨j, e0, h1, h2, h3⟩
  · refine .inl ⟨h1, mget_none.2 fun p hp hpq => ?_, h2⟩
    obtain ⟨j, hj, rfl⟩ := List.getElem_of_mem hp
    have h4 := hget j
    rw [List.getElem?_eq_getElem hj] at h4
    simp only [Option.map_some] at h4
    obtain ⟨x, hx, hxe⟩ := Option.map_eq_some_iff.1 h4
    have h5 : x.key = fk m[j].1 := congrArg Prod.fst hxe
    exact h2 x (List.mem_of_getElem? hx) (by rw [h5, hpq])
  · have h4 := hget j
    rw [h2] at h4
    simp only [Option.map_some] at h4
    obtain ⟨p, hp, hpe⟩ := Option.map_eq_some_iff.1 h4.symm
    have hpq : p.1 = q := K.inj _ _ (hok p (List.mem_of_getElem? hp)) hq ((congrArg Prod.fst hpe).trans h3)
    have hpv : fv p.2 = e0.val := congrArg Prod.snd hpe
    refine .inr ⟨j, p.2, e0, by rw [hpv]; exact h1, (mget_mem hst).2 (by rw [← hpq]; exact List.mem_of_getElem? hp), by rw [hp, ← hpq], h2, h3⟩
theorem MapB.run_look (K : KeyF P k fk ok) (h : MapB fk ok fv w b m) (ht : P.underlying t = some (.map k e)) {z : ν} (hz : (zeroValue e).run P w = .ok (fv z) w) {q : κ} (hq : ok q) (c : Bool) :
    (Instr.lookup t (.map (some b)) (fk q) c).run P w = .ok (if c then .tuple #[fv ((mget m q).getD z), .bool (mget m q).isSome] else fv ((mget m q).getD z)) w := by
  have hu := h.uq
  obtain ⟨es, clock, hb, hst, hs, hok, he⟩ := h
  obtain ⟨l, hl⟩ := K.key q hq
  rcases MapB.find K hu hok he hq w with ⟨h1, h2, _⟩ | ⟨j, v, e0, h1, h2, _⟩
  · cases c <;> simp [Instr.lookup, run_underlying ht, MapKept.run_getObj_map hb, K.keyed.check w _ hl, h1, h2, hz, Result.andThen]
  · cases c <;> simp [Instr.lookup, run_underlying ht, MapKept.run_getObj_map hb, K.keyed.check w _ hl, h1, h2, Result.andThen]
theorem MapB.run_put (K : KeyF P k fk ok) (h : MapB fk ok fv w b m) (ht : P.underlying t = some (.map k e)) (hn : m.length < maxLen) {q : κ} (hq : ok q) (v : ν) :
    ∃ w', (Instr.mapUpdate t (.map (some b)) (fk q) (fv v)).run P w = .ok () w' ∧ MapB fk ok fv w' b (mput m q v) ∧ w.grownBy w' (some b) := by
  have hu := h.uq
  obtain ⟨es, clock, hb, hst, hs, hok, he⟩ := h
  obtain ⟨l, hl⟩ := K.key q hq
  have hlen : es.size = m.length := by have := congrArg List.length he; simpa using this
  have hok' : ∀ p ∈ mput m q v, ok p.1 := fun p hp => by
    rcases mput_mem hp with rfl | hp
    · exact hq
    · exact hok p hp
  have hgr : ∀ o, w.grownBy (setBlock w b o) (some b) := fun o => ⟨rfl, rfl, rfl, by simp [setBlock], fun i _ hi => heap_setBlock_other hb _ (fun e => hi (by rw [e]))⟩
  rcases MapB.find K hu hok he hq w with ⟨h1, h2, h3⟩ | ⟨j, v0, e0, h1, h2, h3, h4, h5⟩
  · refine ⟨setBlock w b (.map (es.push ⟨fk q, fv v, clock⟩) (clock + 1)), ?_, ⟨es.push ⟨fk q, fv v, clock⟩, clock + 1, heap_setBlock_same hb _, stamped_push hst h3, by simp; omega, hok', ?_⟩, hgr _⟩
    · simp [Instr.mapUpdate, run_underlying ht, MapKept.run_getObj_map hb, K.keyed.check w false hl, h1, MapKept.run_setObj_map _ hb, Result.andThen, setBlock]
    · rw [mput_new h2, Array.toList_push, List.map_append, List.map_append, he]
      rfl
  · have hj : es[j]? = some e0 := by simpa using h4
    have hkeyf : ∀ e', es[j]? = some e' → ({ e' with key := fk q, val := fv v } : MapEntry).key = e'.key := fun e' he' => by rw [hj] at he'; cases he'; exact h5.symm
    have hlist : (es.modify j (fun e' => { e' with key := fk q, val := fv v })).toList = es.toList.set j { e0 with key := fk q, val := fv v } := by rw [Array.toList_modify, modify_eq_set _ _ _ _ h4]
    refine ⟨setBlock w b (.map (es.modify j (fun e' => { e' with key := fk q, val := fv v })) clock), ?_, ⟨es.modify j (fun e' => { e' with key := fk q, val := fv v }), clock, heap_setBlock_same hb _, stamped_modify hst _ _ (fun _ _ => rfl) (fun e' _ he' => hkeyf e' he'), by simpa using hs, hok', ?_⟩, hgr _⟩
    · simp [Instr.mapUpdate, run_underlying ht, MapKept.run_getObj_map hb, K.keyed.check w false hl, h1, hj, h5, K.keyed.stays w hl, MapKept.run_setObj_map _ hb, Result.andThen, setBlock]
    · rw [hlist, mput_set hu h3, List.map_set, List.map_set, he]
 omit [DecidableEq κ] in
theorem MapB.made (w : World) (fk : κ → Value) (ok : κ → Prop) (fv : ν → Value) : MapB fk ok fv (w.alloc (.map #[] 0)) w.heap.size ([] : List (κ × ν)) :=
  ⟨#[], 0, (MapKept.heap_alloc w _).1, stamped_empty 0, by simp, by simp, rfl⟩
variable {N : Nat} {L : Slots} {ty : TypeId} {pos : String} {af : Array Edge} {dd : Option Tmp} {x y u : Operand}
theorem Yld.look (hK : KeyF P k fk ok) (ht : P.underlying t = some (.map k e)) {z : ν} (hz : ∀ w, (zeroValue e).run P w = .ok (fv z) w) (hm : MapB fk ok fv w b m) (hx : opv L x = some (.map (some b))) {q : κ} (hy : opv L y = some (fk q)) (hq : ok q) :
    Yld P N w ⟨dd, .lookup t x y false, ty, pos, af, none⟩ L (fv ((mget m q).getD z)) := fun a w1 hw ha => by
  unfold execOp
  simp [ha.ev hx, ha.ev hy, (MapB.eqv hw hm).run_look hK ht (hz w1) hq false]
theorem Yld.lookOk (hK : KeyF P k fk ok) (ht : P.underlying t = some (.map k e)) {z : ν} (hz : ∀ w, (zeroValue e).run P w = .ok (fv z) w) (hm : MapB fk ok fv w b m) (hx : opv L x = some (.map (some b))) {q : κ} (hy : opv L y = some (fk q)) (hq : ok q) :
    Yld P N w ⟨dd, .lookup t x y true, ty, pos, af, none⟩ L (.tuple #[fv ((mget m q).getD z), .bool (mget m q).isSome]) := fun a w1 hw ha => by
  unfold execOp
  simp [ha.ev hx, ha.ev hy, (MapB.eqv hw hm).run_look hK ht (hz w1) hq true]
 omit [DecidableEq κ] in
theorem Eff.makeMap (fk : κ → Value) (ok : κ → Prop) (fv : ν → Value) : Eff P N w ⟨dd, .makeMap t none, ty, pos, af, none⟩ L fun v w' => v = .map (some w.heap.size) ∧ MapB fk ok fv w' w.heap.size ([] : List (κ × ν)) ∧ w.grownBy w' none := fun a w1 hw ha => by
  refine ⟨_, w1.alloc (.map #[] 0), ?_, rfl, ?_, eqv_gr hw (gr_alloc w1 _ none)⟩
  · unfold execOp
    simp [run_makeMap]
    rw [hw.heap]
  · have := MapB.made w1 fk ok fv
    rwa [hw.heap] at this
theorem Ef0.mapPut (hK : KeyF P k fk ok) (ht : P.underlying t = some (.map k e)) (hm : MapB fk ok fv w b m) (hn : m.length < maxLen) (hx : opv L x = some (.map (some b))) {q : κ} (hy : opv L y = some (fk q)) (hq : ok q) {v : ν} (hu : opv L u = some (fv v)) :
    Ef0 P N w ⟨none, .mapUpdate t x y u, ty, pos, af, none⟩ L fun w' => MapB fk ok fv w' b (mput m q v) ∧ w.grownBy w' (some b) := fun a w1 hw ha => by
  obtain ⟨w', h1, h2, h3⟩ := (MapB.eqv hw hm).run_put hK ht hn hq v
  refine ⟨w', ?_, h2, eqv_gr hw h3⟩
  unfold execOp
  simp [ha.ev hx, ha.ev hy, ha.ev hu, h1]
 omit [DecidableEq κ] in
theorem Yld.maplen (ht : P.underlying t = some (.map k e)) (hm : MapB fk ok fv w b m) (hx : opv L x = some (.map (some b))) :
    Yld P N w ⟨dd, .call ⟨.builtin .len, ⟨[x]⟩, ⟨[t]⟩⟩, ty, pos, af, none⟩ L (.int .i64 (m.length : Int)) := fun a w1 hw ha => by
  obtain ⟨es, clock, hb, hst, hs, hok, he⟩ := MapB.eqv hw hm
  have hlen : es.size = m.length := by have := congrArg List.length he; simpa using this
  unfold execOp
  simp [ha.ev hx, resolve, invoke, builtin, Builtin.len_, run_underlying ht, MapKept.run_getObj_map hb, goInt, Result.andThen, hlen]
theorem WL.ef0 {ops : Array Oper} {Q : Post} {rest : List Oper} {op : Op} {R : World → Prop} (hr : Ef0 P N w ⟨none, op, ty, pos, af, none⟩ L R) (hk : ∀ w', R w' → WL P N ops Q rest L w') : WL P N ops Q (⟨none, op, ty, pos, af, none⟩ :: rest) L w := WL.eff hr hk
end
end Go.Proofs.YtlonpmajnglmoaaDoor

 /- Changes within blocks that are named: what calls do to what they are handed. -/
namespace Go.Proofs.YtlonpmajnglmoaaDoor
open Go Go.RowKit
structure GrL (ps : List (Option Nat)) (w w' : World) : Prop where
  os : w'.os = w.os
  tape : w'.tape = w.tape
  output : w'.output = w.output
  size : w.heap.size ≤ w'.heap.size
  block : ∀ i, i < w.heap.size → (∀ p, List.Mem p ps → p ≠ some i) → w'.heap[i]? = w.heap[i]?
def AllP (Q : Option Nat → Prop) (ps : List (Option Nat)) : Prop := ∀ p, List.Mem p ps → Q p
theorem apN {Q : Option Nat → Prop} : AllP Q [] := fun _ h => by cases h
theorem apC {Q : Option Nat → Prop} {p : Option Nat} {ps : List (Option Nat)} (h : Q p) (t : AllP Q ps) : AllP Q (p :: ps) := fun x hx => by
  cases hx with
  | head => exact h
  | tail _ hx => exact t x hx
def InP (ps : List (Option Nat)) (n : Nat) (p : Option Nat) : Prop := ∀ g, p = some g → n ≤ g ∨ List.Mem (some g) ps
section
variable {ps qs : List (Option Nat)} {p p' q row : Option Nat} {n m : Nat} {a b c w w' : World}
theorem InP.ge (h : Ge p n) : InP ps n p := fun g hg => .inl (h g hg)
theorem InP.mem (h : List.Mem p ps) : InP ps n p := fun _ hg => .inr (hg ▸ h)
theorem InP.none : InP ps n none := fun _ h => by cases h
theorem InP.app (h : InP ps n p) (k : ∀ g, p' = some g → p = some g ∨ m ≤ g) (hm : n ≤ m) : InP ps n p' := fun g hg => by
  rcases k g hg with h1 | h1
  · exact h g h1
  · exact .inl (Nat.le_trans hm h1)
theorem InP.trans (h : InP qs m p) (k : AllP (InP ps n) qs) (hm : n ≤ m) : InP ps n p := fun g hg => by
  rcases h g hg with h1 | h1
  · exact .inl (Nat.le_trans hm h1)
  · exact k _ h1 g rfl
theorem InP.toGe (h : InP qs m p) (k : AllP (fun q => Ge q n) qs) (hm : n ≤ m) : Ge p n := fun g hg => by
  rcases h g hg with h1 | h1
  · exact Nat.le_trans hm h1
  · exact k _ h1 g rfl
theorem InP.dj (h : InP qs m p) (hq : Lt q m) (k : AllP (Dj q) qs) : Dj p q := fun g hg hqg => by
  rcases h g hg with h1 | h1
  · have := hq g hqg; omega
  · exact k _ h1 g hqg rfl
theorem InP.dn {α : Type} {xs : List α} (h : InP qs m p) (hq : xs ≠ [] → Lt q m) (k : AllP (Dn xs q) qs) : Dn xs q p := fun hx g hqg hg => by
  rcases h g hg with h1 | h1
  · have := hq hx g hqg; omega
  · exact k _ h1 hx g hqg rfl
theorem GrL.refl (w : World) : GrL ps w w := ⟨rfl, rfl, rfl, Nat.le_refl _, fun _ _ _ => rfl⟩
theorem GrL.of0 (h : w.grownBy w' none) : GrL ps w w' := ⟨h.os, h.tape, h.output, h.size, fun i hi _ => h.block i hi (by simp)⟩
theorem GrL.of1 (h : w.grownBy w' row) : GrL [row] w w' := ⟨h.os, h.tape, h.output, h.size, fun i hi k => h.block i hi fun e => k row (List.Mem.head _) e.symm⟩
theorem GrL.toL (h : GrL [] w w') : w.grownBy w' none := ⟨h.os, h.tape, h.output, h.size, fun i hi _ => h.block i hi fun _ hp => by cases hp⟩
theorem GrL.trans (h : GrL ps a b) (k : GrL ps b c) : GrL ps a c :=
  ⟨k.os.trans h.os, k.tape.trans h.tape, k.output.trans h.output, Nat.le_trans h.size k.size, fun i hi hp => (k.block i (Nat.lt_of_lt_of_le hi h.size) hp).trans (h.block i hi hp)⟩
theorem GrL.modL (h : GrL ps a b) (k : GrL qs b c) (hi : AllP (InP ps a.heap.size) qs) : GrL ps a c :=
  ⟨k.os.trans h.os, k.tape.trans h.tape, k.output.trans h.output, Nat.le_trans h.size k.size, fun i hl hp => (k.block i (Nat.lt_of_lt_of_le hl h.size) fun q hq e => by
    rcases hi q hq i e with h1 | h1
    · omega
    · exact hp _ h1 rfl).trans (h.block i hl hp)⟩
theorem GrL.mod (h : GrL ps a b) (k : b.grownBy c row) (hi : InP ps a.heap.size row) : GrL ps a c := h.modL (GrL.of1 k) (apC hi apN)
theorem GrL.add0 (h : GrL ps a b) (k : b.grownBy c none) : GrL ps a c := h.trans (GrL.of0 k)
theorem gr_modL (h : a.grownBy b none) (k : GrL qs b c) (hi : AllP (fun q => Ge q a.heap.size) qs) : a.grownBy c none :=
  (GrL.modL (ps := []) (GrL.of0 h) k fun q hq => InP.ge (hi q hq)).toL
theorem GrL.eqv (h : GrL ps a b) (k : Eqv b c) : GrL ps a c := h.add0 (gr_eqv (gr_refl b none) k)
theorem GrL.sizeL (h : GrL ps a b) : a.heap.size ≤ b.heap.size := h.size
/-- one block's row, as_ 'grownBy' says it -/
theorem GrL.cell (h : GrL ps w w') {ad : Addr} {v : Value} (hc : w.cell? ad = some v) (hp : ∀ p, List.Mem p ps → p ≠ some ad.block) : w'.cell? ad = some v := by
  have hlt := World.block_lt_of_cell? w _ hc
  have := h.block ad.block hlt hp
  unfold World.cell? at hc ⊢
  rw [this]; exact hc
variable {α : Type} {f : α → Value} {A : Option Addr} {B cc g k : Nat} {xs : List α} {e : TypeId} {us : List Value} {fk : α → List Value}
theorem Bl.goL (h : Bl w g e us) (hg : GrL ps w w') (hd : AllP (Dj (some g)) ps) : Bl w' g e us := (hg.block g h.lt fun p hp e => hd p hp g rfl e).trans h
theorem Rd.goL (h : Rd f w A cc xs) (hg : GrL ps w w') (hd : AllP (Dn xs (blk A)) ps) : Rd f w' A cc xs :=
  ⟨h.cap, h.max, fun hx => by
    obtain ⟨ad, rfl, hc⟩ := h.cells hx
    refine ⟨ad, rfl, fun j x hj => hg.cell (hc j x hj) fun p hp e => ?_⟩
    rw [addr_block] at e
    exact hd p hp hx ad.block rfl e⟩
theorem RdK.goL (h : RdK k fk w A cc xs) (hg : GrL ps w w') (hd : AllP (Dn xs (blk A)) ps) : RdK k fk w' A cc xs :=
  ⟨h.ok, h.cap, h.max, fun hx => by
    obtain ⟨g', o, rfl, hc⟩ := h.cells hx
    refine ⟨g', o, rfl, fun j x i u hj hi => hg.cell (hc j x i u hj hi) fun p hp e => ?_⟩
    exact hd p hp hx g' rfl e⟩
theorem Own.goL (h : Own f w B e A cc xs) (hg : GrL ps w w') (hd : AllP (Dj (blk A)) ps) : Own f w' B e A cc xs := by
  have hlt := h.lt'
  unfold Own at h ⊢
  refine ⟨h.1, ?_⟩
  rcases h.2 with h2 | ⟨g, cap, cur, hv, hb, hg', r⟩
  · exact .inl h2
  · refine .inr ⟨g, cap, cur, hv, hb, ?_, r⟩
    simp only [Value.slice.injEq] at hv
    obtain ⟨rfl, _⟩ := hv
    exact (hg.block g (hlt g rfl) fun p hp e => hd p hp g rfl e).trans hg'
theorem OwnK.goL (h : OwnK k fk w B e A cc xs) (hg : GrL ps w w') (hd : AllP (Dj (blk A)) ps) : OwnK k fk w' B e A cc xs := by
  have hlt := h.lt'
  refine ⟨h.1, h.2.1, ?_⟩
  rcases h.2.2 with h2 | ⟨g, cap, cur, hv, hb, hg', r⟩
  · exact .inl h2
  · refine .inr ⟨g, cap, cur, hv, hb, ?_, r⟩
    simp only [Value.slice.injEq] at hv
    obtain ⟨rfl, _⟩ := hv
    exact (hg.block g (hlt g rfl) fun p hp e => hd p hp g rfl e).trans hg'
theorem MapB.goL {κ ν : Type} {mk : κ → Value} {ok : κ → Prop} {fv : ν → Value} {mm : List (κ × ν)} (h : MapB mk ok fv w g mm) (hg : GrL ps w w') (hd : AllP (Dj (some g)) ps) : MapB mk ok fv w' g mm := by
  have hlt := h.lt
  obtain ⟨es, clock, hb, r⟩ := h
  exact ⟨es, clock, (hg.block g hlt (fun p hp e => hd p hp g rfl e)).trans hb, r⟩
variable {S : List Nat}
/-- the variables hold what they were laid with; they all lie below B -/
def GB (S : List Nat) (B : Nat) (w : World) : Prop := ∃ W, GOK S W ∧ W.heap.size ≤ B ∧ Below W.heap.size W w
theorem GB.ok (h : GB S B w) : GOK S w := by
  obtain ⟨W, h1, _, h3⟩ := h
  exact h1.grown (gr_below h3 none)
theorem GB.of (h : GOK S w) : GB S w.heap.size w := ⟨w, h, Nat.le_refl _, Below.refl _ _⟩
theorem belowL {W : World} {n : Nat} (h3 : Below n W w) (hn : n ≤ B) (hg : GrL ps w w') (hp : AllP (fun p => Ge p B) ps) (hW : n ≤ W.heap.size) : Below n W w' := by
  refine ⟨hg.os.trans h3.os, hg.tape.trans h3.tape, hg.output.trans h3.output, Nat.le_trans h3.size hg.size, fun i hi => ?_⟩
  refine (hg.block i (Nat.lt_of_lt_of_le (Nat.lt_of_lt_of_le hi hW) h3.size) fun p hm e => ?_).trans (h3.block i hi)
  have := hp p hm i e
  omega
theorem GB.goL (h : GB S B w) (hg : GrL ps w w') (hp : AllP (fun p => Ge p B) ps) : GB S B w' := by
  obtain ⟨W, h1, h2, h3⟩ := h
  exact ⟨W, h1, h2, belowL h3 h2 hg hp (Nat.le_refl _)⟩
theorem GB.g0 (h : GB S B w) (hg : w.grownBy w' none) : GB S B w' := h.goL (ps := []) (GrL.of0 hg) apN
theorem GB.mono {B' : Nat} (h : GB S B w) (hB : B ≤ B') : GB S B' w := by
  obtain ⟨W, h1, h2, h3⟩ := h
  exact ⟨W, h1, Nat.le_trans h2 hB, h3⟩
theorem GB.grown {W : World} (h : GOK S W) (hg : W.grownBy w none) : GB S W.heap.size w := ⟨W, h, Nat.le_refl _, below_gr hg⟩
/-- no error with a place lies there -/
def NoAt (w : World) (p : Option Nat) : Prop := ∀ g us, p = some g → ¬ Bl w g 165 us
theorem NoAt.bl (h : Bl w g e us) (ht : Nat.beq e 165 = false) : NoAt w (some g) := fun g' us' hg' hB => by
  cases hg'
  exact Bl.ne h hB (Nat.ne_of_beq_eq_false ht) rfl
theorem NoAt.own (h : Own f w B e A cc xs) (ht : Nat.beq e 165 = false) : NoAt w (blk A) := fun g' us' hg' hB => by
  rcases h.2 with ⟨hv, _⟩ | ⟨g, cap, cur, hv, _, hb, _⟩
  · simp only [Value.slice.injEq] at hv
    obtain ⟨rfl, _⟩ := hv
    cases hg'
  · simp only [Value.slice.injEq] at hv
    obtain ⟨rfl, _⟩ := hv
    cases hg'
    exact Bl.ne (us := cur.toList) hb hB (Nat.ne_of_beq_eq_false ht) rfl
theorem NoAt.ownK (h : OwnK k fk w B e A cc xs) (ht : Nat.beq e 165 = false) : NoAt w (blk A) := fun g' us' hg' hB => by
  rcases h.2.2 with ⟨hv, _⟩ | ⟨g, cap, cur, hv, _, hb, _⟩
  · simp only [Value.slice.injEq] at hv
    obtain ⟨rfl, _⟩ := hv
    cases hg'
  · simp only [Value.slice.injEq] at hv
    obtain ⟨rfl, _⟩ := hv
    cases hg'
    exact Bl.ne (us := cur.toList) hb hB (Nat.ne_of_beq_eq_false ht) rfl
theorem NoAt.map {κ ν : Type} {mk : κ → Value} {ok : κ → Prop} {fv : ν → Value} {mm : List (κ × ν)} (h : MapB mk ok fv w g mm) : NoAt w (some g) := fun g' us' hg' hB => by
  cases hg'
  obtain ⟨es, clock, hb, _⟩ := h
  unfold Bl at hB
  rw [hb] at hB
  cases hB
theorem ErrR.goB {v : Value} {er : Er} (h : ErrR S w v er) (hG : GB S B w) (hg : GrL ps w w') (hp : AllP (fun p => Ge p B) ps) (hn : AllP (NoAt w) ps) : ErrR S w' v er := by
  have key : ∀ {v : Value} {n : Nat}, ErV w v n → n ∈ S → ErV w' v n := fun {v n} hv hS => by
    obtain ⟨W, h1, h2, h3⟩ := hG
    obtain ⟨u, hu⟩ := h1.er n hS hv.lt
    rw [ErV.uniq hv (hu.grown (gr_below h3 none))]
    exact hu.grown (gr_below (belowL h3 h2 hg hp (Nat.le_refl _)) none)
  cases er with
  | ok => exact h
  | e n => exact ⟨key h.1 h.2, h.2⟩
  | at_ pos n =>
    obtain ⟨b, u, k1, k2, k3, k4⟩ := h
    exact ⟨b, u, k1, k2.goL hg fun p hm g' hg' hpe => by cases hg'; exact hn p hm _ _ hpe k2, key k3 k4, k4⟩
end
end Go.Proofs.YtlonpmajnglmoaaDoor

 /- Pools: maps from texts to pointers at boxes that lie apart; one of them may be open. -/
namespace Go.Proofs.YtlonpmajnglmoaaDoor
open Go Go.RowKit
section
variable {κ ν μ : Type} [DecidableEq κ]
def mmap (g : ν → μ) (m : List (κ × ν)) : List (κ × μ) := m.map fun p => (p.1, g p.2)
theorem mget_mmap (g : ν → μ) (k : κ) : ∀ m : List (κ × ν), mget (mmap g m) k = (mget m k).map g
  | [] => rfl
  | p :: m => by
    show (if p.1 = k then some (g p.2) else mget (mmap g m) k) = (if p.1 = k then some p.2 else mget m k).map g
    split
    · rfl
    · exact mget_mmap g k m
theorem mput_mmap (g : ν → μ) (k : κ) (v : ν) : ∀ m : List (κ × ν), mput (mmap g m) k (g v) = mmap g (mput m k v)
  | [] => rfl
  | p :: m => by
    show (if p.1 = k then (k, g v) :: mmap g m else (p.1, g p.2) :: mput (mmap g m) k (g v)) = mmap g (if p.1 = k then (k, v) :: m else p :: mput m k v)
    split
    · rfl
    · rw [mput_mmap g k v m]; rfl
theorem mget_keys : ∀ {a : List (κ × ν)} {b : List (κ × μ)}, a.map (·.1) = b.map (·.1) → ∀ k, (mget a k).isSome = (mget b k).isSome
  | [], [], _, _ => rfl
  | [], _ :: _, h, _ => by simp at h
  | _ :: _, [], h, _ => by simp at h
  | p :: a, r :: b, h, k => by
    simp only [List.map_cons, List.cons.injEq] at h
    unfold mget
    rw [h.1]
    split
    · rfl
    · exact mget_keys h.2 k
theorem mput_same {g : ν → μ} {k : κ} {v u : ν} (hg : g v = g u) : ∀ {m : List (κ × ν)}, mget m k = some u → (mput m k v).map (fun p => (p.1, g p.2)) = m.map fun p => (p.1, g p.2)
  | [], h => by simp [mget] at h
  | p :: m, h => by
    unfold mget at h
    unfold mput
    split at h
    · rename_i e
      simp only [Option.some.injEq] at h
      rw [if_pos e, List.map_cons, List.map_cons, hg, ← h, e]
    · rename_i e
      rw [if_neg e, List.map_cons, List.map_cons, mput_same hg h]
theorem mget_same (m : List (κ × ν)) (k : κ) (v : ν) : mget (mput m k v) k = some v := by rw [mget_mput, if_pos rfl]
end
abbrev PH := Nat × Option Nat
def vP (o : Option PH) : Value := .pointer (o.map fun h => ⟨h.1, 0, none⟩)
def pq (hs : List (List UInt8 × PH)) (q : List UInt8) : Value := vP (mget hs q)
theorem pq_some {hs : List (List UInt8 × PH)} {q : List UInt8} {b : Nat} {r : Option Nat} (h : mget hs q = some (b, r)) : pq hs q = .pointer (some ⟨b, 0, none⟩) := by unfold pq; rw [h]; rfl
def pqo (hs : List (List UInt8 × PH)) (q : List UInt8) (o : Nat) : Value := .pointer ((mget hs q).map fun h => ⟨h.1, o, none⟩)
theorem pqo_some {hs : List (List UInt8 × PH)} {q : List UInt8} {b o : Nat} {r : Option Nat} (h : mget hs q = some (b, r)) : pqo hs q o = .pointer (some ⟨b, o, none⟩) := by unfold pqo; rw [h]; rfl
theorem isSome_of {α : Type} {o : Option α} (h : o.isNone = false) : o.isSome = true := by
  cases o with
  | none => cases h
  | some x => rfl
theorem getD_some {α : Type} {o : Option α} {z : α} (h : o.isSome = true) : o = some (o.getD z) := by
  cases o with
  | none => cases h
  | some x => rfl
section
variable {ps : List (Option Nat)} {Q : Option Nat → Prop} {n m : Nat} {F qs : List (Option Nat)} {q row : Option Nat} {w : World}
theorem apH {p : Option Nat} (h : AllP Q (p :: ps)) : Q p := h _ (List.Mem.head _)
theorem apNl : AllP (Dj none) ps := fun _ _ => Dj.nl
theorem InA.mem (h : ∀ p, List.Mem p F → List.Mem p ps) : AllP (InP ps n) F := fun p hp => InP.mem (h p hp)
theorem InA.ge (h : AllP (fun p => Ge p n) F) : AllP (InP ps n) F := fun p hp => InP.ge (h p hp)
theorem InA.trans (h : AllP (InP qs m) F) (k : AllP (InP ps n) qs) (hm : n ≤ m) : AllP (InP ps n) F := fun p hp => (h p hp).trans k hm
theorem InA.toGe (h : AllP (InP qs m) F) (k : AllP (fun q => Ge q n) qs) (hm : n ≤ m) : AllP (fun q => Ge q n) F := fun p hp => (h p hp).toGe k hm
theorem InA.dj (h : AllP (InP qs m) F) (hq : Lt q m) (k : AllP (Dj q) qs) : AllP (Dj q) F := fun p hp => ((h p hp).dj hq k).symm
theorem InA.dn {α : Type} {xs : List α} (h : AllP (InP qs m) F) (hq : xs ≠ [] → Lt q m) (k : AllP (Dn xs q) qs) : AllP (Dn xs q) F := fun p hp => (h p hp).dn hq k
end
/-- where a pool lies: its map, its boxes, what hangs on them; without the one that is open -/
def FP (m : Nat) (hs : List (List UInt8 × PH)) (q0 : Option (List UInt8)) : List (Option Nat) := some m :: (hs.filter fun h => decide (some h.1 ≠ q0)).flatMap fun h => [some h.2.1, h.2.2]
structure PE (X : Type) where
  rel : World → PH → X → Prop
  goL : ∀ {w w' : World} {h : PH} {x : X} {ps : List (Option Nat)}, rel w h x → GrL ps w w' → AllP (Dj (some h.1)) ps → AllP (Dj h.2) ps → rel w' h x
  lt : ∀ {w : World} {h : PH} {x : X}, rel w h x → Lt (some h.1) w.heap.size ∧ Lt h.2 w.heap.size
  isc : Nat → Bool
  sc : X → Nat → Value
  hsc : ∀ {w : World} {h : PH} {x : X} {o : Nat}, isc o = true → rel w h x → w.cell? ⟨h.1, o, none⟩ = some (sc x o)
  noat : ∀ {w : World} {h : PH} {x : X}, rel w h x → NoAt w (some h.1) ∧ NoAt w h.2
structure PoolO {X : Type} (d : PE X) (w : World) (m : Nat) (hs : List (List UInt8 × PH)) (fs : List (List UInt8 × X)) (q0 : Option (List UInt8)) : Prop where
  map : MapB vs okS vP w m (mmap some hs)
  keys : hs.map (·.1) = fs.map (·.1)
  rel : ∀ q h x, mget hs q = some h → mget fs q = some x → some q ≠ q0 → d.rel w h x
  dm : ∀ q h, mget hs q = some h → some q ≠ q0 → Dj (some m) (some h.1) ∧ Dj (some m) h.2
  dd : ∀ q q' h h', q ≠ q' → mget hs q = some h → mget hs q' = some h' → some q ≠ q0 → some q' ≠ q0 → Dj (some h.1) (some h'.1) ∧ Dj (some h.1) h'.2 ∧ Dj h.2 (some h'.1) ∧ Dj h.2 h'.2
section
variable {X : Type} {d : PE X} {w w' : World} {m : Nat} {hs : List (List UInt8 × PH)} {fs : List (List UInt8 × X)} {q0 : Option (List UInt8)} {Q : Option Nat → Prop} {ps : List (Option Nat)} {row p : Option Nat} {q : List UInt8} {x x' : X} {b : Nat} {r r' : Option Nat}
theorem PoolO.uq (h : PoolO d w m hs fs q0) : Uq hs := by
  have := h.map.uq
  unfold Uq mmap at *
  rw [List.map_map] at this
  exact this
theorem PoolO.some_iff (h : PoolO d w m hs fs q0) (q : List UInt8) : (mget hs q).isSome = (mget fs q).isSome := mget_keys h.keys q
theorem allFP (hu : Uq hs) : AllP Q (FP m hs q0) ↔ Q (some m) ∧ ∀ q h, mget hs q = some h → some q ≠ q0 → Q (some h.1) ∧ Q h.2 := by
  constructor
  · intro h
    refine ⟨h _ (List.Mem.head _), fun q k hk hq => ?_⟩
    have hm := (mget_mem hu).1 hk
    have hf : (q, k) ∈ hs.filter fun h => decide (some h.1 ≠ q0) := List.mem_filter.2 ⟨hm, by simpa using hq⟩
    exact ⟨h _ (List.Mem.tail _ (List.mem_flatMap.2 ⟨_, hf, by simp⟩)), h _ (List.Mem.tail _ (List.mem_flatMap.2 ⟨_, hf, by simp⟩))⟩
  · rintro ⟨h1, h2⟩ p hp
    cases hp with
    | head => exact h1
    | tail _ hp =>
      obtain ⟨k, hk, hp⟩ := List.mem_flatMap.1 hp
      obtain ⟨hm, hq⟩ := List.mem_filter.1 hk
      have h3 := h2 k.1 k.2 ((mget_mem hu).2 hm) (by simpa using hq)
      simp only [List.mem_cons, List.not_mem_nil, or_false] at hp
      rcases hp with rfl | rfl
      · exact h3.1
      · exact h3.2
theorem PoolO.goL (h : PoolO d w m hs fs q0) (hg : GrL ps w w') (hd : AllP (fun r => AllP (Dj r) (FP m hs q0)) ps) : PoolO d w' m hs fs q0 :=
  ⟨h.map.goL hg fun p hp => (((allFP h.uq).1 (hd p hp)).1).symm, h.keys, fun q k x hk hx hq => d.goL (h.rel q k x hk hx hq) hg (fun p hp => ((((allFP h.uq).1 (hd p hp)).2 q k hk hq).1).symm) (fun p hp => ((((allFP h.uq).1 (hd p hp)).2 q k hk hq).2).symm), h.dm, h.dd⟩
theorem PoolO.go (h : PoolO d w m hs fs q0) (hg : w.grownBy w' row) (hd : AllP (Dj row) (FP m hs q0)) : PoolO d w' m hs fs q0 := h.goL (GrL.of1 hg) (apC hd apN)
theorem PoolO.g0 (h : PoolO d w m hs fs q0) (hg : w.grownBy w' none) : PoolO d w' m hs fs q0 := h.goL (ps := []) (GrL.of0 hg) apN
theorem PoolO.eqv (hw : Eqv w w') (h : PoolO d w m hs fs q0) : PoolO d w' m hs fs q0 := h.g0 (gr_eqv (gr_refl w none) hw)
theorem PoolO.lts (h : PoolO d w m hs fs q0) (hf : (∀ q, (mget hs q).isSome = (mget fs q).isSome)) : AllP (fun p => Lt p w.heap.size) (FP m hs q0) := (allFP h.uq).2 ⟨h.map.lt', fun q k hk hq => by
  have h1 := hf q
  rw [hk, Option.isSome_some] at h1
  obtain ⟨x, hx⟩ := Option.isSome_iff_exists.1 h1.symm
  exact d.lt (h.rel q k x hk hx hq)⟩
theorem PoolO.lt' (h : PoolO d w m hs fs q0) : AllP (fun p => Lt p w.heap.size) (FP m hs q0) := h.lts h.some_iff
/-- what is new lies apart from it -/
theorem PoolO.new (h : PoolO d w m hs fs q0) (hp : Ge p w.heap.size) : AllP (Dj p) (FP m hs q0) := fun r hr => (Dj.new (h.lt' r hr) hp).symm
theorem PoolO.inp (h : PoolO d w m hs fs q0) (hp : InP ps w.heap.size p) (hd : AllP (fun r => AllP (Dj r) (FP m hs q0)) ps) : AllP (Dj p) (FP m hs q0) := fun r hr => InP.dj hp (h.lt' r hr) (fun s hs' => (hd s hs' r hr).symm)
theorem PoolO.app {p' : Option Nat} (h : PoolO d w m hs fs q0) (k : AllP (Dj p) (FP m hs q0)) (hk : ∀ g, p' = some g → p = some g ∨ w.heap.size ≤ g) : AllP (Dj p') (FP m hs q0) := fun r hr => Dj.app (k r hr) (h.lt' r hr) hk
/-- one is opened -/
theorem PoolO.open (h : PoolO d w m hs fs none) (hx : mget fs q = some x) : ∃ b r, mget hs q = some (b, r) ∧ d.rel w (b, r) x ∧ PoolO d w m hs fs (some q) ∧ AllP (Dj (some b)) (FP m hs (some q)) ∧ AllP (Dj r) (FP m hs (some q)) := by
  have h1 := h.some_iff q
  rw [hx, Option.isSome_some] at h1
  obtain ⟨⟨b, r⟩, hk⟩ := Option.isSome_iff_exists.1 h1
  have hm := h.dm q _ hk (by simp)
  refine ⟨b, r, hk, h.rel q _ x hk hx (by simp), ⟨h.map, h.keys, fun q' k y hk' hy _ => h.rel q' k y hk' hy (by simp), fun q' k hk' _ => h.dm q' k hk' (by simp), fun q' q2 k k2 hne hk' hk2 _ _ => h.dd q' q2 k k2 hne hk' hk2 (by simp) (by simp)⟩, ?_, ?_⟩
  · refine (allFP h.uq).2 ⟨hm.1.symm, fun q' k hk' hq' => ?_⟩
    have := h.dd q q' _ k (fun e => hq' (by rw [e])) hk hk' (by simp) (by simp)
    exact ⟨this.1, this.2.1⟩
  · refine (allFP h.uq).2 ⟨hm.2.symm, fun q' k hk' hq' => ?_⟩
    have := h.dd q q' _ k (fun e => hq' (by rw [e])) hk hk' (by simp) (by simp)
    exact ⟨this.2.2.1, this.2.2.2⟩
theorem PoolO.peek (h : PoolO d w m hs fs none) (hx : mget fs q = some x) : ∃ b r, mget hs q = some (b, r) ∧ d.rel w (b, r) x := by
  obtain ⟨b, r, h1, h2, _⟩ := h.open hx
  exact ⟨b, r, h1, h2⟩
theorem PoolO.sub (h : PoolO d w m hs fs q0) (k : AllP Q (FP m hs none)) : AllP Q (FP m hs (some q)) := (allFP h.uq).2 ⟨((allFP h.uq).1 k).1, fun q' k' hk' _ => ((allFP h.uq).1 k).2 q' k' hk' (by simp)⟩
theorem PoolO.at1 (h : PoolO d w m hs fs q0) (hk : mget hs q = some (b, r)) (k : AllP Q (FP m hs none)) : Q (some b) := (((allFP h.uq).1 k).2 q _ hk (by simp)).1
theorem PoolO.at2 (h : PoolO d w m hs fs q0) (hk : mget hs q = some (b, r)) (k : AllP Q (FP m hs none)) : Q r := (((allFP h.uq).1 k).2 q _ hk (by simp)).2
/-- closed again -/
theorem PoolO.close (h : PoolO d w m hs fs (some q)) (hk : mget hs q = some (b, r)) (hr : d.rel w (b, r') x') (h1 : AllP (Dj (some b)) (FP m hs (some q))) (h2 : AllP (Dj r') (FP m hs (some q))) : PoolO d w m (mput hs q (b, r')) (mput fs q x') none := by
  have hu := h.uq
  have hS : (mget fs q).isSome = true := by rw [← h.some_iff, hk]; rfl
  have h1' := (allFP hu).1 h1
  have h2' := (allFP hu).1 h2
  have old : ∀ {q' k}, mget (mput hs q (b, r')) q' = some k → (q' = q ∧ k = (b, r')) ∨ (some q' ≠ some q ∧ mget hs q' = some k) := fun {q' k} e => by
    rw [mget_mput] at e
    split at e
    · rename_i e2; simp only [Option.some.injEq] at e; exact .inl ⟨e2.symm, e.symm⟩
    · rename_i e2; exact .inr ⟨fun e3 => e2 (Option.some.inj e3).symm, e⟩
  refine ⟨?_, ?_, ?_, ?_, ?_⟩
  · obtain ⟨es, clock, hb, hst, hsz, hok, he⟩ := h.map
    refine ⟨es, clock, hb, hst, hsz, ?_, ?_⟩
    · intro p hp
      obtain ⟨p', hp', rfl⟩ := List.mem_map.1 hp
      rcases mput_mem hp' with rfl | hp'
      · exact hok (q, some (b, r)) (List.mem_map.2 ⟨_, (mget_mem hu).1 hk, rfl⟩)
      · exact hok _ (List.mem_map.2 ⟨_, hp', rfl⟩)
    · rw [he]
      unfold mmap
      rw [List.map_map, List.map_map]
      have := mput_same (g := fun k : PH => vP (some k)) (v := (b, r')) (u := (b, r)) rfl hk
      have h3 := congrArg (List.map fun p => (vs p.1, p.2)) this
      rw [List.map_map, List.map_map] at h3
      exact h3.symm
  · rw [mput_keys, mput_keys, hk, hS]
    exact h.keys
  · intro q' k x hk' hx _
    rw [mget_mput] at hx
    rcases old hk' with ⟨rfl, rfl⟩ | ⟨hq', hk'⟩
    · rw [if_pos rfl] at hx
      cases hx; exact hr
    · rw [if_neg (fun e => hq' (by rw [e]))] at hx
      exact h.rel q' k x hk' hx hq'
  · intro q' k hk' _
    rcases old hk' with ⟨rfl, rfl⟩ | ⟨hq', hk'⟩
    · exact ⟨h1'.1.symm, h2'.1.symm⟩
    · exact h.dm q' k hk' hq'
  · intro q1 q2 k1 k2 hne hk1 hk2 _ _
    rcases old hk1 with ⟨rfl, rfl⟩ | ⟨hq1, hj1⟩ <;> rcases old hk2 with ⟨rfl, rfl⟩ | ⟨hq2, hj2⟩
    · exact absurd rfl hne
    · have a := h1'.2 q2 k2 hj2 hq2
      have c := h2'.2 q2 k2 hj2 hq2
      exact ⟨a.1, a.2, c.1, c.2⟩
    · have a := h1'.2 q1 k1 hj1 hq1
      have c := h2'.2 q1 k1 hj1 hq1
      exact ⟨a.1.symm, c.1.symm, a.2.symm, c.2.symm⟩
    · exact h.dd q1 q2 k1 k2 hne hj1 hj2 hq1 hq2
theorem PoolO.back (h : PoolO d w m hs fs (some q)) (hk : mget hs q = some (b, r)) (hx : mget fs q = some x) (hr : d.rel w (b, r) x) (h1 : AllP (Dj (some b)) (FP m hs (some q))) (h2 : AllP (Dj r) (FP m hs (some q))) : PoolO d w m hs fs none := by
  have hu := h.uq
  have h1' := (allFP hu).1 h1
  have h2' := (allFP hu).1 h2
  refine ⟨h.map, h.keys, fun q' k y hk' hy _ => ?_, fun q' k hk' _ => ?_, fun q1 q2 k1 k2 hne hk1 hk2 _ _ => ?_⟩
  · by_cases e : q' = q
    · subst e; rw [hk] at hk'; rw [hx] at hy; cases hk'; cases hy; exact hr
    · exact h.rel q' k y hk' hy (fun e2 => e (Option.some.inj e2))
  · by_cases e : q' = q
    · subst e; rw [hk] at hk'; cases hk'; exact ⟨h1'.1.symm, h2'.1.symm⟩
    · exact h.dm q' k hk' (fun e2 => e (Option.some.inj e2))
  · by_cases e1 : q1 = q
    · subst e1
      rw [hk] at hk1; cases hk1
      have e2 : some q2 ≠ some q1 := fun e => hne (Option.some.inj e).symm
      have a := h1'.2 q2 k2 hk2 e2
      have c := h2'.2 q2 k2 hk2 e2
      exact ⟨a.1, a.2, c.1, c.2⟩
    · by_cases e2 : q2 = q
      · subst e2
        rw [hk] at hk2; cases hk2
        have e3 : some q1 ≠ some q2 := fun e => hne (Option.some.inj e)
        have a := h1'.2 q1 k1 hk1 e3
        have c := h2'.2 q1 k1 hk1 e3
        exact ⟨a.1.symm, c.1.symm, a.2.symm, c.2.symm⟩
      · exact h.dd q1 q2 k1 k2 hne hk1 hk2 (fun e => e1 (Option.some.inj e)) (fun e => e2 (Option.some.inj e))
theorem PoolO.noats (h : PoolO d w m hs fs q0) : AllP (NoAt w) (FP m hs q0) := (allFP h.uq).2 ⟨NoAt.map h.map, fun q k hk hq => by
  have h1 := h.some_iff q
  rw [hk, Option.isSome_some] at h1
  obtain ⟨x, hx⟩ := Option.isSome_iff_exists.1 h1.symm
  exact d.noat (h.rel q k x hk hx hq)⟩
theorem PoolO.closeA (h : PoolO d w m hs fs q0) (k : AllP Q (FP m hs (some q))) (k1 : Q (some b)) (k2 : Q r') : AllP Q (FP m (mput hs q (b, r')) none) := by
  have hu := h.uq
  refine (allFP (hu.put q _)).2 ⟨((allFP hu).1 k).1, fun q' k' hk' _ => ?_⟩
  rw [mget_mput] at hk'
  split at hk'
  · cases hk'; exact ⟨k1, k2⟩
  · rename_i e
    exact ((allFP hu).1 k).2 q' k' hk' (fun e2 => e (Option.some.inj e2).symm)
/-- one is put in -/
theorem PoolO.putA (h : PoolO d w m hs fs none) (k : AllP Q (FP m hs none)) (k1 : Q (some b)) (k2 : Q r') : AllP Q (FP m (mput hs q (b, r')) none) := h.closeA (h.sub k) k1 k2
theorem PoolO.put (h : PoolO d w m hs fs none) (hM : MapB vs okS vP w' m (mput (mmap some hs) q (some (b, r)))) (hg : w.grownBy w' (some m)) (hr : d.rel w (b, r) x) (h1 : AllP (Dj (some b)) (FP m hs none)) (h2 : AllP (Dj r) (FP m hs none)) : PoolO d w' m (mput hs q (b, r)) (mput fs q x) none := by
  have hu := h.uq
  have h1' := (allFP hu).1 h1
  have h2' := (allFP hu).1 h2
  have old : ∀ {q' k}, mget (mput hs q (b, r)) q' = some k → (q' = q ∧ k = (b, r)) ∨ (q' ≠ q ∧ mget hs q' = some k) := fun {q' k} e => by
    rw [mget_mput] at e
    split at e
    · rename_i e2; simp only [Option.some.injEq] at e; exact .inl ⟨e2.symm, e.symm⟩
    · rename_i e2; exact .inr ⟨fun e3 => e2 e3.symm, e⟩
  have hkeys : (mput hs q (b, r)).map (·.1) = (mput fs q x).map (·.1) := by
    rw [mput_keys, mput_keys, h.some_iff q, h.keys]
  rw [mput_mmap] at hM
  refine ⟨hM, hkeys, ?_, ?_, ?_⟩
  · intro q' k x0 hk' hx _
    rw [mget_mput] at hx
    rcases old hk' with ⟨rfl, rfl⟩ | ⟨hq', hk'⟩
    · rw [if_pos rfl] at hx
      cases hx
      exact d.goL hr (GrL.of1 hg) (apC h1'.1 apN) (apC h2'.1 apN)
    · rw [if_neg (fun e => hq' e.symm)] at hx
      have hm := h.dm q' k hk' (by simp)
      exact d.goL (h.rel q' k x0 hk' hx (by simp)) (GrL.of1 hg) (apC hm.1.symm apN) (apC hm.2.symm apN)
  · intro q' k hk' _
    rcases old hk' with ⟨rfl, rfl⟩ | ⟨hq', hk'⟩
    · exact ⟨h1'.1.symm, h2'.1.symm⟩
    · exact h.dm q' k hk' (by simp)
  · intro q1 q2 k1 k2 hne hk1 hk2 _ _
    rcases old hk1 with ⟨rfl, rfl⟩ | ⟨hq1, hj1⟩ <;> rcases old hk2 with ⟨rfl, rfl⟩ | ⟨hq2, hj2⟩
    · exact absurd rfl hne
    · have a := h1'.2 q2 k2 hj2 (by simp)
      have c := h2'.2 q2 k2 hj2 (by simp)
      exact ⟨a.1, a.2, c.1, c.2⟩
    · have a := h1'.2 q1 k1 hj1 (by simp)
      have c := h2'.2 q1 k1 hj1 (by simp)
      exact ⟨a.1.symm, c.1.symm, a.2.symm, c.2.symm⟩
    · exact h.dd q1 q2 k1 k2 hne hj1 hj2 (by simp) (by simp)
theorem PoolO.empty (d : PE X) (h : MapB vs okS vP w m ([] : List (List UInt8 × Option PH))) : PoolO d w m [] [] none := ⟨h, rfl, fun q k x hk => by simp [mget] at hk, fun q k hk => by simp [mget] at hk, fun q q' k k' _ hk => by simp [mget] at hk⟩
theorem FP.nil (h : Q (some m)) : AllP Q (FP m [] q0) := by
  unfold FP
  exact apC h apN
/-! the rules -/
variable {P : Program} {N : Nat} {L : Slots} {ty t t' k e : TypeId} {pos : String} {af : Array Edge} {dd : Option Tmp} {y z u : Operand}
theorem Yld.plook (hK : KeyF P k vs okS) (ht : P.underlying t = some (.map k e)) (hz : ∀ w, (zeroValue e).run P w = .ok (.pointer none) w) (hm : PoolO d w m hs fs q0) (hx : opv L y = some (.map (some m))) (hy : opv L z = some (vs q)) (hq : q.length ≤ maxLen) :
    Yld P N w ⟨dd, .lookup t y z false, ty, pos, af, none⟩ L (pq hs q) := by
  have := Yld.look (P := P) (N := N) (ty := ty) (pos := pos) (af := af) (dd := dd) (z := (none : Option PH)) hK ht hz hm.map hx hy hq
  rw [mget_mmap] at this
  have e : ((mget hs q).map some).getD none = mget hs q := by cases mget hs q <;> rfl
  rw [e] at this
  exact this
theorem pq_none (h : PoolO d w m hs fs q0) (q : List UInt8) : pq hs q = .pointer none ∧ (mget fs q).isNone = true ∨ (∃ b, pq hs q = .pointer (some ⟨b, 0, none⟩)) ∧ (mget fs q).isNone = false := by
  have h1 := h.some_iff q
  unfold pq vP
  cases e : mget hs q with
  | none =>
    rw [e] at h1
    refine .inl ⟨rfl, ?_⟩
    cases f : mget fs q with
    | none => rfl
    | some x => rw [f] at h1; cases h1
  | some b =>
    rw [e] at h1
    refine .inr ⟨⟨b.1, rfl⟩, ?_⟩
    cases f : mget fs q with
    | none => rw [f] at h1; cases h1
    | some x => rfl
theorem Yld.peqP {w0 : World} (ht : P.underlying t = some (.pointer e)) (hm : PoolO d w0 m hs fs q0) (hx : opv L y = some (pq hs q)) (hy : opv L z = some (.pointer none)) : Yld P N w ⟨dd, .binOp .eql t y z t', ty, pos, af, none⟩ L (.bool (mget fs q).isNone) := by
  rcases pq_none hm q with ⟨h1, h2⟩ | ⟨⟨b, h1⟩, h2⟩
  · rw [h1] at hx; rw [h2]; exact Yld.peqnil ht hx hy
  · rw [h1] at hx; rw [h2]; exact Yld.peqnil ht hx hy
theorem Yld.pnenil {p : Option Addr} (h : P.underlying t = some (.pointer e)) (hx : opv L y = some (.pointer p)) (hy : opv L z = some (.pointer none)) : Yld P N w ⟨dd, .binOp .neq t y z t', ty, pos, af, none⟩ L (.bool p.isSome) := fun a w1 _ ha => by
  refine exec_bin (ha.ev hx) (ha.ev hy) (by unfold eqGuard; rfl) ?_
  have h : (Op.equal t (.pointer p) (.pointer none)).run P w1 = .ok p.isNone w1 := run_equal_of fun d => by
    cases p <;> simp [Op.equalIn, run_underlying h]
  simp [binOp, h]
theorem Yld.pneP {w0 : World} (ht : P.underlying t = some (.pointer e)) (hm : PoolO d w0 m hs fs q0) (hx : opv L y = some (pq hs q)) (hy : opv L z = some (.pointer none)) : Yld P N w ⟨dd, .binOp .neq t y z t', ty, pos, af, none⟩ L (.bool (mget fs q).isSome) := by
  have e : (mget fs q).isSome = !(mget fs q).isNone := by cases mget fs q <;> rfl
  rcases pq_none hm q with ⟨h1, h2⟩ | ⟨⟨b, h1⟩, h2⟩
  · rw [h1] at hx; rw [e, h2]; exact Yld.pnenil ht hx hy
  · rw [h1] at hx; rw [e, h2]; exact Yld.pnenil ht hx hy
theorem Yld.pchk {w0 : World} (h : PoolO d w0 m hs fs q0) (hk : (mget fs q).isSome = true) (hx : opv L y = some (pq hs q)) : Yld P N w ⟨dd, .nilCheck y, ty, pos, af, none⟩ L (pq hs q) := fun a w1 _ ha => by
  rw [← h.some_iff] at hk
  obtain ⟨⟨b, r⟩, hb⟩ := Option.isSome_iff_exists.1 hk
  rw [pq_some hb] at hx ⊢
  unfold execOp
  simp [ha.ev hx]
theorem Yld.pfa {w0 : World} {T : Tab} {fi o : Nat} {s : TypeId} {os : List Nat} (hT : T.Ok P) (h : PoolO d w0 m hs fs q0) (hk : (mget fs q).isSome = true) (hos : nk T.off s = some os) (ho : os[fi]? = some o) (hx : opv L y = some (pq hs q)) :
    Yld P N w ⟨dd, .fieldAddr s y fi, ty, pos, af, none⟩ L (pqo hs q o) := fun a w1 _ ha => by
  rw [← h.some_iff] at hk
  obtain ⟨⟨b, r⟩, hb⟩ := Option.isSome_iff_exists.1 hk
  rw [pq_some hb] at hx
  rw [pqo_some hb]
  obtain ⟨fs, hfs, hall⟩ := hT.off hos
  obtain ⟨fd, hfd, rfl, i, hi, hi0⟩ := hall _ _ ho
  unfold execOp
  simp [ha.ev hx, Instr.fieldAt, run_underlying hfs, hfd, Instr.sureAddr, fieldPlace, sizeOf, typeInfo, hi, hi0, Addr.add_mid]
theorem Yld.pld {T : Tab} {o : Nat} {z : X} {v : Value} {u0 : Unit} (hT : T.Ok P) (h : PoolO d w m hs fs none) (hk : (mget fs q).isSome = true) (hs1 : nk T.one t = some u0) (hx : opv L y = some (pqo hs q o)) (hi : d.isc o = true) (hv : d.sc ((mget fs q).getD z) o = v) :
    Yld P N w ⟨dd, .load t y, ty, pos, af, none⟩ L v := by
  have hx' := getD_some (z := z) hk
  obtain ⟨b, r, hb, hr⟩ := h.peek hx'
  rw [pqo_some hb] at hx
  exact Yld.cell hT ((d.hsc hi hr).trans (by rw [hv])) hs1 hx
theorem Ef0.poolPut (hK : KeyF P k vs okS) (ht : P.underlying t = some (.map k e)) (hm : PoolO d w m hs fs none) (hn : fs.length < maxLen) (hx : opv L y = some (.map (some m))) (hy : opv L z = some (vs q)) (hq : q.length ≤ maxLen) (hu : opv L u = some (.pointer (some ⟨b, 0, none⟩))) (hr : d.rel w (b, r) x) (h1 : AllP (Dj (some b)) (FP m hs none)) (h2 : AllP (Dj r) (FP m hs none)) :
    Ef0 P N w ⟨none, .mapUpdate t y z u, ty, pos, af, none⟩ L fun w' => PoolO d w' m (mput hs q (b, r)) (mput fs q x) none ∧ w.grownBy w' (some m) := by
  have hl : (mmap some hs).length < maxLen := by
    have := congrArg List.length hm.keys
    unfold mmap
    simp only [List.length_map] at this ⊢
    omega
  have := Ef0.mapPut (P := P) (N := N) (ty := ty) (pos := pos) (af := af) (fv := vP) (v := some (b, r)) hK ht hm.map hl hx hy hq hu
  intro a w1 hw ha
  obtain ⟨w', e1, h3, h4⟩ := this a w1 hw ha
  exact ⟨w', e1, hm.put h3 h4 hr h1 h2, h4⟩
end
end Go.Proofs.YtlonpmajnglmoaaDoor


 