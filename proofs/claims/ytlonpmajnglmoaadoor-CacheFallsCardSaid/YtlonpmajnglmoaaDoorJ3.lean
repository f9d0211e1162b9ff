/- Texts of this claim, joined by a program: Sha10, KeyA, Ord, Enc, GKa, GSa, Sent, GSb, Map, Mut, Pool, Rng, Disk0, Shelf2, KeysP. -/
import Derived.Test.YtlonpmajnglmoaaDoorJ2
import Derived.Maps.RangeRun
import Derived.Maps.Keyed
import Derived.Carry
import Derived.StringKeys
import Derived.Shelf.SlIter.Sorted
import Derived.Shelf.SlIter.Collect
import Derived.Ground.GgzProg
import Derived.Test.YtlonpmajnglmoaaDoorProg
namespace Go.Proofs.YtlonpmajnglmoaaDoor
open Go Go.RowKit
attribute [local irreducible] WL WC WX WQ WK Yld Eff Ef0 Fn
/-- what a digit says -/
def digV (c : UInt8) : Option Nat := if 48 ≤ c.toNat ∧ c.toNat ≤ 57 then some (c.toNat - 48) else if 97 ≤ c.toNat ∧ c.toNat ≤ 102 then some (c.toNat - 87) else none
theorem digV_lt {c : UInt8} {n : Nat} (h : digV c = some n) : n < 16 := by
  unfold digV at h
  split at h
  · injection h with h; omega
  · split at h
    · injection h with h; omega
    · cases h
def digR (c : UInt8) : Value := .tuple #[.int .u8 (((digV c).getD 0 : Nat) : Int), .bool (digV c).isSome]
theorem digit_fn (c : UInt8) (w : World) : Fn Tryd.prog 143 ⟨[vb c]⟩ w fun v w' => v = digR c ∧ w' = w := by
  have hc := c.toNat_lt
  refine Fn.enter (by kernel_rfl) Tryd.func143 rfl Tryd.ntmps143 rfl ?_
  repeat (first | refine WC.seq ?_ | refine WC.block ?_ | refine WC.region ?_ | refine WL.nil ?_ | refine WX.then_normal ?_ | refine WC.skip ?_ | refine WC.exit ?_ | refine WC.ret ?_ | refine WX.then_exit ?_ | refine WX.then_ret ?_ | refine WX.block_normal ?_ | refine WX.block_ret ?_ | refine WX.block_same ?_ | refine WX.block_other rfl ?_ | refine WC.label ?_ | refine WC.scope ?_ | refine WX.scope_normal ?_ | refine WX.scope_ret ?_ | refine WX.scope_exit ?_ | refine WL.y rfl (Yld.add rfl rfl (by simp only [In]; omega)) ?_ | refine WL.y rfl (Yld.sub rfl rfl (by simp only [In]; omega)) ?_ | refine WL.y rfl (Yld.mul rfl rfl (by simp only [In]; omega)) ?_ | refine WL.y rfl (Yld.convB tab_ok rfl rfl rfl rfl) ?_ | refine WL.y rfl (Yld.conv tab_ok rfl rfl rfl (by simp only [In]; omega)) ?_ | refine WL.y rfl (Yld.quo rfl rfl (by omega) (by omega) (by simp only [In]; omega)) ?_ | refine WL.y rfl (Yld.rem rfl rfl (by omega) (by omega)) ?_ | refine WL.y rfl (Yld.shl rfl rfl (by omega)) ?_ | refine WL.y rfl (Yld.shr rfl rfl (by omega)) ?_ | refine WL.y rfl (Yld.pure tab_ok rfl) ?_ | refine WL.y rfl (Yld.fld flds_ok rfl rfl rfl) ?_ | refine WL.y rfl (Yld.max2 rfl rfl) ?_ | refine WL.y rfl (Yld.min2 rfl rfl) ?_ | refine WL.y rfl (Yld.pickV rfl rfl rfl) ?_ | refine WL.gno rfl rfl rfl rfl ?_ | refine WL.gyes rfl rfl rfl rfl (Yld.add rfl rfl (by simp only [In]; omega)) ?_ | refine WL.gyes rfl rfl rfl rfl (Yld.sub rfl rfl (by simp only [In]; omega)) ?_ | refine WL.gyes rfl rfl rfl rfl (Yld.mul rfl rfl (by simp only [In]; omega)) ?_ | refine WL.gyes rfl rfl rfl rfl (Yld.convB tab_ok rfl rfl rfl rfl) ?_ | refine WL.gyes rfl rfl rfl rfl (Yld.conv tab_ok rfl rfl rfl (by simp only [In]; omega)) ?_ | refine WL.gyes rfl rfl rfl rfl (Yld.quo rfl rfl (by omega) (by omega) (by simp only [In]; omega)) ?_ | refine WL.gyes rfl rfl rfl rfl (Yld.rem rfl rfl (by omega) (by omega)) ?_ | refine WL.gyes rfl rfl rfl rfl (Yld.shl rfl rfl (by omega)) ?_ | refine WL.gyes rfl rfl rfl rfl (Yld.shr rfl rfl (by omega)) ?_ | refine WL.gyes rfl rfl rfl rfl (Yld.pure tab_ok rfl) ?_ | refine WL.gyes rfl rfl rfl rfl (Yld.fld flds_ok rfl rfl rfl) ?_ | refine WL.gyes rfl rfl rfl rfl (Yld.max2 rfl rfl) ?_ | refine WL.gyes rfl rfl rfl rfl (Yld.min2 rfl rfl) ?_ | refine WL.gyes rfl rfl rfl rfl (Yld.pickV rfl rfl rfl) ?_)
  generalize hb : decide ((48 : Int) ≤ (c.toNat : Int)) = b
  cases b
  · simp only [decide_eq_false_iff_not] at hb
    repeat (first | refine WC.seq ?_ | refine WC.block ?_ | refine WC.region ?_ | refine WL.nil ?_ | refine WX.then_normal ?_ | refine WC.skip ?_ | refine WC.exit ?_ | refine WC.ret ?_ | refine WX.then_exit ?_ | refine WX.then_ret ?_ | refine WX.block_normal ?_ | refine WX.block_ret ?_ | refine WX.block_same ?_ | refine WX.block_other rfl ?_ | refine WC.label ?_ | refine WC.scope ?_ | refine WX.scope_normal ?_ | refine WX.scope_ret ?_ | refine WX.scope_exit ?_ | refine WL.y rfl (Yld.add rfl rfl (by simp only [In]; omega)) ?_ | refine WL.y rfl (Yld.sub rfl rfl (by simp only [In]; omega)) ?_ | refine WL.y rfl (Yld.mul rfl rfl (by simp only [In]; omega)) ?_ | refine WL.y rfl (Yld.convB tab_ok rfl rfl rfl rfl) ?_ | refine WL.y rfl (Yld.conv tab_ok rfl rfl rfl (by simp only [In]; omega)) ?_ | refine WL.y rfl (Yld.quo rfl rfl (by omega) (by omega) (by simp only [In]; omega)) ?_ | refine WL.y rfl (Yld.rem rfl rfl (by omega) (by omega)) ?_ | refine WL.y rfl (Yld.shl rfl rfl (by omega)) ?_ | refine WL.y rfl (Yld.shr rfl rfl (by omega)) ?_ | refine WL.y rfl (Yld.pure tab_ok rfl) ?_ | refine WL.y rfl (Yld.fld flds_ok rfl rfl rfl) ?_ | refine WL.y rfl (Yld.max2 rfl rfl) ?_ | refine WL.y rfl (Yld.min2 rfl rfl) ?_ | refine WL.y rfl (Yld.pickV rfl rfl rfl) ?_ | refine WL.gno rfl rfl rfl rfl ?_ | refine WL.gyes rfl rfl rfl rfl (Yld.add rfl rfl (by simp only [In]; omega)) ?_ | refine WL.gyes rfl rfl rfl rfl (Yld.sub rfl rfl (by simp only [In]; omega)) ?_ | refine WL.gyes rfl rfl rfl rfl (Yld.mul rfl rfl (by simp only [In]; omega)) ?_ | refine WL.gyes rfl rfl rfl rfl (Yld.convB tab_ok rfl rfl rfl rfl) ?_ | refine WL.gyes rfl rfl rfl rfl (Yld.conv tab_ok rfl rfl rfl (by simp only [In]; omega)) ?_ | refine WL.gyes rfl rfl rfl rfl (Yld.quo rfl rfl (by omega) (by omega) (by simp only [In]; omega)) ?_ | refine WL.gyes rfl rfl rfl rfl (Yld.rem rfl rfl (by omega) (by omega)) ?_ | refine WL.gyes rfl rfl rfl rfl (Yld.shl rfl rfl (by omega)) ?_ | refine WL.gyes rfl rfl rfl rfl (Yld.shr rfl rfl (by omega)) ?_ | refine WL.gyes rfl rfl rfl rfl (Yld.pure tab_ok rfl) ?_ | refine WL.gyes rfl rfl rfl rfl (Yld.fld flds_ok rfl rfl rfl) ?_ | refine WL.gyes rfl rfl rfl rfl (Yld.max2 rfl rfl) ?_ | refine WL.gyes rfl rfl rfl rfl (Yld.min2 rfl rfl) ?_ | refine WL.gyes rfl rfl rfl rfl (Yld.pickV rfl rfl rfl) ?_)
    refine WC.cond rfl (fun h => by cases h) (fun _ => ?_)
    repeat (first | refine WC.seq ?_ | refine WC.block ?_ | refine WC.region ?_ | refine WL.nil ?_ | refine WX.then_normal ?_ | refine WC.skip ?_ | refine WC.exit ?_ | refine WC.ret ?_ | refine WX.then_exit ?_ | refine WX.then_ret ?_ | refine WX.block_normal ?_ | refine WX.block_ret ?_ | refine WX.block_same ?_ | refine WX.block_other rfl ?_ | refine WC.label ?_ | refine WC.scope ?_ | refine WX.scope_normal ?_ | refine WX.scope_ret ?_ | refine WX.scope_exit ?_ | refine WL.y rfl (Yld.add rfl rfl (by simp only [In]; omega)) ?_ | refine WL.y rfl (Yld.sub rfl rfl (by simp only [In]; omega)) ?_ | refine WL.y rfl (Yld.mul rfl rfl (by simp only [In]; omega)) ?_ | refine WL.y rfl (Yld.convB tab_ok rfl rfl rfl rfl) ?_ | refine WL.y rfl (Yld.conv tab_ok rfl rfl rfl (by simp only [In]; omega)) ?_ | refine WL.y rfl (Yld.quo rfl rfl (by omega) (by omega) (by simp only [In]; omega)) ?_ | refine WL.y rfl (Yld.rem rfl rfl (by omega) (by omega)) ?_ | refine WL.y rfl (Yld.shl rfl rfl (by omega)) ?_ | refine WL.y rfl (Yld.shr rfl rfl (by omega)) ?_ | refine WL.y rfl (Yld.pure tab_ok rfl) ?_ | refine WL.y rfl (Yld.fld flds_ok rfl rfl rfl) ?_ | refine WL.y rfl (Yld.max2 rfl rfl) ?_ | refine WL.y rfl (Yld.min2 rfl rfl) ?_ | refine WL.y rfl (Yld.pickV rfl rfl rfl) ?_ | refine WL.gno rfl rfl rfl rfl ?_ | refine WL.gyes rfl rfl rfl rfl (Yld.add rfl rfl (by simp only [In]; omega)) ?_ | refine WL.gyes rfl rfl rfl rfl (Yld.sub rfl rfl (by simp only [In]; omega)) ?_ | refine WL.gyes rfl rfl rfl rfl (Yld.mul rfl rfl (by simp only [In]; omega)) ?_ | refine WL.gyes rfl rfl rfl rfl (Yld.convB tab_ok rfl rfl rfl rfl) ?_ | refine WL.gyes rfl rfl rfl rfl (Yld.conv tab_ok rfl rfl rfl (by simp only [In]; omega)) ?_ | refine WL.gyes rfl rfl rfl rfl (Yld.quo rfl rfl (by omega) (by omega) (by simp only [In]; omega)) ?_ | refine WL.gyes rfl rfl rfl rfl (Yld.rem rfl rfl (by omega) (by omega)) ?_ | refine WL.gyes rfl rfl rfl rfl (Yld.shl rfl rfl (by omega)) ?_ | refine WL.gyes rfl rfl rfl rfl (Yld.shr rfl rfl (by omega)) ?_ | refine WL.gyes rfl rfl rfl rfl (Yld.pure tab_ok rfl) ?_ | refine WL.gyes rfl rfl rfl rfl (Yld.fld flds_ok rfl rfl rfl) ?_ | refine WL.gyes rfl rfl rfl rfl (Yld.max2 rfl rfl) ?_ | refine WL.gyes rfl rfl rfl rfl (Yld.min2 rfl rfl) ?_ | refine WL.gyes rfl rfl rfl rfl (Yld.pickV rfl rfl rfl) ?_)
    generalize hb2 : decide ((97 : Int) ≤ (c.toNat : Int)) = b2
    cases b2
    · repeat (first | refine WC.seq ?_ | refine WC.block ?_ | refine WC.region ?_ | refine WL.nil ?_ | refine WX.then_normal ?_ | refine WC.skip ?_ | refine WC.exit ?_ | refine WC.ret ?_ | refine WX.then_exit ?_ | refine WX.then_ret ?_ | refine WX.block_normal ?_ | refine WX.block_ret ?_ | refine WX.block_same ?_ | refine WX.block_other rfl ?_ | refine WC.label ?_ | refine WC.scope ?_ | refine WX.scope_normal ?_ | refine WX.scope_ret ?_ | refine WX.scope_exit ?_ | refine WL.y rfl (Yld.add rfl rfl (by simp only [In]; omega)) ?_ | refine WL.y rfl (Yld.sub rfl rfl (by simp only [In]; omega)) ?_ | refine WL.y rfl (Yld.mul rfl rfl (by simp only [In]; omega)) ?_ | refine WL.y rfl (Yld.convB tab_ok rfl rfl rfl rfl) ?_ | refine WL.y rfl (Yld.conv tab_ok rfl rfl rfl (by simp only [In]; omega)) ?_ | refine WL.y rfl (Yld.quo rfl rfl (by omega) (by omega) (by simp only [In]; omega)) ?_ | refine WL.y rfl (Yld.rem rfl rfl (by omega) (by omega)) ?_ | refine WL.y rfl (Yld.shl rfl rfl (by omega)) ?_ | refine WL.y rfl (Yld.shr rfl rfl (by omega)) ?_ | refine WL.y rfl (Yld.pure tab_ok rfl) ?_ | refine WL.y rfl (Yld.fld flds_ok rfl rfl rfl) ?_ | refine WL.y rfl (Yld.max2 rfl rfl) ?_ | refine WL.y rfl (Yld.min2 rfl rfl) ?_ | refine WL.y rfl (Yld.pickV rfl rfl rfl) ?_ | refine WL.gno rfl rfl rfl rfl ?_ | refine WL.gyes rfl rfl rfl rfl (Yld.add rfl rfl (by simp only [In]; omega)) ?_ | refine WL.gyes rfl rfl rfl rfl (Yld.sub rfl rfl (by simp only [In]; omega)) ?_ | refine WL.gyes rfl rfl rfl rfl (Yld.mul rfl rfl (by simp only [In]; omega)) ?_ | refine WL.gyes rfl rfl rfl rfl (Yld.convB tab_ok rfl rfl rfl rfl) ?_ | refine WL.gyes rfl rfl rfl rfl (Yld.conv tab_ok rfl rfl rfl (by simp only [In]; omega)) ?_ | refine WL.gyes rfl rfl rfl rfl (Yld.quo rfl rfl (by omega) (by omega) (by simp only [In]; omega)) ?_ | refine WL.gyes rfl rfl rfl rfl (Yld.rem rfl rfl (by omega) (by omega)) ?_ | refine WL.gyes rfl rfl rfl rfl (Yld.shl rfl rfl (by omega)) ?_ | refine WL.gyes rfl rfl rfl rfl (Yld.shr rfl rfl (by omega)) ?_ | refine WL.gyes rfl rfl rfl rfl (Yld.pure tab_ok rfl) ?_ | refine WL.gyes rfl rfl rfl rfl (Yld.fld flds_ok rfl rfl rfl) ?_ | refine WL.gyes rfl rfl rfl rfl (Yld.max2 rfl rfl) ?_ | refine WL.gyes rfl rfl rfl rfl (Yld.min2 rfl rfl) ?_ | refine WL.gyes rfl rfl rfl rfl (Yld.pickV rfl rfl rfl) ?_)
      refine WC.cond rfl (fun h => by cases h) (fun _ => ?_)
      repeat (first | refine WC.seq ?_ | refine WC.block ?_ | refine WC.region ?_ | refine WL.nil ?_ | refine WX.then_normal ?_ | refine WC.skip ?_ | refine WC.exit ?_ | refine WC.ret ?_ | refine WX.then_exit ?_ | refine WX.then_ret ?_ | refine WX.block_normal ?_ | refine WX.block_ret ?_ | refine WX.block_same ?_ | refine WX.block_other rfl ?_ | refine WC.label ?_ | refine WC.scope ?_ | refine WX.scope_normal ?_ | refine WX.scope_ret ?_ | refine WX.scope_exit ?_ | refine WL.y rfl (Yld.add rfl rfl (by simp only [In]; omega)) ?_ | refine WL.y rfl (Yld.sub rfl rfl (by simp only [In]; omega)) ?_ | refine WL.y rfl (Yld.mul rfl rfl (by simp only [In]; omega)) ?_ | refine WL.y rfl (Yld.convB tab_ok rfl rfl rfl rfl) ?_ | refine WL.y rfl (Yld.conv tab_ok rfl rfl rfl (by simp only [In]; omega)) ?_ | refine WL.y rfl (Yld.quo rfl rfl (by omega) (by omega) (by simp only [In]; omega)) ?_ | refine WL.y rfl (Yld.rem rfl rfl (by omega) (by omega)) ?_ | refine WL.y rfl (Yld.shl rfl rfl (by omega)) ?_ | refine WL.y rfl (Yld.shr rfl rfl (by omega)) ?_ | refine WL.y rfl (Yld.pure tab_ok rfl) ?_ | refine WL.y rfl (Yld.fld flds_ok rfl rfl rfl) ?_ | refine WL.y rfl (Yld.max2 rfl rfl) ?_ | refine WL.y rfl (Yld.min2 rfl rfl) ?_ | refine WL.y rfl (Yld.pickV rfl rfl rfl) ?_ | refine WL.gno rfl rfl rfl rfl ?_ | refine WL.gyes rfl rfl rfl rfl (Yld.add rfl rfl (by simp only [In]; omega)) ?_ | refine WL.gyes rfl rfl rfl rfl (Yld.sub rfl rfl (by simp only [In]; omega)) ?_ | refine WL.gyes rfl rfl rfl rfl (Yld.mul rfl rfl (by simp only [In]; omega)) ?_ | refine WL.gyes rfl rfl rfl rfl (Yld.convB tab_ok rfl rfl rfl rfl) ?_ | refine WL.gyes rfl rfl rfl rfl (Yld.conv tab_ok rfl rfl rfl (by simp only [In]; omega)) ?_ | refine WL.gyes rfl rfl rfl rfl (Yld.quo rfl rfl (by omega) (by omega) (by simp only [In]; omega)) ?_ | refine WL.gyes rfl rfl rfl rfl (Yld.rem rfl rfl (by omega) (by omega)) ?_ | refine WL.gyes rfl rfl rfl rfl (Yld.shl rfl rfl (by omega)) ?_ | refine WL.gyes rfl rfl rfl rfl (Yld.shr rfl rfl (by omega)) ?_ | refine WL.gyes rfl rfl rfl rfl (Yld.pure tab_ok rfl) ?_ | refine WL.gyes rfl rfl rfl rfl (Yld.fld flds_ok rfl rfl rfl) ?_ | refine WL.gyes rfl rfl rfl rfl (Yld.max2 rfl rfl) ?_ | refine WL.gyes rfl rfl rfl rfl (Yld.min2 rfl rfl) ?_ | refine WL.gyes rfl rfl rfl rfl (Yld.pickV rfl rfl rfl) ?_)
      have : digV c = none := by unfold digV; rw [if_neg (by omega), if_neg (by omega)]
      exact WX.ret2 rfl rfl rfl ⟨by rw [digR, this]; rfl, rfl⟩
    · simp only [decide_eq_true_eq] at hb2
      omega
  · simp only [decide_eq_true_eq] at hb
    repeat (first | refine WC.seq ?_ | refine WC.block ?_ | refine WC.region ?_ | refine WL.nil ?_ | refine WX.then_normal ?_ | refine WC.skip ?_ | refine WC.exit ?_ | refine WC.ret ?_ | refine WX.then_exit ?_ | refine WX.then_ret ?_ | refine WX.block_normal ?_ | refine WX.block_ret ?_ | refine WX.block_same ?_ | refine WX.block_other rfl ?_ | refine WC.label ?_ | refine WC.scope ?_ | refine WX.scope_normal ?_ | refine WX.scope_ret ?_ | refine WX.scope_exit ?_ | refine WL.y rfl (Yld.add rfl rfl (by simp only [In]; omega)) ?_ | refine WL.y rfl (Yld.sub rfl rfl (by simp only [In]; omega)) ?_ | refine WL.y rfl (Yld.mul rfl rfl (by simp only [In]; omega)) ?_ | refine WL.y rfl (Yld.convB tab_ok rfl rfl rfl rfl) ?_ | refine WL.y rfl (Yld.conv tab_ok rfl rfl rfl (by simp only [In]; omega)) ?_ | refine WL.y rfl (Yld.quo rfl rfl (by omega) (by omega) (by simp only [In]; omega)) ?_ | refine WL.y rfl (Yld.rem rfl rfl (by omega) (by omega)) ?_ | refine WL.y rfl (Yld.shl rfl rfl (by omega)) ?_ | refine WL.y rfl (Yld.shr rfl rfl (by omega)) ?_ | refine WL.y rfl (Yld.pure tab_ok rfl) ?_ | refine WL.y rfl (Yld.fld flds_ok rfl rfl rfl) ?_ | refine WL.y rfl (Yld.max2 rfl rfl) ?_ | refine WL.y rfl (Yld.min2 rfl rfl) ?_ | refine WL.y rfl (Yld.pickV rfl rfl rfl) ?_ | refine WL.gno rfl rfl rfl rfl ?_ | refine WL.gyes rfl rfl rfl rfl (Yld.add rfl rfl (by simp only [In]; omega)) ?_ | refine WL.gyes rfl rfl rfl rfl (Yld.sub rfl rfl (by simp only [In]; omega)) ?_ | refine WL.gyes rfl rfl rfl rfl (Yld.mul rfl rfl (by simp only [In]; omega)) ?_ | refine WL.gyes rfl rfl rfl rfl (Yld.convB tab_ok rfl rfl rfl rfl) ?_ | refine WL.gyes rfl rfl rfl rfl (Yld.conv tab_ok rfl rfl rfl (by simp only [In]; omega)) ?_ | refine WL.gyes rfl rfl rfl rfl (Yld.quo rfl rfl (by omega) (by omega) (by simp only [In]; omega)) ?_ | refine WL.gyes rfl rfl rfl rfl (Yld.rem rfl rfl (by omega) (by omega)) ?_ | refine WL.gyes rfl rfl rfl rfl (Yld.shl rfl rfl (by omega)) ?_ | refine WL.gyes rfl rfl rfl rfl (Yld.shr rfl rfl (by omega)) ?_ | refine WL.gyes rfl rfl rfl rfl (Yld.pure tab_ok rfl) ?_ | refine WL.gyes rfl rfl rfl rfl (Yld.fld flds_ok rfl rfl rfl) ?_ | refine WL.gyes rfl rfl rfl rfl (Yld.max2 rfl rfl) ?_ | refine WL.gyes rfl rfl rfl rfl (Yld.min2 rfl rfl) ?_ | refine WL.gyes rfl rfl rfl rfl (Yld.pickV rfl rfl rfl) ?_)
    refine WC.cond rfl (fun h => ?_) (fun h => ?_)
    · simp only [cond_true, decide_eq_true_eq] at h
      repeat (first | refine WC.seq ?_ | refine WC.block ?_ | refine WC.region ?_ | refine WL.nil ?_ | refine WX.then_normal ?_ | refine WC.skip ?_ | refine WC.exit ?_ | refine WC.ret ?_ | refine WX.then_exit ?_ | refine WX.then_ret ?_ | refine WX.block_normal ?_ | refine WX.block_ret ?_ | refine WX.block_same ?_ | refine WX.block_other rfl ?_ | refine WC.label ?_ | refine WC.scope ?_ | refine WX.scope_normal ?_ | refine WX.scope_ret ?_ | refine WX.scope_exit ?_ | refine WL.y rfl (Yld.add rfl rfl (by simp only [In]; omega)) ?_ | refine WL.y rfl (Yld.sub rfl rfl (by simp only [In]; omega)) ?_ | refine WL.y rfl (Yld.mul rfl rfl (by simp only [In]; omega)) ?_ | refine WL.y rfl (Yld.convB tab_ok rfl rfl rfl rfl) ?_ | refine WL.y rfl (Yld.conv tab_ok rfl rfl rfl (by simp only [In]; omega)) ?_ | refine WL.y rfl (Yld.quo rfl rfl (by omega) (by omega) (by simp only [In]; omega)) ?_ | refine WL.y rfl (Yld.rem rfl rfl (by omega) (by omega)) ?_ | refine WL.y rfl (Yld.shl rfl rfl (by omega)) ?_ | refine WL.y rfl (Yld.shr rfl rfl (by omega)) ?_ | refine WL.y rfl (Yld.pure tab_ok rfl) ?_ | refine WL.y rfl (Yld.fld flds_ok rfl rfl rfl) ?_ | refine WL.y rfl (Yld.max2 rfl rfl) ?_ | refine WL.y rfl (Yld.min2 rfl rfl) ?_ | refine WL.y rfl (Yld.pickV rfl rfl rfl) ?_ | refine WL.gno rfl rfl rfl rfl ?_ | refine WL.gyes rfl rfl rfl rfl (Yld.add rfl rfl (by simp only [In]; omega)) ?_ | refine WL.gyes rfl rfl rfl rfl (Yld.sub rfl rfl (by simp only [In]; omega)) ?_ | refine WL.gyes rfl rfl rfl rfl (Yld.mul rfl rfl (by simp only [In]; omega)) ?_ | refine WL.gyes rfl rfl rfl rfl (Yld.convB tab_ok rfl rfl rfl rfl) ?_ | refine WL.gyes rfl rfl rfl rfl (Yld.conv tab_ok rfl rfl rfl (by simp only [In]; omega)) ?_ | refine WL.gyes rfl rfl rfl rfl (Yld.quo rfl rfl (by omega) (by omega) (by simp only [In]; omega)) ?_ | refine WL.gyes rfl rfl rfl rfl (Yld.rem rfl rfl (by omega) (by omega)) ?_ | refine WL.gyes rfl rfl rfl rfl (Yld.shl rfl rfl (by omega)) ?_ | refine WL.gyes rfl rfl rfl rfl (Yld.shr rfl rfl (by omega)) ?_ | refine WL.gyes rfl rfl rfl rfl (Yld.pure tab_ok rfl) ?_ | refine WL.gyes rfl rfl rfl rfl (Yld.fld flds_ok rfl rfl rfl) ?_ | refine WL.gyes rfl rfl rfl rfl (Yld.max2 rfl rfl) ?_ | refine WL.gyes rfl rfl rfl rfl (Yld.min2 rfl rfl) ?_ | refine WL.gyes rfl rfl rfl rfl (Yld.pickV rfl rfl rfl) ?_)
      have : digV c = some (c.toNat - 48) := by unfold digV; rw [if_pos (by omega)]
      refine WX.ret2 rfl rfl rfl ⟨?_, rfl⟩
      rw [digR, this, Option.getD_some, show ((c.toNat - 48 : Nat) : Int) = (c.toNat : Int) - 48 by omega]
      rfl
    · simp only [cond_true, decide_eq_false_iff_not] at h
      repeat (first | refine WC.seq ?_ | refine WC.block ?_ | refine WC.region ?_ | refine WL.nil ?_ | refine WX.then_normal ?_ | refine WC.skip ?_ | refine WC.exit ?_ | refine WC.ret ?_ | refine WX.then_exit ?_ | refine WX.then_ret ?_ | refine WX.block_normal ?_ | refine WX.block_ret ?_ | refine WX.block_same ?_ | refine WX.block_other rfl ?_ | refine WC.label ?_ | refine WC.scope ?_ | refine WX.scope_normal ?_ | refine WX.scope_ret ?_ | refine WX.scope_exit ?_ | refine WL.y rfl (Yld.add rfl rfl (by simp only [In]; omega)) ?_ | refine WL.y rfl (Yld.sub rfl rfl (by simp only [In]; omega)) ?_ | refine WL.y rfl (Yld.mul rfl rfl (by simp only [In]; omega)) ?_ | refine WL.y rfl (Yld.convB tab_ok rfl rfl rfl rfl) ?_ | refine WL.y rfl (Yld.conv tab_ok rfl rfl rfl (by simp only [In]; omega)) ?_ | refine WL.y rfl (Yld.quo rfl rfl (by omega) (by omega) (by simp only [In]; omega)) ?_ | refine WL.y rfl (Yld.rem rfl rfl (by omega) (by omega)) ?_ | refine WL.y rfl (Yld.shl rfl rfl (by omega)) ?_ | refine WL.y rfl (Yld.shr rfl rfl (by omega)) ?_ | refine WL.y rfl (Yld.pure tab_ok rfl) ?_ | refine WL.y rfl (Yld.fld flds_ok rfl rfl rfl) ?_ | refine WL.y rfl (Yld.max2 rfl rfl) ?_ | refine WL.y rfl (Yld.min2 rfl rfl) ?_ | refine WL.y rfl (Yld.pickV rfl rfl rfl) ?_ | refine WL.gno rfl rfl rfl rfl ?_ | refine WL.gyes rfl rfl rfl rfl (Yld.add rfl rfl (by simp only [In]; omega)) ?_ | refine WL.gyes rfl rfl rfl rfl (Yld.sub rfl rfl (by simp only [In]; omega)) ?_ | refine WL.gyes rfl rfl rfl rfl (Yld.mul rfl rfl (by simp only [In]; omega)) ?_ | refine WL.gyes rfl rfl rfl rfl (Yld.convB tab_ok rfl rfl rfl rfl) ?_ | refine WL.gyes rfl rfl rfl rfl (Yld.conv tab_ok rfl rfl rfl (by simp only [In]; omega)) ?_ | refine WL.gyes rfl rfl rfl rfl (Yld.quo rfl rfl (by omega) (by omega) (by simp only [In]; omega)) ?_ | refine WL.gyes rfl rfl rfl rfl (Yld.rem rfl rfl (by omega) (by omega)) ?_ | refine WL.gyes rfl rfl rfl rfl (Yld.shl rfl rfl (by omega)) ?_ | refine WL.gyes rfl rfl rfl rfl (Yld.shr rfl rfl (by omega)) ?_ | refine WL.gyes rfl rfl rfl rfl (Yld.pure tab_ok rfl) ?_ | refine WL.gyes rfl rfl rfl rfl (Yld.fld flds_ok rfl rfl rfl) ?_ | refine WL.gyes rfl rfl rfl rfl (Yld.max2 rfl rfl) ?_ | refine WL.gyes rfl rfl rfl rfl (Yld.min2 rfl rfl) ?_ | refine WL.gyes rfl rfl rfl rfl (Yld.pickV rfl rfl rfl) ?_)
      generalize hb2 : decide ((97 : Int) ≤ (c.toNat : Int)) = b2
      cases b2
      · simp only [decide_eq_false_iff_not] at hb2
        repeat (first | refine WC.seq ?_ | refine WC.block ?_ | refine WC.region ?_ | refine WL.nil ?_ | refine WX.then_normal ?_ | refine WC.skip ?_ | refine WC.exit ?_ | refine WC.ret ?_ | refine WX.then_exit ?_ | refine WX.then_ret ?_ | refine WX.block_normal ?_ | refine WX.block_ret ?_ | refine WX.block_same ?_ | refine WX.block_other rfl ?_ | refine WC.label ?_ | refine WC.scope ?_ | refine WX.scope_normal ?_ | refine WX.scope_ret ?_ | refine WX.scope_exit ?_ | refine WL.y rfl (Yld.add rfl rfl (by simp only [In]; omega)) ?_ | refine WL.y rfl (Yld.sub rfl rfl (by simp only [In]; omega)) ?_ | refine WL.y rfl (Yld.mul rfl rfl (by simp only [In]; omega)) ?_ | refine WL.y rfl (Yld.convB tab_ok rfl rfl rfl rfl) ?_ | refine WL.y rfl (Yld.conv tab_ok rfl rfl rfl (by simp only [In]; omega)) ?_ | refine WL.y rfl (Yld.quo rfl rfl (by omega) (by omega) (by simp only [In]; omega)) ?_ | refine WL.y rfl (Yld.rem rfl rfl (by omega) (by omega)) ?_ | refine WL.y rfl (Yld.shl rfl rfl (by omega)) ?_ | refine WL.y rfl (Yld.shr rfl rfl (by omega)) ?_ | refine WL.y rfl (Yld.pure tab_ok rfl) ?_ | refine WL.y rfl (Yld.fld flds_ok rfl rfl rfl) ?_ | refine WL.y rfl (Yld.max2 rfl rfl) ?_ | refine WL.y rfl (Yld.min2 rfl rfl) ?_ | refine WL.y rfl (Yld.pickV rfl rfl rfl) ?_ | refine WL.gno rfl rfl rfl rfl ?_ | refine WL.gyes rfl rfl rfl rfl (Yld.add rfl rfl (by simp only [In]; omega)) ?_ | refine WL.gyes rfl rfl rfl rfl (Yld.sub rfl rfl (by simp only [In]; omega)) ?_ | refine WL.gyes rfl rfl rfl rfl (Yld.mul rfl rfl (by simp only [In]; omega)) ?_ | refine WL.gyes rfl rfl rfl rfl (Yld.convB tab_ok rfl rfl rfl rfl) ?_ | refine WL.gyes rfl rfl rfl rfl (Yld.conv tab_ok rfl rfl rfl (by simp only [In]; omega)) ?_ | refine WL.gyes rfl rfl rfl rfl (Yld.quo rfl rfl (by omega) (by omega) (by simp only [In]; omega)) ?_ | refine WL.gyes rfl rfl rfl rfl (Yld.rem rfl rfl (by omega) (by omega)) ?_ | refine WL.gyes rfl rfl rfl rfl (Yld.shl rfl rfl (by omega)) ?_ | refine WL.gyes rfl rfl rfl rfl (Yld.shr rfl rfl (by omega)) ?_ | refine WL.gyes rfl rfl rfl rfl (Yld.pure tab_ok rfl) ?_ | refine WL.gyes rfl rfl rfl rfl (Yld.fld flds_ok rfl rfl rfl) ?_ | refine WL.gyes rfl rfl rfl rfl (Yld.max2 rfl rfl) ?_ | refine WL.gyes rfl rfl rfl rfl (Yld.min2 rfl rfl) ?_ | refine WL.gyes rfl rfl rfl rfl (Yld.pickV rfl rfl rfl) ?_)
        refine WC.cond rfl (fun h => by cases h) (fun _ => ?_)
        repeat (first | refine WC.seq ?_ | refine WC.block ?_ | refine WC.region ?_ | refine WL.nil ?_ | refine WX.then_normal ?_ | refine WC.skip ?_ | refine WC.exit ?_ | refine WC.ret ?_ | refine WX.then_exit ?_ | refine WX.then_ret ?_ | refine WX.block_normal ?_ | refine WX.block_ret ?_ | refine WX.block_same ?_ | refine WX.block_other rfl ?_ | refine WC.label ?_ | refine WC.scope ?_ | refine WX.scope_normal ?_ | refine WX.scope_ret ?_ | refine WX.scope_exit ?_ | refine WL.y rfl (Yld.add rfl rfl (by simp only [In]; omega)) ?_ | refine WL.y rfl (Yld.sub rfl rfl (by simp only [In]; omega)) ?_ | refine WL.y rfl (Yld.mul rfl rfl (by simp only [In]; omega)) ?_ | refine WL.y rfl (Yld.convB tab_ok rfl rfl rfl rfl) ?_ | refine WL.y rfl (Yld.conv tab_ok rfl rfl rfl (by simp only [In]; omega)) ?_ | refine WL.y rfl (Yld.quo rfl rfl (by omega) (by omega) (by simp only [In]; omega)) ?_ | refine WL.y rfl (Yld.rem rfl rfl (by omega) (by omega)) ?_ | refine WL.y rfl (Yld.shl rfl rfl (by omega)) ?_ | refine WL.y rfl (Yld.shr rfl rfl (by omega)) ?_ | refine WL.y rfl (Yld.pure tab_ok rfl) ?_ | refine WL.y rfl (Yld.fld flds_ok rfl rfl rfl) ?_ | refine WL.y rfl (Yld.max2 rfl rfl) ?_ | refine WL.y rfl (Yld.min2 rfl rfl) ?_ | refine WL.y rfl (Yld.pickV rfl rfl rfl) ?_ | refine WL.gno rfl rfl rfl rfl ?_ | refine WL.gyes rfl rfl rfl rfl (Yld.add rfl rfl (by simp only [In]; omega)) ?_ | refine WL.gyes rfl rfl rfl rfl (Yld.sub rfl rfl (by simp only [In]; omega)) ?_ | refine WL.gyes rfl rfl rfl rfl (Yld.mul rfl rfl (by simp only [In]; omega)) ?_ | refine WL.gyes rfl rfl rfl rfl (Yld.convB tab_ok rfl rfl rfl rfl) ?_ | refine WL.gyes rfl rfl rfl rfl (Yld.conv tab_ok rfl rfl rfl (by simp only [In]; omega)) ?_ | refine WL.gyes rfl rfl rfl rfl (Yld.quo rfl rfl (by omega) (by omega) (by simp only [In]; omega)) ?_ | refine WL.gyes rfl rfl rfl rfl (Yld.rem rfl rfl (by omega) (by omega)) ?_ | refine WL.gyes rfl rfl rfl rfl (Yld.shl rfl rfl (by omega)) ?_ | refine WL.gyes rfl rfl rfl rfl (Yld.shr rfl rfl (by omega)) ?_ | refine WL.gyes rfl rfl rfl rfl (Yld.pure tab_ok rfl) ?_ | refine WL.gyes rfl rfl rfl rfl (Yld.fld flds_ok rfl rfl rfl) ?_ | refine WL.gyes rfl rfl rfl rfl (Yld.max2 rfl rfl) ?_ | refine WL.gyes rfl rfl rfl rfl (Yld.min2 rfl rfl) ?_ | refine WL.gyes rfl rfl rfl rfl (Yld.pickV rfl rfl rfl) ?_)
        have : digV c = none := by unfold digV; rw [if_neg (by omega), if_neg (by omega)]
        exact WX.ret2 rfl rfl rfl ⟨by rw [digR, this]; rfl, rfl⟩
      · simp only [decide_eq_true_eq] at hb2
        repeat (first | refine WC.seq ?_ | refine WC.block ?_ | refine WC.region ?_ | refine WL.nil ?_ | refine WX.then_normal ?_ | refine WC.skip ?_ | refine WC.exit ?_ | refine WC.ret ?_ | refine WX.then_exit ?_ | refine WX.then_ret ?_ | refine WX.block_normal ?_ | refine WX.block_ret ?_ | refine WX.block_same ?_ | refine WX.block_other rfl ?_ | refine WC.label ?_ | refine WC.scope ?_ | refine WX.scope_normal ?_ | refine WX.scope_ret ?_ | refine WX.scope_exit ?_ | refine WL.y rfl (Yld.add rfl rfl (by simp only [In]; omega)) ?_ | refine WL.y rfl (Yld.sub rfl rfl (by simp only [In]; omega)) ?_ | refine WL.y rfl (Yld.mul rfl rfl (by simp only [In]; omega)) ?_ | refine WL.y rfl (Yld.convB tab_ok rfl rfl rfl rfl) ?_ | refine WL.y rfl (Yld.conv tab_ok rfl rfl rfl (by simp only [In]; omega)) ?_ | refine WL.y rfl (Yld.quo rfl rfl (by omega) (by omega) (by simp only [In]; omega)) ?_ | refine WL.y rfl (Yld.rem rfl rfl (by omega) (by omega)) ?_ | refine WL.y rfl (Yld.shl rfl rfl (by omega)) ?_ | refine WL.y rfl (Yld.shr rfl rfl (by omega)) ?_ | refine WL.y rfl (Yld.pure tab_ok rfl) ?_ | refine WL.y rfl (Yld.fld flds_ok rfl rfl rfl) ?_ | refine WL.y rfl (Yld.max2 rfl rfl) ?_ | refine WL.y rfl (Yld.min2 rfl rfl) ?_ | refine WL.y rfl (Yld.pickV rfl rfl rfl) ?_ | refine WL.gno rfl rfl rfl rfl ?_ | refine WL.gyes rfl rfl rfl rfl (Yld.add rfl rfl (by simp only [In]; omega)) ?_ | refine WL.gyes rfl rfl rfl rfl (Yld.sub rfl rfl (by simp only [In]; omega)) ?_ | refine WL.gyes rfl rfl rfl rfl (Yld.mul rfl rfl (by simp only [In]; omega)) ?_ | refine WL.gyes rfl rfl rfl rfl (Yld.convB tab_ok rfl rfl rfl rfl) ?_ | refine WL.gyes rfl rfl rfl rfl (Yld.conv tab_ok rfl rfl rfl (by simp only [In]; omega)) ?_ | refine WL.gyes rfl rfl rfl rfl (Yld.quo rfl rfl (by omega) (by omega) (by simp only [In]; omega)) ?_ | refine WL.gyes rfl rfl rfl rfl (Yld.rem rfl rfl (by omega) (by omega)) ?_ | refine WL.gyes rfl rfl rfl rfl (Yld.shl rfl rfl (by omega)) ?_ | refine WL.gyes rfl rfl rfl rfl (Yld.shr rfl rfl (by omega)) ?_ | refine WL.gyes rfl rfl rfl rfl (Yld.pure tab_ok rfl) ?_ | refine WL.gyes rfl rfl rfl rfl (Yld.fld flds_ok rfl rfl rfl) ?_ | refine WL.gyes rfl rfl rfl rfl (Yld.max2 rfl rfl) ?_ | refine WL.gyes rfl rfl rfl rfl (Yld.min2 rfl rfl) ?_ | refine WL.gyes rfl rfl rfl rfl (Yld.pickV rfl rfl rfl) ?_)
        refine WC.cond rfl (fun h => ?_) (fun h => ?_)
        · simp only [cond_true, decide_eq_true_eq] at h
          repeat (first | refine WC.seq ?_ | refine WC.block ?_ | refine WC.region ?_ | refine WL.nil ?_ | refine WX.then_normal ?_ | refine WC.skip ?_ | refine WC.exit ?_ | refine WC.ret ?_ | refine WX.then_exit ?_ | refine WX.then_ret ?_ | refine WX.block_normal ?_ | refine WX.block_ret ?_ | refine WX.block_same ?_ | refine WX.block_other rfl ?_ | refine WC.label ?_ | refine WC.scope ?_ | refine WX.scope_normal ?_ | refine WX.scope_ret ?_ | refine WX.scope_exit ?_ | refine WL.y rfl (Yld.add rfl rfl (by simp only [In]; omega)) ?_ | refine WL.y rfl (Yld.sub rfl rfl (by simp only [In]; omega)) ?_ | refine WL.y rfl (Yld.mul rfl rfl (by simp only [In]; omega)) ?_ | refine WL.y rfl (Yld.convB tab_ok rfl rfl rfl rfl) ?_ | refine WL.y rfl (Yld.conv tab_ok rfl rfl rfl (by simp only [In]; omega)) ?_ | refine WL.y rfl (Yld.quo rfl rfl (by omega) (by omega) (by simp only [In]; omega)) ?_ | refine WL.y rfl (Yld.rem rfl rfl (by omega) (by omega)) ?_ | refine WL.y rfl (Yld.shl rfl rfl (by omega)) ?_ | refine WL.y rfl (Yld.shr rfl rfl (by omega)) ?_ | refine WL.y rfl (Yld.pure tab_ok rfl) ?_ | refine WL.y rfl (Yld.fld flds_ok rfl rfl rfl) ?_ | refine WL.y rfl (Yld.max2 rfl rfl) ?_ | refine WL.y rfl (Yld.min2 rfl rfl) ?_ | refine WL.y rfl (Yld.pickV rfl rfl rfl) ?_ | refine WL.gno rfl rfl rfl rfl ?_ | refine WL.gyes rfl rfl rfl rfl (Yld.add rfl rfl (by simp only [In]; omega)) ?_ | refine WL.gyes rfl rfl rfl rfl (Yld.sub rfl rfl (by simp only [In]; omega)) ?_ | refine WL.gyes rfl rfl rfl rfl (Yld.mul rfl rfl (by simp only [In]; omega)) ?_ | refine WL.gyes rfl rfl rfl rfl (Yld.convB tab_ok rfl rfl rfl rfl) ?_ | refine WL.gyes rfl rfl rfl rfl (Yld.conv tab_ok rfl rfl rfl (by simp only [In]; omega)) ?_ | refine WL.gyes rfl rfl rfl rfl (Yld.quo rfl rfl (by omega) (by omega) (by simp only [In]; omega)) ?_ | refine WL.gyes rfl rfl rfl rfl (Yld.rem rfl rfl (by omega) (by omega)) ?_ | refine WL.gyes rfl rfl rfl rfl (Yld.shl rfl rfl (by omega)) ?_ | refine WL.gyes rfl rfl rfl rfl (Yld.shr rfl rfl (by omega)) ?_ | refine WL.gyes rfl rfl rfl rfl (Yld.pure tab_ok rfl) ?_ | refine WL.gyes rfl rfl rfl rfl (Yld.fld flds_ok rfl rfl rfl) ?_ | refine WL.gyes rfl rfl rfl rfl (Yld.max2 rfl rfl) ?_ | refine WL.gyes rfl rfl rfl rfl (Yld.min2 rfl rfl) ?_ | refine WL.gyes rfl rfl rfl rfl (Yld.pickV rfl rfl rfl) ?_)
          have : digV c = some (c.toNat - 87) := by unfold digV; rw [if_neg (by omega), if_pos (by omega)]
          refine WX.ret2 rfl rfl rfl ⟨?_, rfl⟩
          rw [digR, this, Option.getD_some, show ((c.toNat - 87 : Nat) : Int) = (c.toNat : Int) - 97 + 10 by omega]
          rfl
        · simp only [cond_true, decide_eq_false_iff_not] at h
          repeat (first | refine WC.seq ?_ | refine WC.block ?_ | refine WC.region ?_ | refine WL.nil ?_ | refine WX.then_normal ?_ | refine WC.skip ?_ | refine WC.exit ?_ | refine WC.ret ?_ | refine WX.then_exit ?_ | refine WX.then_ret ?_ | refine WX.block_normal ?_ | refine WX.block_ret ?_ | refine WX.block_same ?_ | refine WX.block_other rfl ?_ | refine WC.label ?_ | refine WC.scope ?_ | refine WX.scope_normal ?_ | refine WX.scope_ret ?_ | refine WX.scope_exit ?_ | refine WL.y rfl (Yld.add rfl rfl (by simp only [In]; omega)) ?_ | refine WL.y rfl (Yld.sub rfl rfl (by simp only [In]; omega)) ?_ | refine WL.y rfl (Yld.mul rfl rfl (by simp only [In]; omega)) ?_ | refine WL.y rfl (Yld.convB tab_ok rfl rfl rfl rfl) ?_ | refine WL.y rfl (Yld.conv tab_ok rfl rfl rfl (by simp only [In]; omega)) ?_ | refine WL.y rfl (Yld.quo rfl rfl (by omega) (by omega) (by simp only [In]; omega)) ?_ | refine WL.y rfl (Yld.rem rfl rfl (by omega) (by omega)) ?_ | refine WL.y rfl (Yld.shl rfl rfl (by omega)) ?_ | refine WL.y rfl (Yld.shr rfl rfl (by omega)) ?_ | refine WL.y rfl (Yld.pure tab_ok rfl) ?_ | refine WL.y rfl (Yld.fld flds_ok rfl rfl rfl) ?_ | refine WL.y rfl (Yld.max2 rfl rfl) ?_ | refine WL.y rfl (Yld.min2 rfl rfl) ?_ | refine WL.y rfl (Yld.pickV rfl rfl rfl) ?_ | refine WL.gno rfl rfl rfl rfl ?_ | refine WL.gyes rfl rfl rfl rfl (Yld.add rfl rfl (by simp only [In]; omega)) ?_ | refine WL.gyes rfl rfl rfl rfl (Yld.sub rfl rfl (by simp only [In]; omega)) ?_ | refine WL.gyes rfl rfl rfl rfl (Yld.mul rfl rfl (by simp only [In]; omega)) ?_ | refine WL.gyes rfl rfl rfl rfl (Yld.convB tab_ok rfl rfl rfl rfl) ?_ | refine WL.gyes rfl rfl rfl rfl (Yld.conv tab_ok rfl rfl rfl (by simp only [In]; omega)) ?_ | refine WL.gyes rfl rfl rfl rfl (Yld.quo rfl rfl (by omega) (by omega) (by simp only [In]; omega)) ?_ | refine WL.gyes rfl rfl rfl rfl (Yld.rem rfl rfl (by omega) (by omega)) ?_ | refine WL.gyes rfl rfl rfl rfl (Yld.shl rfl rfl (by omega)) ?_ | refine WL.gyes rfl rfl rfl rfl (Yld.shr rfl rfl (by omega)) ?_ | refine WL.gyes rfl rfl rfl rfl (Yld.pure tab_ok rfl) ?_ | refine WL.gyes rfl rfl rfl rfl (Yld.fld flds_ok rfl rfl rfl) ?_ | refine WL.gyes rfl rfl rfl rfl (Yld.max2 rfl rfl) ?_ | refine WL.gyes rfl rfl rfl rfl (Yld.min2 rfl rfl) ?_ | refine WL.gyes rfl rfl rfl rfl (Yld.pickV rfl rfl rfl) ?_)
          have : digV c = none := by unfold digV; rw [if_neg (by omega), if_neg (by omega)]
          exact WX.ret2 rfl rfl rfl ⟨by rw [digR, this]; rfl, rfl⟩
/-- the bytes that the first n pairs of digits say -/
def parN (s : List UInt8) : Nat → Option (List UInt8)
  | 0 => some []
  | n + 1 => match parN s n, digV (s.getD (2 * n) 0), digV (s.getD (2 * n + 1) 0) with
    | some l, some a, some b => some (l ++ [u8v (bits .or .u8 (shlV .u8 (a : Int) 4) (b : Int))])
    | _, _, _ => none
def parS (s : List UInt8) : Option (List UInt8) := if s.length = 64 then parN s 32 else none
theorem parN_len (s : List UInt8) : ∀ n l, parN s n = some l → l.length = n
  | 0, l, h => by injection h with h; subst h; rfl
  | n + 1, l, h => by
    unfold parN at h
    split at h
    · rename_i k a b hk _ _
      injection h with h
      subst h
      simp [parN_len s n _ hk]
    · cases h
theorem parN_none (s : List UInt8) (n : Nat) (h : parN s n = none) : ∀ k, parN s (n + k) = none
  | 0 => h
  | k + 1 => by rw [← Nat.add_assoc, parN, parN_none s n h k]
theorem cell_grown {w w' : World} {p : Addr} {v : Value} {row : Option Nat} (hg : w.grownBy w' row) (hv : w.cell? p = some v) (hr : row ≠ some p.block) : w'.cell? p = some v := hg.cell hv (fun e => hr e.symm)
theorem fill_set (l : List UInt8) (i n : Nat) (x : UInt8) (hl : l.length = i) (hi : i < n) : (l.map vb ++ List.replicate (n - i) (Value.int .u8 0)).set i (vb x) = (l ++ [x]).map vb ++ List.replicate (n - (i + 1)) (Value.int .u8 0) := by
  subst hl
  rw [List.set_append_right _ _ (by simp), List.length_map, Nat.sub_self, show n - l.length = (n - (l.length + 1)) + 1 by omega, List.replicate_succ, List.set_cons_zero]
  simp
/-- what Parse answers: the digest, and no error; or nothing, and the error E -/
def parR (E : Value) (s : List UInt8) : Value := match parS s with
  | some l => .tuple #[.agg ⟨l.map vb⟩, .nilIface]
  | none => .tuple #[.agg ⟨(List.replicate 32 (0 : UInt8)).map vb⟩, E]
theorem or_in {a b : Nat} (ha : a < 16) (hb : b < 16) : (u8v (bits .or .u8 (shlV .u8 (a : Int) 4) (b : Int))).toNat = bits .or .u8 (shlV .u8 (a : Int) 4) (b : Int) := by
  have : ∀ a b : Fin 16, ((u8v (bits .or .u8 (shlV .u8 (a.val : Int) 4) (b.val : Int))).toNat : Int) = bits .or .u8 (shlV .u8 (a.val : Int) 4) (b.val : Int) := by decide
  exact this ⟨a, ha⟩ ⟨b, hb⟩
theorem parse_fn (s : List UInt8) (E : Value) (w : World) (hE : w.cell? ⟨6, 0, none⟩ = some E) :
    Fn Tryd.prog 114 ⟨[vs s]⟩ w fun v w' => v = parR E s ∧ w.grownBy w' none := by
  refine Fn.enter (by kernel_rfl) Tryd.func114 rfl Tryd.ntmps114 rfl ?_
  repeat (first | refine WC.seq ?_ | refine WC.block ?_ | refine WC.region ?_ | refine WL.nil ?_ | refine WX.then_normal ?_ | refine WC.skip ?_ | refine WC.exit ?_ | refine WC.ret ?_ | refine WX.then_exit ?_ | refine WX.then_ret ?_ | refine WX.block_normal ?_ | refine WX.block_ret ?_ | refine WX.block_same ?_ | refine WX.block_other rfl ?_ | refine WC.label ?_ | refine WC.scope ?_ | refine WX.scope_normal ?_ | refine WX.scope_ret ?_ | refine WX.scope_exit ?_ | refine WL.y rfl (Yld.add rfl rfl (by simp only [In]; omega)) ?_ | refine WL.y rfl (Yld.sub rfl rfl (by simp only [In]; omega)) ?_ | refine WL.y rfl (Yld.mul rfl rfl (by simp only [In]; omega)) ?_ | refine WL.y rfl (Yld.convB tab_ok rfl rfl rfl rfl) ?_ | refine WL.y rfl (Yld.conv tab_ok rfl rfl rfl (by simp only [In]; omega)) ?_ | refine WL.y rfl (Yld.quo rfl rfl (by omega) (by omega) (by simp only [In]; omega)) ?_ | refine WL.y rfl (Yld.rem rfl rfl (by omega) (by omega)) ?_ | refine WL.y rfl (Yld.shl rfl rfl (by omega)) ?_ | refine WL.y rfl (Yld.shr rfl rfl (by omega)) ?_ | refine WL.y rfl (Yld.pure tab_ok rfl) ?_ | refine WL.y rfl (Yld.fld flds_ok rfl rfl rfl) ?_ | refine WL.y rfl (Yld.max2 rfl rfl) ?_ | refine WL.y rfl (Yld.min2 rfl rfl) ?_ | refine WL.y rfl (Yld.pickV rfl rfl rfl) ?_ | refine WL.gno rfl rfl rfl rfl ?_ | refine WL.gyes rfl rfl rfl rfl (Yld.add rfl rfl (by simp only [In]; omega)) ?_ | refine WL.gyes rfl rfl rfl rfl (Yld.sub rfl rfl (by simp only [In]; omega)) ?_ | refine WL.gyes rfl rfl rfl rfl (Yld.mul rfl rfl (by simp only [In]; omega)) ?_ | refine WL.gyes rfl rfl rfl rfl (Yld.convB tab_ok rfl rfl rfl rfl) ?_ | refine WL.gyes rfl rfl rfl rfl (Yld.conv tab_ok rfl rfl rfl (by simp only [In]; omega)) ?_ | refine WL.gyes rfl rfl rfl rfl (Yld.quo rfl rfl (by omega) (by omega) (by simp only [In]; omega)) ?_ | refine WL.gyes rfl rfl rfl rfl (Yld.rem rfl rfl (by omega) (by omega)) ?_ | refine WL.gyes rfl rfl rfl rfl (Yld.shl rfl rfl (by omega)) ?_ | refine WL.gyes rfl rfl rfl rfl (Yld.shr rfl rfl (by omega)) ?_ | refine WL.gyes rfl rfl rfl rfl (Yld.pure tab_ok rfl) ?_ | refine WL.gyes rfl rfl rfl rfl (Yld.fld flds_ok rfl rfl rfl) ?_ | refine WL.gyes rfl rfl rfl rfl (Yld.max2 rfl rfl) ?_ | refine WL.gyes rfl rfl rfl rfl (Yld.min2 rfl rfl) ?_ | refine WL.gyes rfl rfl rfl rfl (Yld.pickV rfl rfl rfl) ?_)
  refine WL.alloc rfl zero74 (fun g1 w1 hB1 hg1 hl1 => ?_)
  repeat (first | refine WC.seq ?_ | refine WC.block ?_ | refine WC.region ?_ | refine WL.nil ?_ | refine WX.then_normal ?_ | refine WC.skip ?_ | refine WC.exit ?_ | refine WC.ret ?_ | refine WX.then_exit ?_ | refine WX.then_ret ?_ | refine WX.block_normal ?_ | refine WX.block_ret ?_ | refine WX.block_same ?_ | refine WX.block_other rfl ?_ | refine WC.label ?_ | refine WC.scope ?_ | refine WX.scope_normal ?_ | refine WX.scope_ret ?_ | refine WX.scope_exit ?_ | refine WL.y rfl (Yld.add rfl rfl (by simp only [In]; omega)) ?_ | refine WL.y rfl (Yld.sub rfl rfl (by simp only [In]; omega)) ?_ | refine WL.y rfl (Yld.mul rfl rfl (by simp only [In]; omega)) ?_ | refine WL.y rfl (Yld.convB tab_ok rfl rfl rfl rfl) ?_ | refine WL.y rfl (Yld.conv tab_ok rfl rfl rfl (by simp only [In]; omega)) ?_ | refine WL.y rfl (Yld.quo rfl rfl (by omega) (by omega) (by simp only [In]; omega)) ?_ | refine WL.y rfl (Yld.rem rfl rfl (by omega) (by omega)) ?_ | refine WL.y rfl (Yld.shl rfl rfl (by omega)) ?_ | refine WL.y rfl (Yld.shr rfl rfl (by omega)) ?_ | refine WL.y rfl (Yld.pure tab_ok rfl) ?_ | refine WL.y rfl (Yld.fld flds_ok rfl rfl rfl) ?_ | refine WL.y rfl (Yld.max2 rfl rfl) ?_ | refine WL.y rfl (Yld.min2 rfl rfl) ?_ | refine WL.y rfl (Yld.pickV rfl rfl rfl) ?_ | refine WL.gno rfl rfl rfl rfl ?_ | refine WL.gyes rfl rfl rfl rfl (Yld.add rfl rfl (by simp only [In]; omega)) ?_ | refine WL.gyes rfl rfl rfl rfl (Yld.sub rfl rfl (by simp only [In]; omega)) ?_ | refine WL.gyes rfl rfl rfl rfl (Yld.mul rfl rfl (by simp only [In]; omega)) ?_ | refine WL.gyes rfl rfl rfl rfl (Yld.convB tab_ok rfl rfl rfl rfl) ?_ | refine WL.gyes rfl rfl rfl rfl (Yld.conv tab_ok rfl rfl rfl (by simp only [In]; omega)) ?_ | refine WL.gyes rfl rfl rfl rfl (Yld.quo rfl rfl (by omega) (by omega) (by simp only [In]; omega)) ?_ | refine WL.gyes rfl rfl rfl rfl (Yld.rem rfl rfl (by omega) (by omega)) ?_ | refine WL.gyes rfl rfl rfl rfl (Yld.shl rfl rfl (by omega)) ?_ | refine WL.gyes rfl rfl rfl rfl (Yld.shr rfl rfl (by omega)) ?_ | refine WL.gyes rfl rfl rfl rfl (Yld.pure tab_ok rfl) ?_ | refine WL.gyes rfl rfl rfl rfl (Yld.fld flds_ok rfl rfl rfl) ?_ | refine WL.gyes rfl rfl rfl rfl (Yld.max2 rfl rfl) ?_ | refine WL.gyes rfl rfl rfl rfl (Yld.min2 rfl rfl) ?_ | refine WL.gyes rfl rfl rfl rfl (Yld.pickV rfl rfl rfl) ?_)
  refine WL.alloc rfl zero74 (fun g2 w2 hB2 hg2 hl2 => ?_)
  repeat (first | refine WC.seq ?_ | refine WC.block ?_ | refine WC.region ?_ | refine WL.nil ?_ | refine WX.then_normal ?_ | refine WC.skip ?_ | refine WC.exit ?_ | refine WC.ret ?_ | refine WX.then_exit ?_ | refine WX.then_ret ?_ | refine WX.block_normal ?_ | refine WX.block_ret ?_ | refine WX.block_same ?_ | refine WX.block_other rfl ?_ | refine WC.label ?_ | refine WC.scope ?_ | refine WX.scope_normal ?_ | refine WX.scope_ret ?_ | refine WX.scope_exit ?_ | refine WL.y rfl (Yld.add rfl rfl (by simp only [In]; omega)) ?_ | refine WL.y rfl (Yld.sub rfl rfl (by simp only [In]; omega)) ?_ | refine WL.y rfl (Yld.mul rfl rfl (by simp only [In]; omega)) ?_ | refine WL.y rfl (Yld.convB tab_ok rfl rfl rfl rfl) ?_ | refine WL.y rfl (Yld.conv tab_ok rfl rfl rfl (by simp only [In]; omega)) ?_ | refine WL.y rfl (Yld.quo rfl rfl (by omega) (by omega) (by simp only [In]; omega)) ?_ | refine WL.y rfl (Yld.rem rfl rfl (by omega) (by omega)) ?_ | refine WL.y rfl (Yld.shl rfl rfl (by omega)) ?_ | refine WL.y rfl (Yld.shr rfl rfl (by omega)) ?_ | refine WL.y rfl (Yld.pure tab_ok rfl) ?_ | refine WL.y rfl (Yld.fld flds_ok rfl rfl rfl) ?_ | refine WL.y rfl (Yld.max2 rfl rfl) ?_ | refine WL.y rfl (Yld.min2 rfl rfl) ?_ | refine WL.y rfl (Yld.pickV rfl rfl rfl) ?_ | refine WL.gno rfl rfl rfl rfl ?_ | refine WL.gyes rfl rfl rfl rfl (Yld.add rfl rfl (by simp only [In]; omega)) ?_ | refine WL.gyes rfl rfl rfl rfl (Yld.sub rfl rfl (by simp only [In]; omega)) ?_ | refine WL.gyes rfl rfl rfl rfl (Yld.mul rfl rfl (by simp only [In]; omega)) ?_ | refine WL.gyes rfl rfl rfl rfl (Yld.convB tab_ok rfl rfl rfl rfl) ?_ | refine WL.gyes rfl rfl rfl rfl (Yld.conv tab_ok rfl rfl rfl (by simp only [In]; omega)) ?_ | refine WL.gyes rfl rfl rfl rfl (Yld.quo rfl rfl (by omega) (by omega) (by simp only [In]; omega)) ?_ | refine WL.gyes rfl rfl rfl rfl (Yld.rem rfl rfl (by omega) (by omega)) ?_ | refine WL.gyes rfl rfl rfl rfl (Yld.shl rfl rfl (by omega)) ?_ | refine WL.gyes rfl rfl rfl rfl (Yld.shr rfl rfl (by omega)) ?_ | refine WL.gyes rfl rfl rfl rfl (Yld.pure tab_ok rfl) ?_ | refine WL.gyes rfl rfl rfl rfl (Yld.fld flds_ok rfl rfl rfl) ?_ | refine WL.gyes rfl rfl rfl rfl (Yld.max2 rfl rfl) ?_ | refine WL.gyes rfl rfl rfl rfl (Yld.min2 rfl rfl) ?_ | refine WL.gyes rfl rfl rfl rfl (Yld.pickV rfl rfl rfl) ?_)
  have hB12 := hB1.keep hg2 (by simp)
  have hE2 : w2.cell? ⟨6, 0, none⟩ = some E := cell_grown (gr_trans hg1 hg2) hE (by simp)
  have hlt0 := World.block_lt_of_cell? w _ hE
  simp only at hlt0
  have hg12 := gr_trans hg1 hg2
  have hsz1 := hg1.size
  have hgl1 := hB1.lt
  refine WC.cond rfl (fun h => ?_) (fun h => ?_)
  · simp at h
    have hpar : parS s = none := by unfold parS; rw [if_neg (by omega)]
    repeat (first | refine WC.seq ?_ | refine WC.block ?_ | refine WC.region ?_ | refine WL.nil ?_ | refine WX.then_normal ?_ | refine WC.skip ?_ | refine WC.exit ?_ | refine WC.ret ?_ | refine WX.then_exit ?_ | refine WX.then_ret ?_ | refine WX.block_normal ?_ | refine WX.block_ret ?_ | refine WX.block_same ?_ | refine WX.block_other rfl ?_ | refine WC.label ?_ | refine WC.scope ?_ | refine WX.scope_normal ?_ | refine WX.scope_ret ?_ | refine WX.scope_exit ?_ | refine WL.y rfl (Yld.add rfl rfl (by simp only [In]; omega)) ?_ | refine WL.y rfl (Yld.sub rfl rfl (by simp only [In]; omega)) ?_ | refine WL.y rfl (Yld.mul rfl rfl (by simp only [In]; omega)) ?_ | refine WL.y rfl (Yld.convB tab_ok rfl rfl rfl rfl) ?_ | refine WL.y rfl (Yld.conv tab_ok rfl rfl rfl (by simp only [In]; omega)) ?_ | refine WL.y rfl (Yld.quo rfl rfl (by omega) (by omega) (by simp only [In]; omega)) ?_ | refine WL.y rfl (Yld.rem rfl rfl (by omega) (by omega)) ?_ | refine WL.y rfl (Yld.shl rfl rfl (by omega)) ?_ | refine WL.y rfl (Yld.shr rfl rfl (by omega)) ?_ | refine WL.y rfl (Yld.pure tab_ok rfl) ?_ | refine WL.y rfl (Yld.fld flds_ok rfl rfl rfl) ?_ | refine WL.y rfl (Yld.max2 rfl rfl) ?_ | refine WL.y rfl (Yld.min2 rfl rfl) ?_ | refine WL.y rfl (Yld.pickV rfl rfl rfl) ?_ | refine WL.gno rfl rfl rfl rfl ?_ | refine WL.gyes rfl rfl rfl rfl (Yld.add rfl rfl (by simp only [In]; omega)) ?_ | refine WL.gyes rfl rfl rfl rfl (Yld.sub rfl rfl (by simp only [In]; omega)) ?_ | refine WL.gyes rfl rfl rfl rfl (Yld.mul rfl rfl (by simp only [In]; omega)) ?_ | refine WL.gyes rfl rfl rfl rfl (Yld.convB tab_ok rfl rfl rfl rfl) ?_ | refine WL.gyes rfl rfl rfl rfl (Yld.conv tab_ok rfl rfl rfl (by simp only [In]; omega)) ?_ | refine WL.gyes rfl rfl rfl rfl (Yld.quo rfl rfl (by omega) (by omega) (by simp only [In]; omega)) ?_ | refine WL.gyes rfl rfl rfl rfl (Yld.rem rfl rfl (by omega) (by omega)) ?_ | refine WL.gyes rfl rfl rfl rfl (Yld.shl rfl rfl (by omega)) ?_ | refine WL.gyes rfl rfl rfl rfl (Yld.shr rfl rfl (by omega)) ?_ | refine WL.gyes rfl rfl rfl rfl (Yld.pure tab_ok rfl) ?_ | refine WL.gyes rfl rfl rfl rfl (Yld.fld flds_ok rfl rfl rfl) ?_ | refine WL.gyes rfl rfl rfl rfl (Yld.max2 rfl rfl) ?_ | refine WL.gyes rfl rfl rfl rfl (Yld.min2 rfl rfl) ?_ | refine WL.gyes rfl rfl rfl rfl (Yld.pickV rfl rfl rfl) ?_)
    refine WC.chain (fun k => !(Nat.beq k 2)) (fun w' => w'.cell? ⟨6, 0, none⟩ = some E) mixed (by kernel_rfl) (fun w' h => (h.cell _).trans hE2) ?_
    refine WK.y rfl rfl (fun w' _ => Yld.zarr tab_ok rfl zero74) ?_
    refine WK.y rfl rfl (fun w' h => Yld.cell tab_ok h rfl rfl) ?_
    refine WK.eff rfl (Ef0.storeW tab_ok rfl rfl rfl (by intro u hu; rw [List.mem_replicate] at hu; rw [hu.2]; rfl) hB12 rfl rfl) (fun w' h => cell_grown h.2 hE2 (by simp; omega)) ?_
    rintro w3 ⟨hB3, hg3⟩
    repeat (first | refine WK.y rfl rfl (fun _ _ => Yld.add rfl rfl (by simp only [In]; omega)) ?_ | refine WK.y rfl rfl (fun _ _ => Yld.sub rfl rfl (by simp only [In]; omega)) ?_ | refine WK.y rfl rfl (fun _ _ => Yld.mul rfl rfl (by simp only [In]; omega)) ?_ | refine WK.y rfl rfl (fun _ _ => Yld.convB tab_ok rfl rfl rfl rfl) ?_ | refine WK.y rfl rfl (fun _ _ => Yld.conv tab_ok rfl rfl rfl (by simp only [In]; omega)) ?_ | refine WK.y rfl rfl (fun _ _ => Yld.quo rfl rfl (by omega) (by omega) (by simp only [In]; omega)) ?_ | refine WK.y rfl rfl (fun _ _ => Yld.rem rfl rfl (by omega) (by omega)) ?_ | refine WK.y rfl rfl (fun _ _ => Yld.shl rfl rfl (by omega)) ?_ | refine WK.y rfl rfl (fun _ _ => Yld.shr rfl rfl (by omega)) ?_ | refine WK.y rfl rfl (fun _ _ => Yld.pure tab_ok rfl) ?_)
    refine WK.nil ?_
    repeat (first | refine WC.seq ?_ | refine WC.block ?_ | refine WC.region ?_ | refine WL.nil ?_ | refine WX.then_normal ?_ | refine WC.skip ?_ | refine WC.exit ?_ | refine WC.ret ?_ | refine WX.then_exit ?_ | refine WX.then_ret ?_ | refine WX.block_normal ?_ | refine WX.block_ret ?_ | refine WX.block_same ?_ | refine WX.block_other rfl ?_ | refine WC.label ?_ | refine WC.scope ?_ | refine WX.scope_normal ?_ | refine WX.scope_ret ?_ | refine WX.scope_exit ?_ | refine WL.y rfl (Yld.add rfl rfl (by simp only [In]; omega)) ?_ | refine WL.y rfl (Yld.sub rfl rfl (by simp only [In]; omega)) ?_ | refine WL.y rfl (Yld.mul rfl rfl (by simp only [In]; omega)) ?_ | refine WL.y rfl (Yld.convB tab_ok rfl rfl rfl rfl) ?_ | refine WL.y rfl (Yld.conv tab_ok rfl rfl rfl (by simp only [In]; omega)) ?_ | refine WL.y rfl (Yld.quo rfl rfl (by omega) (by omega) (by simp only [In]; omega)) ?_ | refine WL.y rfl (Yld.rem rfl rfl (by omega) (by omega)) ?_ | refine WL.y rfl (Yld.shl rfl rfl (by omega)) ?_ | refine WL.y rfl (Yld.shr rfl rfl (by omega)) ?_ | refine WL.y rfl (Yld.pure tab_ok rfl) ?_)
    exact WX.retct tab_ok rfl rfl rfl hB3 rfl rfl ⟨by rw [parR, hpar]; rfl, gr_new hg12 hg3 hl1⟩
  simp at h
  have hs64 : s.length = 64 := by omega
  repeat (first | refine WC.seq ?_ | refine WC.block ?_ | refine WC.region ?_ | refine WL.nil ?_ | refine WX.then_normal ?_ | refine WC.skip ?_ | refine WC.exit ?_ | refine WC.ret ?_ | refine WX.then_exit ?_ | refine WX.then_ret ?_ | refine WX.block_normal ?_ | refine WX.block_ret ?_ | refine WX.block_same ?_ | refine WX.block_other rfl ?_ | refine WC.label ?_ | refine WC.scope ?_ | refine WX.scope_normal ?_ | refine WX.scope_ret ?_ | refine WX.scope_exit ?_ | refine WL.y rfl (Yld.add rfl rfl (by simp only [In]; omega)) ?_ | refine WL.y rfl (Yld.sub rfl rfl (by simp only [In]; omega)) ?_ | refine WL.y rfl (Yld.mul rfl rfl (by simp only [In]; omega)) ?_ | refine WL.y rfl (Yld.convB tab_ok rfl rfl rfl rfl) ?_ | refine WL.y rfl (Yld.conv tab_ok rfl rfl rfl (by simp only [In]; omega)) ?_ | refine WL.y rfl (Yld.quo rfl rfl (by omega) (by omega) (by simp only [In]; omega)) ?_ | refine WL.y rfl (Yld.rem rfl rfl (by omega) (by omega)) ?_ | refine WL.y rfl (Yld.shl rfl rfl (by omega)) ?_ | refine WL.y rfl (Yld.shr rfl rfl (by omega)) ?_ | refine WL.y rfl (Yld.pure tab_ok rfl) ?_ | refine WL.y rfl (Yld.fld flds_ok rfl rfl rfl) ?_ | refine WL.y rfl (Yld.max2 rfl rfl) ?_ | refine WL.y rfl (Yld.min2 rfl rfl) ?_ | refine WL.y rfl (Yld.pickV rfl rfl rfl) ?_ | refine WL.gno rfl rfl rfl rfl ?_ | refine WL.gyes rfl rfl rfl rfl (Yld.add rfl rfl (by simp only [In]; omega)) ?_ | refine WL.gyes rfl rfl rfl rfl (Yld.sub rfl rfl (by simp only [In]; omega)) ?_ | refine WL.gyes rfl rfl rfl rfl (Yld.mul rfl rfl (by simp only [In]; omega)) ?_ | refine WL.gyes rfl rfl rfl rfl (Yld.convB tab_ok rfl rfl rfl rfl) ?_ | refine WL.gyes rfl rfl rfl rfl (Yld.conv tab_ok rfl rfl rfl (by simp only [In]; omega)) ?_ | refine WL.gyes rfl rfl rfl rfl (Yld.quo rfl rfl (by omega) (by omega) (by simp only [In]; omega)) ?_ | refine WL.gyes rfl rfl rfl rfl (Yld.rem rfl rfl (by omega) (by omega)) ?_ | refine WL.gyes rfl rfl rfl rfl (Yld.shl rfl rfl (by omega)) ?_ | refine WL.gyes rfl rfl rfl rfl (Yld.shr rfl rfl (by omega)) ?_ | refine WL.gyes rfl rfl rfl rfl (Yld.pure tab_ok rfl) ?_ | refine WL.gyes rfl rfl rfl rfl (Yld.fld flds_ok rfl rfl rfl) ?_ | refine WL.gyes rfl rfl rfl rfl (Yld.max2 rfl rfl) ?_ | refine WL.gyes rfl rfl rfl rfl (Yld.min2 rfl rfl) ?_ | refine WL.gyes rfl rfl rfl rfl (Yld.pickV rfl rfl rfl) ?_)
  refine WC.loop2 (fun i _ => 32 - i) (fun i _ => [(15, vi i), (4, .pointer (some ⟨g2, 0, none⟩)), (3, .nilIface), (2, .pointer (some ⟨g1, 0, none⟩)), (0, vs s)])
    (fun i l w3 => i ≤ 32 ∧ parN s i = some l ∧ Bl w3 g2 74 (l.map vb ++ List.replicate (32 - i) (Value.int .u8 0)) ∧ Bl w3 g1 74 (List.replicate 32 (Value.int .u8 0)) ∧ w2.grownBy w3 (some g2)) 0 [] ⟨by omega, rfl, hB2, hB12, gr_refl _ _⟩ (by repeat (first | exact Sub.nil | refine Sub.cons rfl ?_)) (fun i l w3 ⟨hi, hp, hB23, hB13, hg23⟩ => ?_)
  have hll := parN_len s i l hp
  have hEX : w3.cell? ⟨6, 0, none⟩ = some E := cell_grown hg23 hE2 (by simp; omega)
  have hgX : w.grownBy w3 none := gr_new hg12 hg23 (by omega)
  repeat (first | refine WC.seq ?_ | refine WC.block ?_ | refine WC.region ?_ | refine WL.nil ?_ | refine WX.then_normal ?_ | refine WC.skip ?_ | refine WC.exit ?_ | refine WC.ret ?_ | refine WX.then_exit ?_ | refine WX.then_ret ?_ | refine WX.block_normal ?_ | refine WX.block_ret ?_ | refine WX.block_same ?_ | refine WX.block_other rfl ?_ | refine WC.label ?_ | refine WC.scope ?_ | refine WX.scope_normal ?_ | refine WX.scope_ret ?_ | refine WX.scope_exit ?_ | refine WL.y rfl (Yld.add rfl rfl (by simp only [In]; omega)) ?_ | refine WL.y rfl (Yld.sub rfl rfl (by simp only [In]; omega)) ?_ | refine WL.y rfl (Yld.mul rfl rfl (by simp only [In]; omega)) ?_ | refine WL.y rfl (Yld.convB tab_ok rfl rfl rfl rfl) ?_ | refine WL.y rfl (Yld.conv tab_ok rfl rfl rfl (by simp only [In]; omega)) ?_ | refine WL.y rfl (Yld.quo rfl rfl (by omega) (by omega) (by simp only [In]; omega)) ?_ | refine WL.y rfl (Yld.rem rfl rfl (by omega) (by omega)) ?_ | refine WL.y rfl (Yld.shl rfl rfl (by omega)) ?_ | refine WL.y rfl (Yld.shr rfl rfl (by omega)) ?_ | refine WL.y rfl (Yld.pure tab_ok rfl) ?_ | refine WL.y rfl (Yld.fld flds_ok rfl rfl rfl) ?_ | refine WL.y rfl (Yld.max2 rfl rfl) ?_ | refine WL.y rfl (Yld.min2 rfl rfl) ?_ | refine WL.y rfl (Yld.pickV rfl rfl rfl) ?_ | refine WL.gno rfl rfl rfl rfl ?_ | refine WL.gyes rfl rfl rfl rfl (Yld.add rfl rfl (by simp only [In]; omega)) ?_ | refine WL.gyes rfl rfl rfl rfl (Yld.sub rfl rfl (by simp only [In]; omega)) ?_ | refine WL.gyes rfl rfl rfl rfl (Yld.mul rfl rfl (by simp only [In]; omega)) ?_ | refine WL.gyes rfl rfl rfl rfl (Yld.convB tab_ok rfl rfl rfl rfl) ?_ | refine WL.gyes rfl rfl rfl rfl (Yld.conv tab_ok rfl rfl rfl (by simp only [In]; omega)) ?_ | refine WL.gyes rfl rfl rfl rfl (Yld.quo rfl rfl (by omega) (by omega) (by simp only [In]; omega)) ?_ | refine WL.gyes rfl rfl rfl rfl (Yld.rem rfl rfl (by omega) (by omega)) ?_ | refine WL.gyes rfl rfl rfl rfl (Yld.shl rfl rfl (by omega)) ?_ | refine WL.gyes rfl rfl rfl rfl (Yld.shr rfl rfl (by omega)) ?_ | refine WL.gyes rfl rfl rfl rfl (Yld.pure tab_ok rfl) ?_ | refine WL.gyes rfl rfl rfl rfl (Yld.fld flds_ok rfl rfl rfl) ?_ | refine WL.gyes rfl rfl rfl rfl (Yld.max2 rfl rfl) ?_ | refine WL.gyes rfl rfl rfl rfl (Yld.min2 rfl rfl) ?_ | refine WL.gyes rfl rfl rfl rfl (Yld.pickV rfl rfl rfl) ?_)
  refine WC.cond rfl (fun h => ?_) (fun h => ?_)
  · simp only [decide_eq_true_eq] at h
    have e1 : (2 * (i : Int)).toNat = 2 * i := by omega
    have e2 : (2 * (i : Int) + 1).toNat = 2 * i + 1 := by omega
    repeat (first | refine WL.y rfl (Yld.sidx tab_ok rfl rfl rfl (by omega) (by omega)) ?_ | refine WC.seq ?_ | refine WC.block ?_ | refine WC.region ?_ | refine WL.nil ?_ | refine WX.then_normal ?_ | refine WC.skip ?_ | refine WC.exit ?_ | refine WC.ret ?_ | refine WX.then_exit ?_ | refine WX.then_ret ?_ | refine WX.block_normal ?_ | refine WX.block_ret ?_ | refine WX.block_same ?_ | refine WX.block_other rfl ?_ | refine WC.label ?_ | refine WC.scope ?_ | refine WX.scope_normal ?_ | refine WX.scope_ret ?_ | refine WX.scope_exit ?_ | refine WL.y rfl (Yld.add rfl rfl (by simp only [In]; omega)) ?_ | refine WL.y rfl (Yld.sub rfl rfl (by simp only [In]; omega)) ?_ | refine WL.y rfl (Yld.mul rfl rfl (by simp only [In]; omega)) ?_ | refine WL.y rfl (Yld.convB tab_ok rfl rfl rfl rfl) ?_ | refine WL.y rfl (Yld.conv tab_ok rfl rfl rfl (by simp only [In]; omega)) ?_ | refine WL.y rfl (Yld.quo rfl rfl (by omega) (by omega) (by simp only [In]; omega)) ?_ | refine WL.y rfl (Yld.rem rfl rfl (by omega) (by omega)) ?_ | refine WL.y rfl (Yld.shl rfl rfl (by omega)) ?_ | refine WL.y rfl (Yld.shr rfl rfl (by omega)) ?_ | refine WL.y rfl (Yld.pure tab_ok rfl) ?_ | refine WL.y rfl (Yld.fld flds_ok rfl rfl rfl) ?_ | refine WL.y rfl (Yld.max2 rfl rfl) ?_ | refine WL.y rfl (Yld.min2 rfl rfl) ?_ | refine WL.y rfl (Yld.pickV rfl rfl rfl) ?_ | refine WL.gno rfl rfl rfl rfl ?_ | refine WL.gyes rfl rfl rfl rfl (Yld.add rfl rfl (by simp only [In]; omega)) ?_ | refine WL.gyes rfl rfl rfl rfl (Yld.sub rfl rfl (by simp only [In]; omega)) ?_ | refine WL.gyes rfl rfl rfl rfl (Yld.mul rfl rfl (by simp only [In]; omega)) ?_ | refine WL.gyes rfl rfl rfl rfl (Yld.convB tab_ok rfl rfl rfl rfl) ?_ | refine WL.gyes rfl rfl rfl rfl (Yld.conv tab_ok rfl rfl rfl (by simp only [In]; omega)) ?_ | refine WL.gyes rfl rfl rfl rfl (Yld.quo rfl rfl (by omega) (by omega) (by simp only [In]; omega)) ?_ | refine WL.gyes rfl rfl rfl rfl (Yld.rem rfl rfl (by omega) (by omega)) ?_ | refine WL.gyes rfl rfl rfl rfl (Yld.shl rfl rfl (by omega)) ?_ | refine WL.gyes rfl rfl rfl rfl (Yld.shr rfl rfl (by omega)) ?_ | refine WL.gyes rfl rfl rfl rfl (Yld.pure tab_ok rfl) ?_ | refine WL.gyes rfl rfl rfl rfl (Yld.fld flds_ok rfl rfl rfl) ?_ | refine WL.gyes rfl rfl rfl rfl (Yld.max2 rfl rfl) ?_ | refine WL.gyes rfl rfl rfl rfl (Yld.min2 rfl rfl) ?_ | refine WL.gyes rfl rfl rfl rfl (Yld.pickV rfl rfl rfl) ?_)
    refine WL.call rfl rfl (digit_fn _ w3) ?_
    rintro _ _ ⟨rfl, rfl⟩
    repeat (first | refine WL.y rfl (Yld.sidx tab_ok rfl rfl rfl (by omega) (by omega)) ?_ | refine WC.seq ?_ | refine WC.block ?_ | refine WC.region ?_ | refine WL.nil ?_ | refine WX.then_normal ?_ | refine WC.skip ?_ | refine WC.exit ?_ | refine WC.ret ?_ | refine WX.then_exit ?_ | refine WX.then_ret ?_ | refine WX.block_normal ?_ | refine WX.block_ret ?_ | refine WX.block_same ?_ | refine WX.block_other rfl ?_ | refine WC.label ?_ | refine WC.scope ?_ | refine WX.scope_normal ?_ | refine WX.scope_ret ?_ | refine WX.scope_exit ?_ | refine WL.y rfl (Yld.add rfl rfl (by simp only [In]; omega)) ?_ | refine WL.y rfl (Yld.sub rfl rfl (by simp only [In]; omega)) ?_ | refine WL.y rfl (Yld.mul rfl rfl (by simp only [In]; omega)) ?_ | refine WL.y rfl (Yld.convB tab_ok rfl rfl rfl rfl) ?_ | refine WL.y rfl (Yld.conv tab_ok rfl rfl rfl (by simp only [In]; omega)) ?_ | refine WL.y rfl (Yld.quo rfl rfl (by omega) (by omega) (by simp only [In]; omega)) ?_ | refine WL.y rfl (Yld.rem rfl rfl (by omega) (by omega)) ?_ | refine WL.y rfl (Yld.shl rfl rfl (by omega)) ?_ | refine WL.y rfl (Yld.shr rfl rfl (by omega)) ?_ | refine WL.y rfl (Yld.pure tab_ok rfl) ?_ | refine WL.y rfl (Yld.fld flds_ok rfl rfl rfl) ?_ | refine WL.y rfl (Yld.max2 rfl rfl) ?_ | refine WL.y rfl (Yld.min2 rfl rfl) ?_ | refine WL.y rfl (Yld.pickV rfl rfl rfl) ?_ | refine WL.gno rfl rfl rfl rfl ?_ | refine WL.gyes rfl rfl rfl rfl (Yld.add rfl rfl (by simp only [In]; omega)) ?_ | refine WL.gyes rfl rfl rfl rfl (Yld.sub rfl rfl (by simp only [In]; omega)) ?_ | refine WL.gyes rfl rfl rfl rfl (Yld.mul rfl rfl (by simp only [In]; omega)) ?_ | refine WL.gyes rfl rfl rfl rfl (Yld.convB tab_ok rfl rfl rfl rfl) ?_ | refine WL.gyes rfl rfl rfl rfl (Yld.conv tab_ok rfl rfl rfl (by simp only [In]; omega)) ?_ | refine WL.gyes rfl rfl rfl rfl (Yld.quo rfl rfl (by omega) (by omega) (by simp only [In]; omega)) ?_ | refine WL.gyes rfl rfl rfl rfl (Yld.rem rfl rfl (by omega) (by omega)) ?_ | refine WL.gyes rfl rfl rfl rfl (Yld.shl rfl rfl (by omega)) ?_ | refine WL.gyes rfl rfl rfl rfl (Yld.shr rfl rfl (by omega)) ?_ | refine WL.gyes rfl rfl rfl rfl (Yld.pure tab_ok rfl) ?_ | refine WL.gyes rfl rfl rfl rfl (Yld.fld flds_ok rfl rfl rfl) ?_ | refine WL.gyes rfl rfl rfl rfl (Yld.max2 rfl rfl) ?_ | refine WL.gyes rfl rfl rfl rfl (Yld.min2 rfl rfl) ?_ | refine WL.gyes rfl rfl rfl rfl (Yld.pickV rfl rfl rfl) ?_)
    refine WL.call rfl rfl (digit_fn _ _) ?_
    rintro _ _ ⟨rfl, rfl⟩
    rw [e1, e2]
    have hstep : parN s (i + 1) = match digV (s.getD (2 * i) 0), digV (s.getD (2 * i + 1) 0) with
      | some a, some b => some (l ++ [u8v (bits .or .u8 (shlV .u8 (a : Int) 4) (b : Int))])
      | _, _ => none := by
        rw [parN, hp]
        cases digV (s.getD (2 * i) 0) <;> cases digV (s.getD (2 * i + 1) 0) <;> rfl
    have hla : ∀ a, digV (s.getD (2 * i) 0) = some a → a < 16 := fun a ha => digV_lt ha
    have hlb : ∀ b, digV (s.getD (2 * i + 1) 0) = some b → b < 16 := fun b hb => digV_lt hb
    have hnone : parN s (i + 1) = none → parS s = none := fun hn => by
      unfold parS
      rw [if_pos hs64]
      have := parN_none s (i + 1) hn (32 - (i + 1))
      rwa [show i + 1 + (32 - (i + 1)) = 32 by omega] at this
    unfold digR
    generalize digV (s.getD (2 * i) 0) = da at *
    generalize digV (s.getD (2 * i + 1) 0) = db at *
    repeat (first | refine WC.seq ?_ | refine WC.block ?_ | refine WC.region ?_ | refine WL.nil ?_ | refine WX.then_normal ?_ | refine WC.skip ?_ | refine WC.exit ?_ | refine WC.ret ?_ | refine WX.then_exit ?_ | refine WX.then_ret ?_ | refine WX.block_normal ?_ | refine WX.block_ret ?_ | refine WX.block_same ?_ | refine WX.block_other rfl ?_ | refine WC.label ?_ | refine WC.scope ?_ | refine WX.scope_normal ?_ | refine WX.scope_ret ?_ | refine WX.scope_exit ?_ | refine WL.y rfl (Yld.add rfl rfl (by simp only [In]; omega)) ?_ | refine WL.y rfl (Yld.sub rfl rfl (by simp only [In]; omega)) ?_ | refine WL.y rfl (Yld.mul rfl rfl (by simp only [In]; omega)) ?_ | refine WL.y rfl (Yld.convB tab_ok rfl rfl rfl rfl) ?_ | refine WL.y rfl (Yld.conv tab_ok rfl rfl rfl (by simp only [In]; omega)) ?_ | refine WL.y rfl (Yld.quo rfl rfl (by omega) (by omega) (by simp only [In]; omega)) ?_ | refine WL.y rfl (Yld.rem rfl rfl (by omega) (by omega)) ?_ | refine WL.y rfl (Yld.shl rfl rfl (by omega)) ?_ | refine WL.y rfl (Yld.shr rfl rfl (by omega)) ?_ | refine WL.y rfl (Yld.pure tab_ok rfl) ?_ | refine WL.y rfl (Yld.fld flds_ok rfl rfl rfl) ?_ | refine WL.y rfl (Yld.max2 rfl rfl) ?_ | refine WL.y rfl (Yld.min2 rfl rfl) ?_ | refine WL.y rfl (Yld.pickV rfl rfl rfl) ?_ | refine WL.gno rfl rfl rfl rfl ?_ | refine WL.gyes rfl rfl rfl rfl (Yld.add rfl rfl (by simp only [In]; omega)) ?_ | refine WL.gyes rfl rfl rfl rfl (Yld.sub rfl rfl (by simp only [In]; omega)) ?_ | refine WL.gyes rfl rfl rfl rfl (Yld.mul rfl rfl (by simp only [In]; omega)) ?_ | refine WL.gyes rfl rfl rfl rfl (Yld.convB tab_ok rfl rfl rfl rfl) ?_ | refine WL.gyes rfl rfl rfl rfl (Yld.conv tab_ok rfl rfl rfl (by simp only [In]; omega)) ?_ | refine WL.gyes rfl rfl rfl rfl (Yld.quo rfl rfl (by omega) (by omega) (by simp only [In]; omega)) ?_ | refine WL.gyes rfl rfl rfl rfl (Yld.rem rfl rfl (by omega) (by omega)) ?_ | refine WL.gyes rfl rfl rfl rfl (Yld.shl rfl rfl (by omega)) ?_ | refine WL.gyes rfl rfl rfl rfl (Yld.shr rfl rfl (by omega)) ?_ | refine WL.gyes rfl rfl rfl rfl (Yld.pure tab_ok rfl) ?_ | refine WL.gyes rfl rfl rfl rfl (Yld.fld flds_ok rfl rfl rfl) ?_ | refine WL.gyes rfl rfl rfl rfl (Yld.max2 rfl rfl) ?_ | refine WL.gyes rfl rfl rfl rfl (Yld.min2 rfl rfl) ?_ | refine WL.gyes rfl rfl rfl rfl (Yld.pickV rfl rfl rfl) ?_)
    cases da with
    | none =>
      have hpar := hnone hstep
      repeat (first | refine WC.seq ?_ | refine WC.block ?_ | refine WC.region ?_ | refine WL.nil ?_ | refine WX.then_normal ?_ | refine WC.skip ?_ | refine WC.exit ?_ | refine WC.ret ?_ | refine WX.then_exit ?_ | refine WX.then_ret ?_ | refine WX.block_normal ?_ | refine WX.block_ret ?_ | refine WX.block_same ?_ | refine WX.block_other rfl ?_ | refine WC.label ?_ | refine WC.scope ?_ | refine WX.scope_normal ?_ | refine WX.scope_ret ?_ | refine WX.scope_exit ?_ | refine WL.y rfl (Yld.add rfl rfl (by simp only [In]; omega)) ?_ | refine WL.y rfl (Yld.sub rfl rfl (by simp only [In]; omega)) ?_ | refine WL.y rfl (Yld.mul rfl rfl (by simp only [In]; omega)) ?_ | refine WL.y rfl (Yld.convB tab_ok rfl rfl rfl rfl) ?_ | refine WL.y rfl (Yld.conv tab_ok rfl rfl rfl (by simp only [In]; omega)) ?_ | refine WL.y rfl (Yld.quo rfl rfl (by omega) (by omega) (by simp only [In]; omega)) ?_ | refine WL.y rfl (Yld.rem rfl rfl (by omega) (by omega)) ?_ | refine WL.y rfl (Yld.shl rfl rfl (by omega)) ?_ | refine WL.y rfl (Yld.shr rfl rfl (by omega)) ?_ | refine WL.y rfl (Yld.pure tab_ok rfl) ?_ | refine WL.y rfl (Yld.fld flds_ok rfl rfl rfl) ?_ | refine WL.y rfl (Yld.max2 rfl rfl) ?_ | refine WL.y rfl (Yld.min2 rfl rfl) ?_ | refine WL.y rfl (Yld.pickV rfl rfl rfl) ?_ | refine WL.gno rfl rfl rfl rfl ?_ | refine WL.gyes rfl rfl rfl rfl (Yld.add rfl rfl (by simp only [In]; omega)) ?_ | refine WL.gyes rfl rfl rfl rfl (Yld.sub rfl rfl (by simp only [In]; omega)) ?_ | refine WL.gyes rfl rfl rfl rfl (Yld.mul rfl rfl (by simp only [In]; omega)) ?_ | refine WL.gyes rfl rfl rfl rfl (Yld.convB tab_ok rfl rfl rfl rfl) ?_ | refine WL.gyes rfl rfl rfl rfl (Yld.conv tab_ok rfl rfl rfl (by simp only [In]; omega)) ?_ | refine WL.gyes rfl rfl rfl rfl (Yld.quo rfl rfl (by omega) (by omega) (by simp only [In]; omega)) ?_ | refine WL.gyes rfl rfl rfl rfl (Yld.rem rfl rfl (by omega) (by omega)) ?_ | refine WL.gyes rfl rfl rfl rfl (Yld.shl rfl rfl (by omega)) ?_ | refine WL.gyes rfl rfl rfl rfl (Yld.shr rfl rfl (by omega)) ?_ | refine WL.gyes rfl rfl rfl rfl (Yld.pure tab_ok rfl) ?_ | refine WL.gyes rfl rfl rfl rfl (Yld.fld flds_ok rfl rfl rfl) ?_ | refine WL.gyes rfl rfl rfl rfl (Yld.max2 rfl rfl) ?_ | refine WL.gyes rfl rfl rfl rfl (Yld.min2 rfl rfl) ?_ | refine WL.gyes rfl rfl rfl rfl (Yld.pickV rfl rfl rfl) ?_)
      refine WC.cond rfl (fun _ => ?_) (fun h => by cases h)
      repeat (first | refine WC.seq ?_ | refine WC.block ?_ | refine WC.region ?_ | refine WL.nil ?_ | refine WX.then_normal ?_ | refine WC.skip ?_ | refine WC.exit ?_ | refine WC.ret ?_ | refine WX.then_exit ?_ | refine WX.then_ret ?_ | refine WX.block_normal ?_ | refine WX.block_ret ?_ | refine WX.block_same ?_ | refine WX.block_other rfl ?_ | refine WC.label ?_ | refine WC.scope ?_ | refine WX.scope_normal ?_ | refine WX.scope_ret ?_ | refine WX.scope_exit ?_ | refine WL.y rfl (Yld.add rfl rfl (by simp only [In]; omega)) ?_ | refine WL.y rfl (Yld.sub rfl rfl (by simp only [In]; omega)) ?_ | refine WL.y rfl (Yld.mul rfl rfl (by simp only [In]; omega)) ?_ | refine WL.y rfl (Yld.convB tab_ok rfl rfl rfl rfl) ?_ | refine WL.y rfl (Yld.conv tab_ok rfl rfl rfl (by simp only [In]; omega)) ?_ | refine WL.y rfl (Yld.quo rfl rfl (by omega) (by omega) (by simp only [In]; omega)) ?_ | refine WL.y rfl (Yld.rem rfl rfl (by omega) (by omega)) ?_ | refine WL.y rfl (Yld.shl rfl rfl (by omega)) ?_ | refine WL.y rfl (Yld.shr rfl rfl (by omega)) ?_ | refine WL.y rfl (Yld.pure tab_ok rfl) ?_ | refine WL.y rfl (Yld.fld flds_ok rfl rfl rfl) ?_ | refine WL.y rfl (Yld.max2 rfl rfl) ?_ | refine WL.y rfl (Yld.min2 rfl rfl) ?_ | refine WL.y rfl (Yld.pickV rfl rfl rfl) ?_ | refine WL.gno rfl rfl rfl rfl ?_ | refine WL.gyes rfl rfl rfl rfl (Yld.add rfl rfl (by simp only [In]; omega)) ?_ | refine WL.gyes rfl rfl rfl rfl (Yld.sub rfl rfl (by simp only [In]; omega)) ?_ | refine WL.gyes rfl rfl rfl rfl (Yld.mul rfl rfl (by simp only [In]; omega)) ?_ | refine WL.gyes rfl rfl rfl rfl (Yld.convB tab_ok rfl rfl rfl rfl) ?_ | refine WL.gyes rfl rfl rfl rfl (Yld.conv tab_ok rfl rfl rfl (by simp only [In]; omega)) ?_ | refine WL.gyes rfl rfl rfl rfl (Yld.quo rfl rfl (by omega) (by omega) (by simp only [In]; omega)) ?_ | refine WL.gyes rfl rfl rfl rfl (Yld.rem rfl rfl (by omega) (by omega)) ?_ | refine WL.gyes rfl rfl rfl rfl (Yld.shl rfl rfl (by omega)) ?_ | refine WL.gyes rfl rfl rfl rfl (Yld.shr rfl rfl (by omega)) ?_ | refine WL.gyes rfl rfl rfl rfl (Yld.pure tab_ok rfl) ?_ | refine WL.gyes rfl rfl rfl rfl (Yld.fld flds_ok rfl rfl rfl) ?_ | refine WL.gyes rfl rfl rfl rfl (Yld.max2 rfl rfl) ?_ | refine WL.gyes rfl rfl rfl rfl (Yld.min2 rfl rfl) ?_ | refine WL.gyes rfl rfl rfl rfl (Yld.pickV rfl rfl rfl) ?_)
      refine WC.chain (fun k => !(Nat.beq k 2)) (fun w' => w'.cell? ⟨6, 0, none⟩ = some E) mixed (by kernel_rfl) (fun w' h => (h.cell _).trans hEX) ?_
      refine WK.y rfl rfl (fun w' _ => Yld.zarr tab_ok rfl zero74) ?_
      refine WK.y rfl rfl (fun w' h => Yld.cell tab_ok h rfl rfl) ?_
      refine WK.eff rfl (Ef0.storeW tab_ok rfl rfl rfl (by intro u hu; rw [List.mem_replicate] at hu; rw [hu.2]; rfl) hB13 rfl rfl) (fun w' h => cell_grown h.2 hEX (by simp; omega)) ?_
      rintro w4 ⟨hB4, hg4⟩
      repeat (first | refine WK.y rfl rfl (fun _ _ => Yld.add rfl rfl (by simp only [In]; omega)) ?_ | refine WK.y rfl rfl (fun _ _ => Yld.sub rfl rfl (by simp only [In]; omega)) ?_ | refine WK.y rfl rfl (fun _ _ => Yld.mul rfl rfl (by simp only [In]; omega)) ?_ | refine WK.y rfl rfl (fun _ _ => Yld.convB tab_ok rfl rfl rfl rfl) ?_ | refine WK.y rfl rfl (fun _ _ => Yld.conv tab_ok rfl rfl rfl (by simp only [In]; omega)) ?_ | refine WK.y rfl rfl (fun _ _ => Yld.quo rfl rfl (by omega) (by omega) (by simp only [In]; omega)) ?_ | refine WK.y rfl rfl (fun _ _ => Yld.rem rfl rfl (by omega) (by omega)) ?_ | refine WK.y rfl rfl (fun _ _ => Yld.shl rfl rfl (by omega)) ?_ | refine WK.y rfl rfl (fun _ _ => Yld.shr rfl rfl (by omega)) ?_ | refine WK.y rfl rfl (fun _ _ => Yld.pure tab_ok rfl) ?_)
      refine WK.nil ?_
      repeat (first | refine WC.seq ?_ | refine WC.block ?_ | refine WC.region ?_ | refine WL.nil ?_ | refine WX.then_normal ?_ | refine WC.skip ?_ | refine WC.exit ?_ | refine WC.ret ?_ | refine WX.then_exit ?_ | refine WX.then_ret ?_ | refine WX.block_normal ?_ | refine WX.block_ret ?_ | refine WX.block_same ?_ | refine WX.block_other rfl ?_ | refine WC.label ?_ | refine WC.scope ?_ | refine WX.scope_normal ?_ | refine WX.scope_ret ?_ | refine WX.scope_exit ?_ | refine WL.y rfl (Yld.add rfl rfl (by simp only [In]; omega)) ?_ | refine WL.y rfl (Yld.sub rfl rfl (by simp only [In]; omega)) ?_ | refine WL.y rfl (Yld.mul rfl rfl (by simp only [In]; omega)) ?_ | refine WL.y rfl (Yld.convB tab_ok rfl rfl rfl rfl) ?_ | refine WL.y rfl (Yld.conv tab_ok rfl rfl rfl (by simp only [In]; omega)) ?_ | refine WL.y rfl (Yld.quo rfl rfl (by omega) (by omega) (by simp only [In]; omega)) ?_ | refine WL.y rfl (Yld.rem rfl rfl (by omega) (by omega)) ?_ | refine WL.y rfl (Yld.shl rfl rfl (by omega)) ?_ | refine WL.y rfl (Yld.shr rfl rfl (by omega)) ?_ | refine WL.y rfl (Yld.pure tab_ok rfl) ?_)
      exact WX.retct tab_ok rfl rfl rfl hB4 rfl rfl ⟨by rw [parR, hpar]; rfl, gr_new hgX hg4 hl1⟩
    | some a =>
      have ha := hla a rfl
      repeat (first | refine WC.seq ?_ | refine WC.block ?_ | refine WC.region ?_ | refine WL.nil ?_ | refine WX.then_normal ?_ | refine WC.skip ?_ | refine WC.exit ?_ | refine WC.ret ?_ | refine WX.then_exit ?_ | refine WX.then_ret ?_ | refine WX.block_normal ?_ | refine WX.block_ret ?_ | refine WX.block_same ?_ | refine WX.block_other rfl ?_ | refine WC.label ?_ | refine WC.scope ?_ | refine WX.scope_normal ?_ | refine WX.scope_ret ?_ | refine WX.scope_exit ?_ | refine WL.y rfl (Yld.add rfl rfl (by simp only [In]; omega)) ?_ | refine WL.y rfl (Yld.sub rfl rfl (by simp only [In]; omega)) ?_ | refine WL.y rfl (Yld.mul rfl rfl (by simp only [In]; omega)) ?_ | refine WL.y rfl (Yld.convB tab_ok rfl rfl rfl rfl) ?_ | refine WL.y rfl (Yld.conv tab_ok rfl rfl rfl (by simp only [In]; omega)) ?_ | refine WL.y rfl (Yld.quo rfl rfl (by omega) (by omega) (by simp only [In]; omega)) ?_ | refine WL.y rfl (Yld.rem rfl rfl (by omega) (by omega)) ?_ | refine WL.y rfl (Yld.shl rfl rfl (by omega)) ?_ | refine WL.y rfl (Yld.shr rfl rfl (by omega)) ?_ | refine WL.y rfl (Yld.pure tab_ok rfl) ?_ | refine WL.y rfl (Yld.fld flds_ok rfl rfl rfl) ?_ | refine WL.y rfl (Yld.max2 rfl rfl) ?_ | refine WL.y rfl (Yld.min2 rfl rfl) ?_ | refine WL.y rfl (Yld.pickV rfl rfl rfl) ?_ | refine WL.gno rfl rfl rfl rfl ?_ | refine WL.gyes rfl rfl rfl rfl (Yld.add rfl rfl (by simp only [In]; omega)) ?_ | refine WL.gyes rfl rfl rfl rfl (Yld.sub rfl rfl (by simp only [In]; omega)) ?_ | refine WL.gyes rfl rfl rfl rfl (Yld.mul rfl rfl (by simp only [In]; omega)) ?_ | refine WL.gyes rfl rfl rfl rfl (Yld.convB tab_ok rfl rfl rfl rfl) ?_ | refine WL.gyes rfl rfl rfl rfl (Yld.conv tab_ok rfl rfl rfl (by simp only [In]; omega)) ?_ | refine WL.gyes rfl rfl rfl rfl (Yld.quo rfl rfl (by omega) (by omega) (by simp only [In]; omega)) ?_ | refine WL.gyes rfl rfl rfl rfl (Yld.rem rfl rfl (by omega) (by omega)) ?_ | refine WL.gyes rfl rfl rfl rfl (Yld.shl rfl rfl (by omega)) ?_ | refine WL.gyes rfl rfl rfl rfl (Yld.shr rfl rfl (by omega)) ?_ | refine WL.gyes rfl rfl rfl rfl (Yld.pure tab_ok rfl) ?_ | refine WL.gyes rfl rfl rfl rfl (Yld.fld flds_ok rfl rfl rfl) ?_ | refine WL.gyes rfl rfl rfl rfl (Yld.max2 rfl rfl) ?_ | refine WL.gyes rfl rfl rfl rfl (Yld.min2 rfl rfl) ?_ | refine WL.gyes rfl rfl rfl rfl (Yld.pickV rfl rfl rfl) ?_)
      cases db with
      | none =>
        have hpar := hnone hstep
        repeat (first | refine WC.seq ?_ | refine WC.block ?_ | refine WC.region ?_ | refine WL.nil ?_ | refine WX.then_normal ?_ | refine WC.skip ?_ | refine WC.exit ?_ | refine WC.ret ?_ | refine WX.then_exit ?_ | refine WX.then_ret ?_ | refine WX.block_normal ?_ | refine WX.block_ret ?_ | refine WX.block_same ?_ | refine WX.block_other rfl ?_ | refine WC.label ?_ | refine WC.scope ?_ | refine WX.scope_normal ?_ | refine WX.scope_ret ?_ | refine WX.scope_exit ?_ | refine WL.y rfl (Yld.add rfl rfl (by simp only [In]; omega)) ?_ | refine WL.y rfl (Yld.sub rfl rfl (by simp only [In]; omega)) ?_ | refine WL.y rfl (Yld.mul rfl rfl (by simp only [In]; omega)) ?_ | refine WL.y rfl (Yld.convB tab_ok rfl rfl rfl rfl) ?_ | refine WL.y rfl (Yld.conv tab_ok rfl rfl rfl (by simp only [In]; omega)) ?_ | refine WL.y rfl (Yld.quo rfl rfl (by omega) (by omega) (by simp only [In]; omega)) ?_ | refine WL.y rfl (Yld.rem rfl rfl (by omega) (by omega)) ?_ | refine WL.y rfl (Yld.shl rfl rfl (by omega)) ?_ | refine WL.y rfl (Yld.shr rfl rfl (by omega)) ?_ | refine WL.y rfl (Yld.pure tab_ok rfl) ?_ | refine WL.y rfl (Yld.fld flds_ok rfl rfl rfl) ?_ | refine WL.y rfl (Yld.max2 rfl rfl) ?_ | refine WL.y rfl (Yld.min2 rfl rfl) ?_ | refine WL.y rfl (Yld.pickV rfl rfl rfl) ?_ | refine WL.gno rfl rfl rfl rfl ?_ | refine WL.gyes rfl rfl rfl rfl (Yld.add rfl rfl (by simp only [In]; omega)) ?_ | refine WL.gyes rfl rfl rfl rfl (Yld.sub rfl rfl (by simp only [In]; omega)) ?_ | refine WL.gyes rfl rfl rfl rfl (Yld.mul rfl rfl (by simp only [In]; omega)) ?_ | refine WL.gyes rfl rfl rfl rfl (Yld.convB tab_ok rfl rfl rfl rfl) ?_ | refine WL.gyes rfl rfl rfl rfl (Yld.conv tab_ok rfl rfl rfl (by simp only [In]; omega)) ?_ | refine WL.gyes rfl rfl rfl rfl (Yld.quo rfl rfl (by omega) (by omega) (by simp only [In]; omega)) ?_ | refine WL.gyes rfl rfl rfl rfl (Yld.rem rfl rfl (by omega) (by omega)) ?_ | refine WL.gyes rfl rfl rfl rfl (Yld.shl rfl rfl (by omega)) ?_ | refine WL.gyes rfl rfl rfl rfl (Yld.shr rfl rfl (by omega)) ?_ | refine WL.gyes rfl rfl rfl rfl (Yld.pure tab_ok rfl) ?_ | refine WL.gyes rfl rfl rfl rfl (Yld.fld flds_ok rfl rfl rfl) ?_ | refine WL.gyes rfl rfl rfl rfl (Yld.max2 rfl rfl) ?_ | refine WL.gyes rfl rfl rfl rfl (Yld.min2 rfl rfl) ?_ | refine WL.gyes rfl rfl rfl rfl (Yld.pickV rfl rfl rfl) ?_)
        refine WC.cond rfl (fun _ => ?_) (fun h => by cases h)
        repeat (first | refine WC.seq ?_ | refine WC.block ?_ | refine WC.region ?_ | refine WL.nil ?_ | refine WX.then_normal ?_ | refine WC.skip ?_ | refine WC.exit ?_ | refine WC.ret ?_ | refine WX.then_exit ?_ | refine WX.then_ret ?_ | refine WX.block_normal ?_ | refine WX.block_ret ?_ | refine WX.block_same ?_ | refine WX.block_other rfl ?_ | refine WC.label ?_ | refine WC.scope ?_ | refine WX.scope_normal ?_ | refine WX.scope_ret ?_ | refine WX.scope_exit ?_ | refine WL.y rfl (Yld.add rfl rfl (by simp only [In]; omega)) ?_ | refine WL.y rfl (Yld.sub rfl rfl (by simp only [In]; omega)) ?_ | refine WL.y rfl (Yld.mul rfl rfl (by simp only [In]; omega)) ?_ | refine WL.y rfl (Yld.convB tab_ok rfl rfl rfl rfl) ?_ | refine WL.y rfl (Yld.conv tab_ok rfl rfl rfl (by simp only [In]; omega)) ?_ | refine WL.y rfl (Yld.quo rfl rfl (by omega) (by omega) (by simp only [In]; omega)) ?_ | refine WL.y rfl (Yld.rem rfl rfl (by omega) (by omega)) ?_ | refine WL.y rfl (Yld.shl rfl rfl (by omega)) ?_ | refine WL.y rfl (Yld.shr rfl rfl (by omega)) ?_ | refine WL.y rfl (Yld.pure tab_ok rfl) ?_ | refine WL.y rfl (Yld.fld flds_ok rfl rfl rfl) ?_ | refine WL.y rfl (Yld.max2 rfl rfl) ?_ | refine WL.y rfl (Yld.min2 rfl rfl) ?_ | refine WL.y rfl (Yld.pickV rfl rfl rfl) ?_ | refine WL.gno rfl rfl rfl rfl ?_ | refine WL.gyes rfl rfl rfl rfl (Yld.add rfl rfl (by simp only [In]; omega)) ?_ | refine WL.gyes rfl rfl rfl rfl (Yld.sub rfl rfl (by simp only [In]; omega)) ?_ | refine WL.gyes rfl rfl rfl rfl (Yld.mul rfl rfl (by simp only [In]; omega)) ?_ | refine WL.gyes rfl rfl rfl rfl (Yld.convB tab_ok rfl rfl rfl rfl) ?_ | refine WL.gyes rfl rfl rfl rfl (Yld.conv tab_ok rfl rfl rfl (by simp only [In]; omega)) ?_ | refine WL.gyes rfl rfl rfl rfl (Yld.quo rfl rfl (by omega) (by omega) (by simp only [In]; omega)) ?_ | refine WL.gyes rfl rfl rfl rfl (Yld.rem rfl rfl (by omega) (by omega)) ?_ | refine WL.gyes rfl rfl rfl rfl (Yld.shl rfl rfl (by omega)) ?_ | refine WL.gyes rfl rfl rfl rfl (Yld.shr rfl rfl (by omega)) ?_ | refine WL.gyes rfl rfl rfl rfl (Yld.pure tab_ok rfl) ?_ | refine WL.gyes rfl rfl rfl rfl (Yld.fld flds_ok rfl rfl rfl) ?_ | refine WL.gyes rfl rfl rfl rfl (Yld.max2 rfl rfl) ?_ | refine WL.gyes rfl rfl rfl rfl (Yld.min2 rfl rfl) ?_ | refine WL.gyes rfl rfl rfl rfl (Yld.pickV rfl rfl rfl) ?_)
        refine WC.chain (fun k => !(Nat.beq k 2)) (fun w' => w'.cell? ⟨6, 0, none⟩ = some E) mixed (by kernel_rfl) (fun w' h => (h.cell _).trans hEX) ?_
        refine WK.y rfl rfl (fun w' _ => Yld.zarr tab_ok rfl zero74) ?_
        refine WK.y rfl rfl (fun w' h => Yld.cell tab_ok h rfl rfl) ?_
        refine WK.eff rfl (Ef0.storeW tab_ok rfl rfl rfl (by intro u hu; rw [List.mem_replicate] at hu; rw [hu.2]; rfl) hB13 rfl rfl) (fun w' h => cell_grown h.2 hEX (by simp; omega)) ?_
        rintro w4 ⟨hB4, hg4⟩
        repeat (first | refine WK.y rfl rfl (fun _ _ => Yld.add rfl rfl (by simp only [In]; omega)) ?_ | refine WK.y rfl rfl (fun _ _ => Yld.sub rfl rfl (by simp only [In]; omega)) ?_ | refine WK.y rfl rfl (fun _ _ => Yld.mul rfl rfl (by simp only [In]; omega)) ?_ | refine WK.y rfl rfl (fun _ _ => Yld.convB tab_ok rfl rfl rfl rfl) ?_ | refine WK.y rfl rfl (fun _ _ => Yld.conv tab_ok rfl rfl rfl (by simp only [In]; omega)) ?_ | refine WK.y rfl rfl (fun _ _ => Yld.quo rfl rfl (by omega) (by omega) (by simp only [In]; omega)) ?_ | refine WK.y rfl rfl (fun _ _ => Yld.rem rfl rfl (by omega) (by omega)) ?_ | refine WK.y rfl rfl (fun _ _ => Yld.shl rfl rfl (by omega)) ?_ | refine WK.y rfl rfl (fun _ _ => Yld.shr rfl rfl (by omega)) ?_ | refine WK.y rfl rfl (fun _ _ => Yld.pure tab_ok rfl) ?_)
        refine WK.nil ?_
        repeat (first | refine WC.seq ?_ | refine WC.block ?_ | refine WC.region ?_ | refine WL.nil ?_ | refine WX.then_normal ?_ | refine WC.skip ?_ | refine WC.exit ?_ | refine WC.ret ?_ | refine WX.then_exit ?_ | refine WX.then_ret ?_ | refine WX.block_normal ?_ | refine WX.block_ret ?_ | refine WX.block_same ?_ | refine WX.block_other rfl ?_ | refine WC.label ?_ | refine WC.scope ?_ | refine WX.scope_normal ?_ | refine WX.scope_ret ?_ | refine WX.scope_exit ?_ | refine WL.y rfl (Yld.add rfl rfl (by simp only [In]; omega)) ?_ | refine WL.y rfl (Yld.sub rfl rfl (by simp only [In]; omega)) ?_ | refine WL.y rfl (Yld.mul rfl rfl (by simp only [In]; omega)) ?_ | refine WL.y rfl (Yld.convB tab_ok rfl rfl rfl rfl) ?_ | refine WL.y rfl (Yld.conv tab_ok rfl rfl rfl (by simp only [In]; omega)) ?_ | refine WL.y rfl (Yld.quo rfl rfl (by omega) (by omega) (by simp only [In]; omega)) ?_ | refine WL.y rfl (Yld.rem rfl rfl (by omega) (by omega)) ?_ | refine WL.y rfl (Yld.shl rfl rfl (by omega)) ?_ | refine WL.y rfl (Yld.shr rfl rfl (by omega)) ?_ | refine WL.y rfl (Yld.pure tab_ok rfl) ?_)
        exact WX.retct tab_ok rfl rfl rfl hB4 rfl rfl ⟨by rw [parR, hpar]; rfl, gr_new hgX hg4 hl1⟩
      | some b =>
        have hb := hlb b rfl
        have hor := or_in ha hb
        repeat (first | refine WC.seq ?_ | refine WC.block ?_ | refine WC.region ?_ | refine WL.nil ?_ | refine WX.then_normal ?_ | refine WC.skip ?_ | refine WC.exit ?_ | refine WC.ret ?_ | refine WX.then_exit ?_ | refine WX.then_ret ?_ | refine WX.block_normal ?_ | refine WX.block_ret ?_ | refine WX.block_same ?_ | refine WX.block_other rfl ?_ | refine WC.label ?_ | refine WC.scope ?_ | refine WX.scope_normal ?_ | refine WX.scope_ret ?_ | refine WX.scope_exit ?_ | refine WL.y rfl (Yld.add rfl rfl (by simp only [In]; omega)) ?_ | refine WL.y rfl (Yld.sub rfl rfl (by simp only [In]; omega)) ?_ | refine WL.y rfl (Yld.mul rfl rfl (by simp only [In]; omega)) ?_ | refine WL.y rfl (Yld.convB tab_ok rfl rfl rfl rfl) ?_ | refine WL.y rfl (Yld.conv tab_ok rfl rfl rfl (by simp only [In]; omega)) ?_ | refine WL.y rfl (Yld.quo rfl rfl (by omega) (by omega) (by simp only [In]; omega)) ?_ | refine WL.y rfl (Yld.rem rfl rfl (by omega) (by omega)) ?_ | refine WL.y rfl (Yld.shl rfl rfl (by omega)) ?_ | refine WL.y rfl (Yld.shr rfl rfl (by omega)) ?_ | refine WL.y rfl (Yld.pure tab_ok rfl) ?_ | refine WL.y rfl (Yld.fld flds_ok rfl rfl rfl) ?_ | refine WL.y rfl (Yld.max2 rfl rfl) ?_ | refine WL.y rfl (Yld.min2 rfl rfl) ?_ | refine WL.y rfl (Yld.pickV rfl rfl rfl) ?_ | refine WL.gno rfl rfl rfl rfl ?_ | refine WL.gyes rfl rfl rfl rfl (Yld.add rfl rfl (by simp only [In]; omega)) ?_ | refine WL.gyes rfl rfl rfl rfl (Yld.sub rfl rfl (by simp only [In]; omega)) ?_ | refine WL.gyes rfl rfl rfl rfl (Yld.mul rfl rfl (by simp only [In]; omega)) ?_ | refine WL.gyes rfl rfl rfl rfl (Yld.convB tab_ok rfl rfl rfl rfl) ?_ | refine WL.gyes rfl rfl rfl rfl (Yld.conv tab_ok rfl rfl rfl (by simp only [In]; omega)) ?_ | refine WL.gyes rfl rfl rfl rfl (Yld.quo rfl rfl (by omega) (by omega) (by simp only [In]; omega)) ?_ | refine WL.gyes rfl rfl rfl rfl (Yld.rem rfl rfl (by omega) (by omega)) ?_ | refine WL.gyes rfl rfl rfl rfl (Yld.shl rfl rfl (by omega)) ?_ | refine WL.gyes rfl rfl rfl rfl (Yld.shr rfl rfl (by omega)) ?_ | refine WL.gyes rfl rfl rfl rfl (Yld.pure tab_ok rfl) ?_ | refine WL.gyes rfl rfl rfl rfl (Yld.fld flds_ok rfl rfl rfl) ?_ | refine WL.gyes rfl rfl rfl rfl (Yld.max2 rfl rfl) ?_ | refine WL.gyes rfl rfl rfl rfl (Yld.min2 rfl rfl) ?_ | refine WL.gyes rfl rfl rfl rfl (Yld.pickV rfl rfl rfl) ?_)
        refine WC.cond rfl (fun h => by cases h) (fun _ => ?_)
        repeat (first | refine WL.y rfl (Yld.aaddrN tab_ok rfl rfl rfl (by omega)) ?_ | refine WC.seq ?_ | refine WC.block ?_ | refine WC.region ?_ | refine WL.nil ?_ | refine WX.then_normal ?_ | refine WC.skip ?_ | refine WC.exit ?_ | refine WC.ret ?_ | refine WX.then_exit ?_ | refine WX.then_ret ?_ | refine WX.block_normal ?_ | refine WX.block_ret ?_ | refine WX.block_same ?_ | refine WX.block_other rfl ?_ | refine WC.label ?_ | refine WC.scope ?_ | refine WX.scope_normal ?_ | refine WX.scope_ret ?_ | refine WX.scope_exit ?_ | refine WL.y rfl (Yld.add rfl rfl (by simp only [In]; omega)) ?_ | refine WL.y rfl (Yld.sub rfl rfl (by simp only [In]; omega)) ?_ | refine WL.y rfl (Yld.mul rfl rfl (by simp only [In]; omega)) ?_ | refine WL.y rfl (Yld.convB tab_ok rfl rfl rfl rfl) ?_ | refine WL.y rfl (Yld.conv tab_ok rfl rfl rfl (by simp only [In]; omega)) ?_ | refine WL.y rfl (Yld.quo rfl rfl (by omega) (by omega) (by simp only [In]; omega)) ?_ | refine WL.y rfl (Yld.rem rfl rfl (by omega) (by omega)) ?_ | refine WL.y rfl (Yld.shl rfl rfl (by omega)) ?_ | refine WL.y rfl (Yld.shr rfl rfl (by omega)) ?_ | refine WL.y rfl (Yld.pure tab_ok rfl) ?_ | refine WL.y rfl (Yld.fld flds_ok rfl rfl rfl) ?_ | refine WL.y rfl (Yld.max2 rfl rfl) ?_ | refine WL.y rfl (Yld.min2 rfl rfl) ?_ | refine WL.y rfl (Yld.pickV rfl rfl rfl) ?_ | refine WL.gno rfl rfl rfl rfl ?_ | refine WL.gyes rfl rfl rfl rfl (Yld.add rfl rfl (by simp only [In]; omega)) ?_ | refine WL.gyes rfl rfl rfl rfl (Yld.sub rfl rfl (by simp only [In]; omega)) ?_ | refine WL.gyes rfl rfl rfl rfl (Yld.mul rfl rfl (by simp only [In]; omega)) ?_ | refine WL.gyes rfl rfl rfl rfl (Yld.convB tab_ok rfl rfl rfl rfl) ?_ | refine WL.gyes rfl rfl rfl rfl (Yld.conv tab_ok rfl rfl rfl (by simp only [In]; omega)) ?_ | refine WL.gyes rfl rfl rfl rfl (Yld.quo rfl rfl (by omega) (by omega) (by simp only [In]; omega)) ?_ | refine WL.gyes rfl rfl rfl rfl (Yld.rem rfl rfl (by omega) (by omega)) ?_ | refine WL.gyes rfl rfl rfl rfl (Yld.shl rfl rfl (by omega)) ?_ | refine WL.gyes rfl rfl rfl rfl (Yld.shr rfl rfl (by omega)) ?_ | refine WL.gyes rfl rfl rfl rfl (Yld.pure tab_ok rfl) ?_ | refine WL.gyes rfl rfl rfl rfl (Yld.fld flds_ok rfl rfl rfl) ?_ | refine WL.gyes rfl rfl rfl rfl (Yld.max2 rfl rfl) ?_ | refine WL.gyes rfl rfl rfl rfl (Yld.min2 rfl rfl) ?_ | refine WL.gyes rfl rfl rfl rfl (Yld.pickV rfl rfl rfl) ?_)
        refine WL.store1 (u := vb (u8v (bits .or .u8 (shlV .u8 (a : Int) 4) (b : Int)))) one5 rfl (by rw [vb, hor]; rfl) rfl hB23 (by simp; omega) (fun w4 hB4 hg4 => ?_)
        rw [show 0 + i * 1 = i by omega, fill_set l i 32 _ hll (by omega)] at hB4
        repeat (first | refine WC.seq ?_ | refine WC.block ?_ | refine WC.region ?_ | refine WL.nil ?_ | refine WX.then_normal ?_ | refine WC.skip ?_ | refine WC.exit ?_ | refine WC.ret ?_ | refine WX.then_exit ?_ | refine WX.then_ret ?_ | refine WX.block_normal ?_ | refine WX.block_ret ?_ | refine WX.block_same ?_ | refine WX.block_other rfl ?_ | refine WC.label ?_ | refine WC.scope ?_ | refine WX.scope_normal ?_ | refine WX.scope_ret ?_ | refine WX.scope_exit ?_ | refine WL.y rfl (Yld.add rfl rfl (by simp only [In]; omega)) ?_ | refine WL.y rfl (Yld.sub rfl rfl (by simp only [In]; omega)) ?_ | refine WL.y rfl (Yld.mul rfl rfl (by simp only [In]; omega)) ?_ | refine WL.y rfl (Yld.convB tab_ok rfl rfl rfl rfl) ?_ | refine WL.y rfl (Yld.conv tab_ok rfl rfl rfl (by simp only [In]; omega)) ?_ | refine WL.y rfl (Yld.quo rfl rfl (by omega) (by omega) (by simp only [In]; omega)) ?_ | refine WL.y rfl (Yld.rem rfl rfl (by omega) (by omega)) ?_ | refine WL.y rfl (Yld.shl rfl rfl (by omega)) ?_ | refine WL.y rfl (Yld.shr rfl rfl (by omega)) ?_ | refine WL.y rfl (Yld.pure tab_ok rfl) ?_ | refine WL.y rfl (Yld.fld flds_ok rfl rfl rfl) ?_ | refine WL.y rfl (Yld.max2 rfl rfl) ?_ | refine WL.y rfl (Yld.min2 rfl rfl) ?_ | refine WL.y rfl (Yld.pickV rfl rfl rfl) ?_ | refine WL.gno rfl rfl rfl rfl ?_ | refine WL.gyes rfl rfl rfl rfl (Yld.add rfl rfl (by simp only [In]; omega)) ?_ | refine WL.gyes rfl rfl rfl rfl (Yld.sub rfl rfl (by simp only [In]; omega)) ?_ | refine WL.gyes rfl rfl rfl rfl (Yld.mul rfl rfl (by simp only [In]; omega)) ?_ | refine WL.gyes rfl rfl rfl rfl (Yld.convB tab_ok rfl rfl rfl rfl) ?_ | refine WL.gyes rfl rfl rfl rfl (Yld.conv tab_ok rfl rfl rfl (by simp only [In]; omega)) ?_ | refine WL.gyes rfl rfl rfl rfl (Yld.quo rfl rfl (by omega) (by omega) (by simp only [In]; omega)) ?_ | refine WL.gyes rfl rfl rfl rfl (Yld.rem rfl rfl (by omega) (by omega)) ?_ | refine WL.gyes rfl rfl rfl rfl (Yld.shl rfl rfl (by omega)) ?_ | refine WL.gyes rfl rfl rfl rfl (Yld.shr rfl rfl (by omega)) ?_ | refine WL.gyes rfl rfl rfl rfl (Yld.pure tab_ok rfl) ?_ | refine WL.gyes rfl rfl rfl rfl (Yld.fld flds_ok rfl rfl rfl) ?_ | refine WL.gyes rfl rfl rfl rfl (Yld.max2 rfl rfl) ?_ | refine WL.gyes rfl rfl rfl rfl (Yld.min2 rfl rfl) ?_ | refine WL.gyes rfl rfl rfl rfl (Yld.pickV rfl rfl rfl) ?_)
        exact WX.round2 (i + 1) _ ⟨by omega, hstep, hB4, hB13.keep hg4 (by simp; omega), gr_trans hg23 hg4⟩ (by omega) (by repeat (first | exact Sub.nil | refine Sub.cons rfl ?_))
  · simp only [decide_eq_false_iff_not] at h
    obtain rfl : i = 32 := by omega
    have hpar : parS s = some l := by unfold parS; rw [if_pos hs64, hp]
    simp only [Nat.sub_self, List.replicate_zero, List.append_nil] at hB23
    repeat (first | refine WC.seq ?_ | refine WC.block ?_ | refine WC.region ?_ | refine WL.nil ?_ | refine WX.then_normal ?_ | refine WC.skip ?_ | refine WC.exit ?_ | refine WC.ret ?_ | refine WX.then_exit ?_ | refine WX.then_ret ?_ | refine WX.block_normal ?_ | refine WX.block_ret ?_ | refine WX.block_same ?_ | refine WX.block_other rfl ?_ | refine WC.label ?_ | refine WC.scope ?_ | refine WX.scope_normal ?_ | refine WX.scope_ret ?_ | refine WX.scope_exit ?_ | refine WL.y rfl (Yld.add rfl rfl (by simp only [In]; omega)) ?_ | refine WL.y rfl (Yld.sub rfl rfl (by simp only [In]; omega)) ?_ | refine WL.y rfl (Yld.mul rfl rfl (by simp only [In]; omega)) ?_ | refine WL.y rfl (Yld.convB tab_ok rfl rfl rfl rfl) ?_ | refine WL.y rfl (Yld.conv tab_ok rfl rfl rfl (by simp only [In]; omega)) ?_ | refine WL.y rfl (Yld.quo rfl rfl (by omega) (by omega) (by simp only [In]; omega)) ?_ | refine WL.y rfl (Yld.rem rfl rfl (by omega) (by omega)) ?_ | refine WL.y rfl (Yld.shl rfl rfl (by omega)) ?_ | refine WL.y rfl (Yld.shr rfl rfl (by omega)) ?_ | refine WL.y rfl (Yld.pure tab_ok rfl) ?_ | refine WL.y rfl (Yld.fld flds_ok rfl rfl rfl) ?_ | refine WL.y rfl (Yld.max2 rfl rfl) ?_ | refine WL.y rfl (Yld.min2 rfl rfl) ?_ | refine WL.y rfl (Yld.pickV rfl rfl rfl) ?_ | refine WL.gno rfl rfl rfl rfl ?_ | refine WL.gyes rfl rfl rfl rfl (Yld.add rfl rfl (by simp only [In]; omega)) ?_ | refine WL.gyes rfl rfl rfl rfl (Yld.sub rfl rfl (by simp only [In]; omega)) ?_ | refine WL.gyes rfl rfl rfl rfl (Yld.mul rfl rfl (by simp only [In]; omega)) ?_ | refine WL.gyes rfl rfl rfl rfl (Yld.convB tab_ok rfl rfl rfl rfl) ?_ | refine WL.gyes rfl rfl rfl rfl (Yld.conv tab_ok rfl rfl rfl (by simp only [In]; omega)) ?_ | refine WL.gyes rfl rfl rfl rfl (Yld.quo rfl rfl (by omega) (by omega) (by simp only [In]; omega)) ?_ | refine WL.gyes rfl rfl rfl rfl (Yld.rem rfl rfl (by omega) (by omega)) ?_ | refine WL.gyes rfl rfl rfl rfl (Yld.shl rfl rfl (by omega)) ?_ | refine WL.gyes rfl rfl rfl rfl (Yld.shr rfl rfl (by omega)) ?_ | refine WL.gyes rfl rfl rfl rfl (Yld.pure tab_ok rfl) ?_ | refine WL.gyes rfl rfl rfl rfl (Yld.fld flds_ok rfl rfl rfl) ?_ | refine WL.gyes rfl rfl rfl rfl (Yld.max2 rfl rfl) ?_ | refine WL.gyes rfl rfl rfl rfl (Yld.min2 rfl rfl) ?_ | refine WL.gyes rfl rfl rfl rfl (Yld.pickV rfl rfl rfl) ?_)
    refine WL.y rfl (Yld.bagg (vs := l.map vb) tab_ok hB23 rfl rfl (by rw [List.drop_zero]; exact List.take_of_length_le (by simp [hll])) (by simp [hll])) ?_
    refine WL.storeW tab_ok rfl rfl rfl (oneM One.b _) hB13 rfl (by rw [List.length_map]; exact hll) (fun w4 hB4 hg4 => ?_)
    repeat (first | refine WC.seq ?_ | refine WC.block ?_ | refine WC.region ?_ | refine WL.nil ?_ | refine WX.then_normal ?_ | refine WC.skip ?_ | refine WC.exit ?_ | refine WC.ret ?_ | refine WX.then_exit ?_ | refine WX.then_ret ?_ | refine WX.block_normal ?_ | refine WX.block_ret ?_ | refine WX.block_same ?_ | refine WX.block_other rfl ?_ | refine WC.label ?_ | refine WC.scope ?_ | refine WX.scope_normal ?_ | refine WX.scope_ret ?_ | refine WX.scope_exit ?_ | refine WL.y rfl (Yld.add rfl rfl (by simp only [In]; omega)) ?_ | refine WL.y rfl (Yld.sub rfl rfl (by simp only [In]; omega)) ?_ | refine WL.y rfl (Yld.mul rfl rfl (by simp only [In]; omega)) ?_ | refine WL.y rfl (Yld.convB tab_ok rfl rfl rfl rfl) ?_ | refine WL.y rfl (Yld.conv tab_ok rfl rfl rfl (by simp only [In]; omega)) ?_ | refine WL.y rfl (Yld.quo rfl rfl (by omega) (by omega) (by simp only [In]; omega)) ?_ | refine WL.y rfl (Yld.rem rfl rfl (by omega) (by omega)) ?_ | refine WL.y rfl (Yld.shl rfl rfl (by omega)) ?_ | refine WL.y rfl (Yld.shr rfl rfl (by omega)) ?_ | refine WL.y rfl (Yld.pure tab_ok rfl) ?_ | refine WL.y rfl (Yld.fld flds_ok rfl rfl rfl) ?_ | refine WL.y rfl (Yld.max2 rfl rfl) ?_ | refine WL.y rfl (Yld.min2 rfl rfl) ?_ | refine WL.y rfl (Yld.pickV rfl rfl rfl) ?_ | refine WL.gno rfl rfl rfl rfl ?_ | refine WL.gyes rfl rfl rfl rfl (Yld.add rfl rfl (by simp only [In]; omega)) ?_ | refine WL.gyes rfl rfl rfl rfl (Yld.sub rfl rfl (by simp only [In]; omega)) ?_ | refine WL.gyes rfl rfl rfl rfl (Yld.mul rfl rfl (by simp only [In]; omega)) ?_ | refine WL.gyes rfl rfl rfl rfl (Yld.convB tab_ok rfl rfl rfl rfl) ?_ | refine WL.gyes rfl rfl rfl rfl (Yld.conv tab_ok rfl rfl rfl (by simp only [In]; omega)) ?_ | refine WL.gyes rfl rfl rfl rfl (Yld.quo rfl rfl (by omega) (by omega) (by simp only [In]; omega)) ?_ | refine WL.gyes rfl rfl rfl rfl (Yld.rem rfl rfl (by omega) (by omega)) ?_ | refine WL.gyes rfl rfl rfl rfl (Yld.shl rfl rfl (by omega)) ?_ | refine WL.gyes rfl rfl rfl rfl (Yld.shr rfl rfl (by omega)) ?_ | refine WL.gyes rfl rfl rfl rfl (Yld.pure tab_ok rfl) ?_ | refine WL.gyes rfl rfl rfl rfl (Yld.fld flds_ok rfl rfl rfl) ?_ | refine WL.gyes rfl rfl rfl rfl (Yld.max2 rfl rfl) ?_ | refine WL.gyes rfl rfl rfl rfl (Yld.min2 rfl rfl) ?_ | refine WL.gyes rfl rfl rfl rfl (Yld.pickV rfl rfl rfl) ?_)
    exact WX.retct tab_ok rfl rfl rfl hB4 (by rw [List.length_map]; exact hll) rfl ⟨by rw [parR, hpar], gr_new hgX hg4 hl1⟩
end Go.Proofs.YtlonpmajnglmoaaDoor

 /- The program's digests and the library's Itoa in the generator's form. -/
namespace Go.Proofs.YtlonpmajnglmoaaDoor
open Go Go.RowKit
def M_sha_Of (b : List UInt8) (K : List UInt8 → Prop) : Prop := b.length ≤ 1000000 ∧ K (shaS b)
theorem W_sha_Of {w : World} {b : List UInt8} {A : Option Addr} {c n : Nat} {K : List UInt8 → Prop} (hR : Rd vb w A c b) (hn : n = b.length) (H : M_sha_Of b K) : Fn Tryd.prog 80 ⟨[.slice A n c]⟩ w (fun v w' => w.grownBy w' none ∧ ∃ r : List UInt8, v = .agg ⟨a32 r⟩ ∧ K r) := by
  subst hn
  exact (of_fn A c b w hR H.1).mono fun v w' ⟨hv, hg⟩ => ⟨hg, shaS b, by rw [hv, a32_map _ (shaS_len b)], H.2⟩
def M_sha_Many (l : List (List UInt8)) (K : List UInt8 → Prop) : Prop := l.length ≤ 100 ∧ (∀ x ∈ l, x.length ≤ 10000) ∧ K (manyS l)
theorem W_sha_Many {w : World} {l : List (List UInt8)} {A : Option Addr} {c n : Nat} {K : List UInt8 → Prop} (hR : Rd vs w A c l) (hn : n = l.length) (H : M_sha_Many l K) : Fn Tryd.prog 84 ⟨[.slice A n c]⟩ w (fun v w' => w.grownBy w' none ∧ ∃ r : List UInt8, v = .agg ⟨a32 r⟩ ∧ K r) := by
  subst hn
  exact (many_fn A c l w hR H.1 H.2.1).mono fun v w' ⟨hv, hg⟩ => ⟨hg, manyS l, by rw [hv, a32_map _ (manyS_len l)], H.2.2⟩
def M_sha_Text (s : List UInt8) (K : List UInt8 → Prop) : Prop := ∀ t : List UInt8, t.length = 32 → (∀ i, i < 32 → t.getD i 0 = s.getD i 0) → K (hexS t)
theorem W_sha_Text {w : World} {s : List UInt8} {K : List UInt8 → Prop} (H : M_sha_Text s K) : Fn Tryd.prog 83 ⟨[.agg ⟨a32 s⟩]⟩ w (fun v w' => w.grownBy w' none ∧ ∃ r : List UInt8, v = vs r ∧ K r) := by
  have hl : ((List.range 32).map fun i => s.getD i 0).length = 32 := by simp
  have e : a32 s = ((List.range 32).map fun i => s.getD i 0).map vb := by rw [a32_range, List.map_map]; rfl
  rw [e]
  exact (text_fn _ w hl).mono fun v w' ⟨hv, hg⟩ => ⟨hg, _, hv, H _ hl fun i hi => by simp [List.getD, hi]⟩
def M_sha_Parse (s : List UInt8) (K : List UInt8 → Er → Prop) : Prop := (∀ l, parS s = some l → K l .ok) ∧ (parS s = none → K (List.replicate 32 0) (.e 12))
theorem parS_len {s l : List UInt8} (h : parS s = some l) : l.length = 32 := by
  unfold parS at h
  split at h
  · exact parN_len s 32 l h
  · cases h
theorem W_sha_Parse {S : List Nat} {w : World} {s : List UInt8} {K : List UInt8 → Er → Prop} (hG : GOK S w) (h12 : 12 ∈ S) (H : M_sha_Parse s K) : Fn Tryd.prog 114 ⟨[vs s]⟩ w (fun v w' => w.grownBy w' none ∧ ∃ (r0 : List UInt8), ∃ (v_r1 : Value), ∃ (r1 : Er), v = .tuple #[.agg ⟨a32 r0⟩, v_r1] ∧ ErrR S w' v_r1 r1 ∧ K r0 r1) := by
  obtain ⟨E, hE, hE'⟩ := hG.get 12 6 h12 rfl rfl
  refine (parse_fn s E w hE).mono fun v w' ⟨hv, hg⟩ => ?_
  unfold parR at hv
  cases h : parS s with
  | some l =>
    rw [h] at hv
    exact ⟨hg, l, .nilIface, .ok, by rw [hv, a32_map _ (parS_len h)], rfl, H.1 l h⟩
  | none =>
    rw [h] at hv
    exact ⟨hg, _, E, .e 12, by rw [hv, a32_map _ (by simp)], hE'.grown hg, H.2 h⟩
end Go.Proofs.YtlonpmajnglmoaaDoor


 /- Regions some of whose operations may come in several orders: the floats once, the others order by order, what stands behind once. -/
namespace Go.Proofs.YtlonpmajnglmoaaDoor
open Go Go.RowKit
section
variable {P : Program} {N : Nat} {ops : Array Oper} {fl : Nat → Bool} {D : World → Prop} {n g : Nat} {K : Act → World → Prop} {Q : Post} {L : Slots} {w : World} {f : Nat} {listed : Array Bool} {d : Nat} {op : Op} {ty : TypeId} {pos : String} {af : Array Edge} {gd : Option (Nat × Bool)}
structure HeadOk (ops : Array Oper) (n : Nat) : Prop where
  sel : Region.noSelect ops = true
  sink : Region.sinkB .any ops n = true
  chain : Region.chainB .any ops n = true
  lt : n < ops.size
def WA (P : Program) (N : Nat) (ops : Array Oper) (fl : Nat → Bool) (D : World → Prop) (n g : Nat) (K : Act → World → Prop) (f : Nat) (listed : Array Bool) (L : Slots) (w : World) : Prop :=
  HeadOk ops n → HeadInv .any ops n listed → ∀ a w1, Eqv w w1 → D w1 → Has N L a → anyT P .any ops fl D n (fun l' a' w' => Region.seqB .any ops g n l' = true ∧ K a' w') f listed a w1
def WI (P : Program) (N : Nat) (ops : Array Oper) (fl : Nat → Bool) (D : World → Prop) (n g : Nat) (K : Act → World → Prop) (f : Nat) (listed : Array Bool) (L : Slots) (w : World) (i : Nat) : Prop :=
  HeadOk ops n → HeadInv .any ops n (listed.setIfInBounds i true) → ∀ a w1, Eqv w w1 → D w1 → Has N L a → ∃ o, ops[i]? = some o ∧ fl i = false ∧ sRun P ops D o a w1 fun a' w' => anyT P .any ops fl D n (fun l' a' w' => Region.seqB .any ops g n l' = true ∧ K a' w') f (listed.setIfInBounds i true) a' w'
theorem WA.y {v : Value} (k : Nat) (ho : ops[k]? = some ⟨some d, op, ty, pos, af, none⟩) (hf : (fl k && ((Region.ready .any ops listed).contains k && (Region.free .any ops listed k && Nat.blt k n))) = true) (hd : Nat.blt d N = true) (hy : ∀ w', D w' → Yld P N w' ⟨some d, op, ty, pos, af, none⟩ L v)
    (h : WA P N ops fl D n g K f (listed.setIfInBounds k true) ((d, v) :: L) w) : WA P N ops fl D n g K (f + 1) listed L w := fun ok inv a w1 e hw ha => by
  simp only [Bool.and_eq_true] at hf
  obtain ⟨hfl, hr, hfr, hkn⟩ := hf
  have hr' : k ∈ Region.ready .any ops listed := by simpa using hr
  have hkn' : k < n := by simpa [Nat.blt_eq] using hkn
  exact float_firstT ho hfl (Region.noSelect_spec ok.sel) ok.sink ok.chain ok.lt hkn' (fun _ _ _ hL => seqB_ready hL.1) f listed a w1 hw inv (Region.free_spec ho hfr) hr'
    (.inl ⟨by simp [Region.wanted], fun w' hw' => hy w' hw' a w' (Eqv.refl _) ha⟩) (h ok (inv.set hr' hkn') _ _ e hw (ha.put hd v))
def AllL {α : Type} (p : α → Prop) : List α → Prop
  | [] => True
  | [x] => p x
  | x :: y :: l => p x ∧ AllL p (y :: l)
theorem AllL.mem {α : Type} {p : α → Prop} : ∀ {l : List α}, AllL p l → ∀ x ∈ l, p x
  | [], _, x, h => by simp at h
  | [y], h, x, hx => by simp at hx; subst hx; exact h
  | y :: z :: l, h, x, hx => by
    rcases List.mem_cons.1 hx with rfl | hx
    · exact h.1
    · exact AllL.mem h.2 x hx
theorem WA.split (is : List Nat) (hr : Region.ready .any ops listed = is) (hc : (!is.isEmpty && is.all fun i => Nat.blt i n) = true) (h : AllL (WI P N ops fl D n g K f listed L w) is) : WA P N ops fl D n g K (f + 1) listed L w := fun ok inv a w1 e hw ha => by
  simp only [Bool.and_eq_true] at hc
  refine ⟨fun h0 => ?_, fun i hi => ?_⟩
  · rw [hr] at h0; subst h0; simp at hc
  · have hi' := hi
    rw [hr] at hi'
    have hin : i < n := by have := List.all_eq_true.1 hc.2 i hi'; simpa [Nat.blt_eq] using this
    obtain ⟨o, ho, hfl, hs⟩ := h.mem i hi' ok (inv.set hi hin) a w1 e hw ha
    exact ⟨hin, o, ho, .inr ⟨hfl, hs⟩⟩
theorem WI.put {i : Nat} {R : Value → World → Prop} (ho : ops[i]? = some ⟨some d, op, ty, pos, af, none⟩) (hf : fl i = false) (hd : Nat.blt d N = true) (hr : Eff P N w ⟨some d, op, ty, pos, af, none⟩ L R) (hD : ∀ v w', R v w' → D w')
    (hk : ∀ v w', R v w' → WA P N ops fl D n g K f (listed.setIfInBounds i true) ((d, v) :: L) w') : WI P N ops fl D n g K f listed L w i := fun ok inv a w1 e hw ha => by
  refine ⟨_, ho, hf, ?_⟩
  unfold sRun
  rw [if_pos (by simp [Region.wanted])]
  obtain ⟨v, w', h, hR⟩ := hr a w1 e ha
  rw [h]
  exact ⟨hD v w' hR, hk v w' hR ok inv _ w' (Eqv.refl _) (hD v w' hR) (ha.put hd v)⟩
theorem WI.eff {i : Nat} {R : World → Prop} (ho : ops[i]? = some ⟨none, op, ty, pos, af, none⟩) (hf : fl i = false) (hr : Ef0 P N w ⟨none, op, ty, pos, af, none⟩ L R) (hD : ∀ w', R w' → D w')
    (hk : ∀ w', R w' → WA P N ops fl D n g K f (listed.setIfInBounds i true) L w') : WI P N ops fl D n g K f listed L w i := fun ok inv a w1 e hw ha => by
  refine ⟨_, ho, hf, ?_⟩
  unfold sRun
  rw [if_pos (by simp [Region.wanted])]
  obtain ⟨w', h, hR⟩ := hr a w1 e ha
  rw [h]
  exact ⟨hD w' hR, hk w' hR ok inv _ w' (Eqv.refl _) (hD w' hR) ha⟩
theorem WI.call {i : Nat} {R : Value → World → Prop} {fn : FuncId} {as_ : List Operand} {ts : Array TypeId} {vs : List Value} (ho : ops[i]? = some ⟨some d, .call ⟨.value (.func fn), ⟨as_⟩, ts⟩, ty, pos, af, gd⟩) (hf : fl i = false) (hg : Wants N ops L gd) (hd : Nat.blt d N = true) (hv : opvs L as_ = some vs) (hc : Fn P fn ⟨vs⟩ w R) (hD : ∀ v w', R v w' → ∀ w2, Eqv w' w2 → D w2)
    (hk : ∀ v w', R v w' → WA P N ops fl D n g K f (listed.setIfInBounds i true) ((d, v) :: L) w') : WI P N ops fl D n g K f listed L w i := fun ok inv a w1 e hw ha => by
  refine ⟨_, ho, hf, ?_⟩
  unfold sRun
  rw [if_pos (Wants.wanted (o := ⟨some d, .call ⟨.value (.func fn), ⟨as_⟩, ts⟩, ty, pos, af, gd⟩) hg ha), run_enter ha hv hc.1]
  refine (hc.2 w1 e).mono ?_
  rintro en w' ⟨v, w0, rfl, h0, hR⟩
  exact ⟨v, rfl, hD v w0 hR w' h0, hk v w0 hR ok inv _ w' h0 (hD v w0 hR w' h0) (ha.put hd v)⟩
end
end Go.Proofs.YtlonpmajnglmoaaDoor

 /- Printed by a program (wip/vg): elements of several cells. -/
namespace Go.Proofs.YtlonpmajnglmoaaDoor
open Go Go.RowKit
def enc43 (x : List UInt8 × List UInt8) : List Value := [vs x.1, vs x.2]
theorem enc43_ok : OneK 2 enc43 := ⟨by omega, fun _ => rfl, fun _ => (all1c rfl (all1c rfl all1n))⟩
def enc78 (x : List UInt8 × List UInt8) : List Value := a32 x.1 ++ a32 x.2
theorem enc78_ok : OneK 64 enc78 := ⟨by omega, fun _ => rfl, fun _ => (all1a (a32_one _) (all1a (a32_one _) all1n))⟩
def enc136 (x : Int × List UInt8) : List Value := [.int .i64 x.1, vs x.2]
theorem enc136_ok : OneK 2 enc136 := ⟨by omega, fun _ => rfl, fun _ => (all1c rfl (all1c rfl all1n))⟩
theorem ow66 : ckOwK Tryd.prog 66 78 64 64 = true := by kernel_rfl
theorem ow126 : ckOwK Tryd.prog 126 136 2 24 = true := by kernel_rfl
end Go.Proofs.YtlonpmajnglmoaaDoor

 /- Printed by a program (wip/vg): what the functions mean, plainly, and their walks. -/
namespace Go.Proofs.YtlonpmajnglmoaaDoor
open Go Go.RowKit
attribute [local irreducible] WL WC WX WQ WK WJ Yld Eff Ef0 Fn
def M_key_Source (text : List UInt8) (K : (List UInt8) → Prop) : Prop :=
 (text.length ≤ maxLen) ∧
 M_sha_Of text (fun (t5 : List UInt8) =>
 K t5)

def M_smithyref1_Hex (s : List UInt8) (K : (List UInt8) → Prop) : Prop :=
 (0 ≤ (64 : Int) ∧ (64 : Int) * 1 ≤ 140737488355328 ∧ (64 : Int) ≤ 140737488355328) ∧
 Lp2 (fun (out : List UInt8) (i : Int) kont1 => ((i < (32 : Int) → (0 ≤ i ∧ i < 32) ∧
 (0 ≤ shrV .u8 ((s.getD i.toNat 0).toNat : Int) 4 ∧ shrV .u8 ((s.getD i.toNat 0).toNat : Int) 4 < ([48, 49, 50, 51, 52, 53, 54, 55, 56, 57, 97, 98, 99, 100, 101, 102] : List UInt8).length) ∧
 (0 ≤ i ∧ i < 32) ∧
 (0 ≤ bits .and .u8 ((s.getD i.toNat 0).toNat : Int) (15 : Int) ∧ bits .and .u8 ((s.getD i.toNat 0).toNat : Int) (15 : Int) < ([48, 49, 50, 51, 52, 53, 54, 55, 56, 57, 97, 98, 99, 100, 101, 102] : List UInt8).length) ∧
 ((out.length + (([([48, 49, 50, 51, 52, 53, 54, 55, 56, 57, 97, 98, 99, 100, 101, 102] : List UInt8).getD (shrV .u8 ((s.getD i.toNat 0).toNat : Int) 4).toNat 0, ([48, 49, 50, 51, 52, 53, 54, 55, 56, 57, 97, 98, 99, 100, 101, 102] : List UInt8).getD (bits .and .u8 ((s.getD i.toNat 0).toNat : Int) (15 : Int)).toNat 0] : List UInt8)).length) * 1 ≤ 140737488355328) ∧
 (In .i64 (i + (1 : Int))) ∧
 kont1 (out ++ ([([48, 49, 50, 51, 52, 53, 54, 55, 56, 57, 97, 98, 99, 100, 101, 102] : List UInt8).getD (shrV .u8 ((s.getD i.toNat 0).toNat : Int) 4).toNat 0, ([48, 49, 50, 51, 52, 53, 54, 55, 56, 57, 97, 98, 99, 100, 101, 102] : List UInt8).getD (bits .and .u8 ((s.getD i.toNat 0).toNat : Int) (15 : Int)).toNat 0] : List UInt8)) (i + (1 : Int))) ∧
 (¬ (i < (32 : Int)) → K out))) ([] : List UInt8) (0 : Int)

def M_smithyref17_SameSum (a : List UInt8) (b : List UInt8) (K : Bool → Prop) : Prop :=
 M_smithyref1_Hex a (fun (t6 : List UInt8) =>
 M_smithyref1_Hex b (fun (t8 : List UInt8) =>
 K (decide (t6 = t8))))

set_option maxHeartbeats 8000000 in
theorem W_key_Source {w : World} {text : List UInt8} {K : (List UInt8) → Prop} (H : M_key_Source text K) : Fn Tryd.prog 39 ⟨[vs text]⟩ w (fun v w' => w.grownBy w' none ∧ ∃ (r : List UInt8), v = .agg ⟨a32 r⟩ ∧ K r) := by
  unfold M_key_Source at H
  refine Fn.enter (by kernel_rfl) Tryd.func39 rfl Tryd.ntmps39 rfl ?_
  refine WC.seq ?_
  refine WC.region ?_
  refine WL.alloc rfl zero74 (fun g1 w1 hB1 hg1 hl1 => ?_)
  rw [a32_zero] at hB1
  have gr1 := hg1
  refine WL.nil (WX.then_normal ?_)
  refine WC.seq ?_
  refine WC.region ?_
  refine WL.y rfl (Yld.pure tab_ok rfl) ?_
  obtain ⟨h1, H⟩ := H
  refine WL.s2b tab_ok rfl rfl rfl rfl rfl h1 (fun A_t4 c_t4 w2 hR1 hg2 hge1 => ?_)
  have gr2 := gr_trans gr1 hg2
  have k1 := hB1.g0 hg2
  refine WL.call rfl rfl (W_sha_Of hR1 rfl H) ?_
  rintro _ w3 ⟨hg3, t5, rfl, H⟩
  have gr3 := gr_trans gr2 hg3
  have k2 := k1.g0 hg3
  refine WL.storeW (vs := (a32 t5)) tab_ok rfl rfl rfl (all1a (a32_one _) all1n) k2 rfl rfl (fun w4 hB2 hg4 => ?_)
  have gr4 := gr_mod gr3 hg4 (Ge.le (Ge.box hl1) (Nat.le_refl _))
  refine WL.nil (WX.then_normal ?_)
  refine WC.ret ?_
  exact WX.retc tab_ok rfl rfl rfl hB2 rfl ⟨gr4, t5, rfl, H⟩

set_option maxHeartbeats 8000000 in
theorem W_smithyref1_Hex {w : World} {s : List UInt8} {K : (List UInt8) → Prop} (H : M_smithyref1_Hex s K) : Fn Tryd.prog 85 ⟨[.agg ⟨a32 s⟩]⟩ w (fun v w' => w.grownBy w' none ∧ ∃ (r : List UInt8), v = vs r ∧ K r) := by
  unfold M_smithyref1_Hex at H
  refine Fn.enter (by kernel_rfl) Tryd.func85 rfl Tryd.ntmps85 rfl ?_
  refine WC.seq ?_
  refine WC.region ?_
  refine WL.box (us := (a32 s)) rfl rfl rfl (fun g1 w1 hB1 hg1 hl1 => ?_)
  have gr1 := hg1
  refine WL.y rfl (Yld.pure tab_ok rfl) ?_
  refine WL.nil (WX.then_normal ?_)
  refine WC.seq ?_
  refine WC.region ?_
  refine WL.y rfl (Yld.pure tab_ok rfl) ?_
  refine WL.nil (WX.then_normal ?_)
  refine WC.seq ?_
  refine WC.region ?_
  obtain ⟨h1, H⟩ := H
  refine WL.makeCI (f := vb) (B := w.heap.size) tab_ok rfl rfl rfl rfl h1.1 h1.2.1 h1.2.2 (size_le gr1) (fun g2 w2 hO1 hg2 hl2 => ?_)
  have gr2 := gr_trans gr1 hg2
  have k1 := hB1.g0 hg2
  refine WL.y rfl (Yld.pure tab_ok rfl) ?_
  refine WL.nil (WX.then_normal ?_)
  refine WC.seq ?_
  refine WC.seq ?_
  refine WC.region ?_
  refine WL.y rfl (Yld.pure tab_ok rfl) ?_
  refine WL.nil (WX.then_normal ?_)
  refine WC.block ?_
  obtain ⟨I1, mu1, h0_1, HR1⟩ := H
  refine WC.loopF (fun n' L' w' => ∃ (out : List UInt8), ∃ (A_out : Option Addr), ∃ (c_out : Nat), ∃ (n_out : Nat), ∃ (i : Int), n' = mu1 out i ∧ L' = [(1, .pointer (some ⟨g1, 0, none⟩)), (3, vs ([48, 49, 50, 51, 52, 53, 54, 55, 56, 57, 97, 98, 99, 100, 101, 102] : List UInt8)), (4, .slice A_out n_out c_out), (5, .int .i64 i)] ∧ I1 out i ∧ n_out = out.length ∧ w.grownBy w' none ∧ Bl w' g1 73 (a32 s) ∧ Own vb w' w.heap.size 5 A_out c_out out ∧ Dj (some g1) (blk A_out)) _ _ ⟨([] : List UInt8), (some ⟨g2, 0, none⟩), 64, 0, (0 : Int), rfl, rfl, h0_1, rfl, gr2, k1, hO1, (Dj.new hB1.lt' (Ge.box hl2))⟩ (by repeat (first | exact Sub.nil | refine Sub.cons rfl ?_)) ?_
  clear h0_1
  rintro _ _ w3 ⟨out, A_out, c_out, n_out, i, rfl, rfl, hI1, rfl, gr3, k2, k3, dj1⟩
  have H := HR1 out i hI1
  refine WC.seq ?_
  refine WC.seq ?_
  refine WC.region ?_
  refine WL.y rfl (Yld.pure tab_ok rfl) ?_
  refine WL.y rfl (Yld.pure tab_ok rfl) ?_
  refine WL.nil (WX.then_normal ?_)
  refine WC.cond rfl (fun b1 => ?_) (fun b1 => ?_)
  · replace H := H.1 (of_decide_eq_true b1)
    refine WC.skip (WX.then_normal ?_)
    refine WC.seq ?_
    refine WC.block ?_
    refine WC.chainF (fun k => !(Nat.beq k 13 || Nat.beq k 14)) (LD [4, 10] (fun w' => Bl w' g1 73 (a32 s))) mixed (by kernel_rfl) (fun k w' h _ => (bl_eqv h k2)) ?_
    refine WJ.y rfl rfl (fun w' hw' => Yld.pure tab_ok rfl) ?_
    refine WJ.y rfl rfl (fun w' hw' => Yld.pure tab_ok rfl) ?_
    refine WJ.y rfl rfl (fun w' hw' => Yld.pure tab_ok rfl) ?_
    obtain ⟨h2, H⟩ := H
    refine WJ.y rfl rfl (fun w' hw' => Yld.aaddr tab_ok rfl rfl rfl h2.1 h2.2) ?_
    refine WJ.y rfl rfl (fun w' hw' => Yld.bload tab_ok (hw' rfl) rfl rfl (a32_getO _ _ (lt32 h2))) ?_
    refine WJ.y rfl rfl (fun w' hw' => Yld.shr rfl rfl (by omega)) ?_
    obtain ⟨h3, H⟩ := H
    refine WJ.y rfl rfl (fun w' hw' => Yld.sidx tab_ok rfl rfl rfl h3.1 h3.2) ?_
    refine WJ.y rfl rfl (fun w' hw' => Yld.pure tab_ok rfl) ?_
    refine WJ.y rfl rfl (fun w' hw' => Yld.pure tab_ok rfl) ?_
    obtain ⟨h4, H⟩ := H
    refine WJ.y rfl rfl (fun w' hw' => Yld.aaddr tab_ok rfl rfl rfl h4.1 h4.2) ?_
    refine WJ.y rfl rfl (fun w' hw' => Yld.bload tab_ok (hw' rfl) rfl rfl (a32_getO _ _ (lt32 h4))) ?_
    refine WJ.y rfl rfl (fun w' hw' => Yld.pure tab_ok rfl) ?_
    obtain ⟨h5, H⟩ := H
    refine WJ.y rfl rfl (fun w' hw' => Yld.sidx tab_ok rfl rfl rfl h5.1 h5.2) ?_
    refine WJ.putw rfl (wants_none) rfl (Eff.lit tab_ok rfl rfl (all1c rfl (all1c rfl all1n)) rfl (by omega)) (fun v w' ⟨_, _, h⟩ => DD.keep (Bl.g0 k2 (gr_eqv h (Eqv.refl _)))) ?_
    rintro _ w4 ⟨rfl, hB2, hg3⟩
    obtain ⟨g_t24, hl3⟩ : ∃ g, g = w3.heap.size := ⟨_, rfl⟩
    rw [← hl3] at hB2
    rw [← hl3]
    have hO2 : Own vb w4 w.heap.size 5 (some ⟨g_t24, 0, none⟩) 2 ([([48, 49, 50, 51, 52, 53, 54, 55, 56, 57, 97, 98, 99, 100, 101, 102] : List UInt8).getD (shrV .u8 ((s.getD i.toNat 0).toNat : Int) 4).toNat 0, ([48, 49, 50, 51, 52, 53, 54, 55, 56, 57, 97, 98, 99, 100, 101, 102] : List UInt8).getD (bits .and .u8 ((s.getD i.toNat 0).toNat : Int) (15 : Int)).toNat 0] : List UInt8) := Own.ofBl hB2 (Nat.le_trans (size_le gr3) (Nat.le_of_eq hl3.symm)) (by simp [maxLen]) rfl
    have gr4 := gr_trans gr3 hg3
    have k4 := k2.g0 hg3
    have k5 := k3.grown hg3
    obtain ⟨h6, H⟩ := H
    refine WJ.putw rfl (wants_none) rfl (Eff.append tab_ok rfl One.b k5 rfl rfl hO2.rd rfl rfl h6 (applen h6) (size_le gr4)) (fun v w' ⟨_, _, _, _, h, _⟩ => DD.keep (Bl.go k4 (gr_eqv h (Eqv.refl _)) dj1)) ?_
    rintro _ w5 ⟨A_out2, c_out2, rfl, hO3, hg4, hk1⟩
    have gr5 := gr_mod gr4 hg4 k5.ge'
    have k6 := k4.go hg4 dj1
    refine WJ.y rfl rfl (fun w' hw' => Yld.pure tab_ok rfl) ?_
    refine WJ.nil (WX.block_normal (WX.then_normal ?_))
    refine WC.region ?_
    refine WL.y rfl (Yld.pure tab_ok rfl) ?_
    obtain ⟨h7, H⟩ := H
    refine WL.y rfl (Yld.add rfl rfl h7) ?_
    refine WL.y rfl (Yld.pure tab_ok rfl) ?_
    refine WL.nil ?_
    exact WX.roundF _ ⟨out ++ ([([48, 49, 50, 51, 52, 53, 54, 55, 56, 57, 97, 98, 99, 100, 101, 102] : List UInt8).getD (shrV .u8 ((s.getD i.toNat 0).toNat : Int) 4).toNat 0, ([48, 49, 50, 51, 52, 53, 54, 55, 56, 57, 97, 98, 99, 100, 101, 102] : List UInt8).getD (bits .and .u8 ((s.getD i.toNat 0).toNat : Int) (15 : Int)).toNat 0] : List UInt8), A_out2, c_out2, (out ++ ([([48, 49, 50, 51, 52, 53, 54, 55, 56, 57, 97, 98, 99, 100, 101, 102] : List UInt8).getD (shrV .u8 ((s.getD i.toNat 0).toNat : Int) 4).toNat 0, ([48, 49, 50, 51, 52, 53, 54, 55, 56, 57, 97, 98, 99, 100, 101, 102] : List UInt8).getD (bits .and .u8 ((s.getD i.toNat 0).toNat : Int) (15 : Int)).toNat 0] : List UInt8)).length, i + (1 : Int), rfl, rfl, H.1, rfl, gr5, k6, hO3, (Dj.app dj1.symm k4.lt' hk1).symm⟩ (by repeat (first | exact Sub.nil | refine Sub.cons rfl ?_)) H.2
  · replace H := H.2 (of_decide_eq_false b1)
    refine WC.exit (WX.then_exit (WX.then_exit (WX.block_same (WX.then_normal ?_))))
    refine WC.seq ?_
    refine WC.region ?_
    refine WL.y rfl (Yld.pure tab_ok rfl) ?_
    refine WL.y rfl (Yld.b2s tab_ok k3.rd rfl rfl rfl rfl rfl) ?_
    refine WL.y rfl (Yld.pure tab_ok rfl) ?_
    refine WL.nil (WX.then_normal ?_)
    refine WC.ret ?_
    exact WX.ret1 rfl rfl ⟨gr3, out, rfl, H⟩

set_option maxHeartbeats 8000000 in
theorem W_smithyref17_SameSum {w : World} {a : List UInt8} {b : List UInt8} {K : Bool → Prop} (H : M_smithyref17_SameSum a b K) : Fn Tryd.prog 47 ⟨[.agg ⟨a32 a⟩, .agg ⟨a32 b⟩]⟩ w (fun v w' => w.grownBy w' none ∧ ∃ (r : Bool), v = .bool r ∧ K r) := by
  unfold M_smithyref17_SameSum at H
  refine Fn.enter (by kernel_rfl) Tryd.func47 rfl Tryd.ntmps47 rfl ?_
  refine WC.seq ?_
  refine WC.region ?_
  refine WL.box (us := (a32 a)) rfl rfl rfl (fun g1 w1 hB1 hg1 hl1 => ?_)
  have gr1 := hg1
  refine WL.box (us := (a32 b)) rfl rfl rfl (fun g2 w2 hB2 hg2 hl2 => ?_)
  have gr2 := gr_trans gr1 hg2
  have k1 := hB1.g0 hg2
  refine WL.y rfl (Yld.pure tab_ok rfl) ?_
  refine WL.nil (WX.then_normal ?_)
  refine WC.seq ?_
  refine WC.chainF (fun k => !(Nat.beq k 1 || Nat.beq k 3)) (LD [0, 2] (fun w' => Bl w' g1 73 (a32 a) ∧ Bl w' g2 73 (a32 b))) mixed (by kernel_rfl) (fun k w' h _ => ⟨(bl_eqv h k1), (bl_eqv h hB2)⟩) ?_
  refine WJ.y rfl rfl (fun w' hw' => Yld.bagg (vs := (a32 a)) tab_ok (hw' rfl).1 rfl rfl rfl rfl) ?_
  refine WJ.call rfl (wants_none) rfl rfl (W_smithyref1_Hex H) (fun v w' h w2 e => DD.keep (⟨(Bl.g0 k1 (gr_eqv h.1 e)), (Bl.g0 hB2 (gr_eqv h.1 e))⟩)) ?_
  rintro _ w3 ⟨hg3, t6, rfl, H⟩
  have gr3 := gr_trans gr2 hg3
  have k2 := k1.g0 hg3
  have k3 := hB2.g0 hg3
  refine WJ.y rfl rfl (fun w' hw' => Yld.bagg (vs := (a32 b)) tab_ok (hw' rfl).2 rfl rfl rfl rfl) ?_
  refine WJ.call rfl (wants_none) rfl rfl (W_smithyref1_Hex H) (fun v w' h w2 e => DD.keep (⟨(Bl.g0 k2 (gr_eqv h.1 e)), (Bl.g0 k3 (gr_eqv h.1 e))⟩)) ?_
  rintro _ w4 ⟨hg4, t8, rfl, H⟩
  have gr4 := gr_trans gr3 hg4
  have k4 := k2.g0 hg4
  have k5 := k3.g0 hg4
  refine WJ.y rfl rfl (fun w' hw' => Yld.pure tab_ok rfl) ?_
  refine WJ.y rfl rfl (fun w' hw' => Yld.pure tab_ok rfl) ?_
  refine WJ.nil (WX.then_normal ?_)
  refine WC.ret ?_
  exact WX.ret1 rfl rfl ⟨gr4, decide (t6 = t8), rfl, H⟩

end Go.Proofs.YtlonpmajnglmoaaDoor

 /- Printed by a program (wip/vg): what the functions mean, plainly, and their walks. -/
namespace Go.Proofs.YtlonpmajnglmoaaDoor
open Go Go.RowKit
attribute [local irreducible] WL WC WX WQ WK WJ Yld Eff Ef0 Fn
end Go.Proofs.YtlonpmajnglmoaaDoor

 /- smithysee.sentinel: the number of one of api's variables. -/
namespace Go.Proofs.YtlonpmajnglmoaaDoor
open Go Go.RowKit
attribute [local irreducible] WL WC WX WQ WK WJ Yld Eff Ef0 Fn
end Go.Proofs.YtlonpmajnglmoaaDoor


 /- Printed by a program (wip/vg): what the functions mean, plainly, and their walks. -/
namespace Go.Proofs.YtlonpmajnglmoaaDoor
open Go Go.RowKit
attribute [local irreducible] WL WC WX WQ WK WJ Yld Eff Ef0 Fn
end Go.Proofs.YtlonpmajnglmoaaDoor

 /- Maps: plainly, and in the world. -/
namespace Go.Proofs.YtlonpmajnglmoaaDoor
open Go Go.RowKit Go.MapKept Go.ChangeMaps
open Go.Maps (Keyed)
/-! ## plainly: the entries, in the order in which they were laid -/
section
variable {κ ν : Type} [DecidableEq κ]
def mget : List (κ × ν) → κ → Option ν
  | [], _ => none
  | p :: m, k => if p.1 = k then some p.2 else mget m k
def mput : List (κ × ν) → κ → ν → List (κ × ν)
  | [], k, v => [(k, v)]
  | p :: m, k, v => if p.1 = k then (k, v) :: m else p :: mput m k v
def Uq (m : List (κ × ν)) : Prop := (m.map (·.1)).Nodup
theorem mget_none {m : List (κ × ν)} {k : κ} : mget m k = none ↔ ∀ p ∈ m, p.1 ≠ k := by
  induction m with
  | nil => simp [mget]
  | cons p m ih =>
    unfold mget
    split
    · rename_i h; simp [h]
    · rename_i h; rw [ih]; simp [h]
theorem mget_mput (m : List (κ × ν)) (k k' : κ) (v : ν) : mget (mput m k v) k' = if k = k' then some v else mget m k' := by
  induction m with
  | nil => simp [mget, mput]
  | cons p m ih =>
    unfold mput
    split
    · rename_i h
      subst h
      unfold mget
      split <;> simp_all
    · rename_i h
      unfold mget
      rw [ih]
      split
      · rename_i h2
        subst h2
        rw [if_neg (Ne.symm h)]
      · rfl
theorem mput_new {m : List (κ × ν)} {k : κ} {v : ν} (h : mget m k = none) : mput m k v = m ++ [(k, v)] := by
  induction m with
  | nil => rfl
  | cons p m ih =>
    unfold mget at h
    split at h
    · cases h
    · rename_i hne
      unfold mput
      rw [if_neg hne, ih h]
      rfl
theorem mput_set {m : List (κ × ν)} {k : κ} {v v0 : ν} {j : Nat} (hu : Uq m) (h : m[j]? = some (k, v0)) : mput m k v = m.set j (k, v) := by
  induction m generalizing j with
  | nil => simp at h
  | cons p m ih =>
    have hu' := List.nodup_cons.1 hu
    cases j with
    | zero =>
      simp only [List.getElem?_cons_zero, Option.some.injEq] at h
      subst h
      simp [mput]
    | succ j =>
      simp only [List.getElem?_cons_succ] at h
      have hne : p.1 ≠ k := fun e => hu'.1 (List.mem_map.2 ⟨(k, v0), List.mem_of_getElem? h, e.symm⟩)
      unfold mput
      rw [if_neg hne, ih hu'.2 h]
      rfl
theorem mget_mem {m : List (κ × ν)} {k : κ} {v : ν} (hu : Uq m) : mget m k = some v ↔ (k, v) ∈ m := by
  induction m with
  | nil => simp [mget]
  | cons p m ih =>
    have hu' := List.nodup_cons.1 hu
    unfold mget
    split
    · rename_i h
      subst h
      rw [Option.some.injEq, List.mem_cons]
      constructor
      · rintro rfl; exact .inl rfl
      · rintro (h | h)
        · exact (congrArg Prod.snd h).symm
        · exact absurd (List.mem_map.2 ⟨_, h, rfl⟩) hu'.1
    · rename_i h
      rw [ih hu'.2, List.mem_cons]
      constructor
      · exact .inr
      · rintro (h2 | h2)
        · exact absurd (congrArg Prod.fst h2).symm h
        · exact h2
theorem mput_len (m : List (κ × ν)) (k : κ) (v : ν) : (mput m k v).length = if (mget m k).isSome then m.length else m.length + 1 := by
  induction m with
  | nil => simp [mget, mput]
  | cons p m ih =>
    unfold mput mget
    split
    · simp
    · rw [List.length_cons, ih, List.length_cons]
      split <;> rfl
theorem mput_mem {m : List (κ × ν)} {k : κ} {v : ν} {p : κ × ν} (h : p ∈ mput m k v) : p = (k, v) ∨ p ∈ m := by
  induction m with
  | nil => simp [mput] at h; exact .inl h
  | cons q m ih =>
    unfold mput at h
    split at h
    · rcases List.mem_cons.1 h with h | h
      · exact .inl h
      · exact .inr (List.mem_cons_of_mem _ h)
    · rcases List.mem_cons.1 h with h | h
      · exact .inr (by rw [h]; exact List.mem_cons_self)
      · rcases ih h with h | h
        · exact .inl h
        · exact .inr (List.mem_cons_of_mem _ h)
theorem mput_keys (m : List (κ × ν)) (k : κ) (v : ν) : (mput m k v).map (·.1) = if (mget m k).isSome then m.map (·.1) else m.map (·.1) ++ [k] := by
  induction m with
  | nil => simp [mget, mput]
  | cons p m ih =>
    unfold mput mget
    split
    · rename_i h; simp [h]
    · rw [List.map_cons, ih, List.map_cons]
      split <;> rfl
theorem Uq.put {m : List (κ × ν)} (h : Uq m) (k : κ) (v : ν) : Uq (mput m k v) := by
  unfold Uq at *
  rw [mput_keys]
  split
  · exact h
  · rename_i hn
    have : mget m k = none := by simpa using hn
    rw [List.nodup_append]
    refine ⟨h, by simp, fun a ha b hb => ?_⟩
    obtain ⟨p, hp, rfl⟩ := List.mem_map.1 ha
    simp only [List.mem_cons, List.not_mem_nil, or_false] at hb
    subst hb
    exact mget_none.1 this p hp
end
/-! ## in the world -/
structure KeyF {κ : Type} (P : Program) (k : TypeId) (fk : κ → Value) (ok : κ → Prop) : Prop where
  keyed : Keyed P k
  key : ∀ x, ok x → ∃ l, keyOf P k (fk x) = some l
  inj : ∀ x y, ok x → ok y → fk x = fk y → x = y
def okS (s : List UInt8) : Prop := s.length ≤ maxLen
theorem keyF_s {P : Program} {k : TypeId} (h : P.underlying k = some .string) : KeyF P k vs okS where
  keyed := Go.Maps.string_keyed h
  key x hx := ⟨_, Go.WideMaps.keyOf_string_mk h (s := ⟨⟨x⟩⟩) hx⟩
  inj x y _ _ h := by unfold vs at h; injection h with h; injection h with h; injection h
def MapB {κ ν : Type} (fk : κ → Value) (ok : κ → Prop) (fv : ν → Value) (w : World) (b : Nat) (m : List (κ × ν)) : Prop :=
  ∃ es clock, w.heap[b]? = some (.map es clock) ∧ Stamped es clock ∧ es.size ≤ maxLen ∧ (∀ p ∈ m, ok p.1) ∧ es.toList.map (fun e => (e.key, e.val)) = m.map fun p => (fk p.1, fv p.2)
section
variable {κ ν : Type} {P : Program} {k e t : TypeId} {fk : κ → Value} {ok : κ → Prop} {fv : ν → Value} {w w' : World} {b : Nat} {m : List (κ × ν)} {row : Option Nat}
theorem MapB.lt (h : MapB fk ok fv w b m) : b < w.heap.size := by
  obtain ⟨es, clock, hb, _⟩ := h
  exact (Array.getElem?_eq_some_iff.1 hb).1
theorem MapB.lt' (h : MapB fk ok fv w b m) : Lt (some b) w.heap.size := Lt.box h.lt
theorem MapB.go (h : MapB fk ok fv w b m) (hg : w.grownBy w' row) (hd : Dj (some b) row) : MapB fk ok fv w' b m := by
  have hlt := h.lt
  obtain ⟨es, clock, hb, r⟩ := h
  exact ⟨es, clock, (hg.block b hlt (fun e => hd b rfl e.symm)).trans hb, r⟩
theorem MapB.g0 (h : MapB fk ok fv w b m) (hg : w.grownBy w' none) : MapB fk ok fv w' b m := h.go hg Dj.nr
theorem MapB.eqv (hw : Eqv w w') (h : MapB fk ok fv w b m) : MapB fk ok fv w' b m := h.g0 (gr_eqv (gr_refl w none) hw)
theorem MapB.len (h : MapB fk ok fv w b m) : m.length ≤ maxLen := by
  obtain ⟨es, clock, _, _, hs, _, he⟩ := h
  have := congrArg List.length he
  simp at this
  omega
theorem MapB.uq (h : MapB fk ok fv w b m) : Uq m := by
  obtain ⟨es, clock, _, hst, _, _, he⟩ := h
  have h1 : es.toList.map (·.key) = (m.map (·.1)).map fk := by
    have := congrArg (List.map Prod.fst) he
    simpa [Function.comp_def] using this
  have h2 := hst.2.2
  rw [h1] at h2
  unfold Uq
  rw [List.nodup_iff_pairwise_ne, List.pairwise_map] at h2
  rw [List.nodup_iff_pairwise_ne]
  exact h2.imp fun h e => h (by rw [e])
variable [DecidableEq κ]
theorem MapB.find {es : Array MapEntry} (K : KeyF P k fk ok) (hst : Uq m) (hok : ∀ p ∈ m, ok p.1) (he : es.toList.map (fun e => (e.key, e.val)) = m.map fun p => (fk p.1, fv p.2)) {q : κ} (hq : ok q) (w : World) :
    ((Instr.findKey k (fk q) es.toList).run P w = .ok none w ∧ mget m q = none ∧ ∀ x ∈ es.toList, x.key ≠ fk q) ∨ ∃ j v e0, (Instr.findKey k (fk q) es.toList).run P w = .ok (some (j, fv v)) w ∧ mget m q = some v ∧ m[j]? = some (q, v) ∧ es.toList[j]? = some e0 ∧ e0.key = fk q := by
  obtain ⟨l, hl⟩ := K.key q hq
  have hget : ∀ (j : Nat), (es.toList[j]?).map (fun e => (e.key, e.val)) = (m[j]?).map fun p => (fk p.1, fv p.2) := fun j => by
    have := congrArg (fun l => l[j]?) he
    simpa using this
  rcases K.keyed.find w hl es.toList (fun e he' => by
    obtain ⟨j, hj, rfl⟩ := List.getElem_of_mem he'
    have h1 := hget j
    rw [List.getElem?_eq_getElem hj] at h1
    simp only [Option.map_some] at h1
    obtain ⟨p, hp, hpe⟩ := Option.map_eq_some_iff.1 h1.symm
    obtain ⟨l', hl'⟩ := K.key p.1 (hok p (List.mem_of_getElem? hp))
    have h5 : fk p.1 = es.toList[j].key := congrArg Prod.fst hpe
    exact ⟨l', by rw [← h5]; exact hl'⟩) with ⟨h1, h2⟩ | ⟨j, e0, h1, h2, h3⟩
  · refine .inl ⟨h1, mget_none.2 fun p hp hpq => ?_, h2⟩
    obtain ⟨j, hj, rfl⟩ := List.getElem_of_mem hp
    have h4 := hget j
    rw [List.getElem?_eq_getElem hj] at h4
    simp only [Option.map_some] at h4
    obtain ⟨x, hx, hxe⟩ := Option.map_eq_some_iff.1 h4
    have h5 : x.key = fk m[j].1 := congrArg Prod.fst hxe
    exact h2 x (List.mem_of_getElem? hx) (by rw [h5, hpq])
  · have h4 := hget j
    rw [h2] at h4
    simp only [Option.map_some] at h4
    obtain ⟨p, hp, hpe⟩ := Option.map_eq_some_iff.1 h4.symm
    have hpq : p.1 = q := K.inj _ _ (hok p (List.mem_of_getElem? hp)) hq ((congrArg Prod.fst hpe).trans h3)
    have hpv : fv p.2 = e0.val := congrArg Prod.snd hpe
    refine .inr ⟨j, p.2, e0, by rw [hpv]; exact h1, (mget_mem hst).2 (by rw [← hpq]; exact List.mem_of_getElem? hp), by rw [hp, ← hpq], h2, h3⟩
theorem MapB.run_look (K : KeyF P k fk ok) (h : MapB fk ok fv w b m) (ht : P.underlying t = some (.map k e)) {z : ν} (hz : (zeroValue e).run P w = .ok (fv z) w) {q : κ} (hq : ok q) (c : Bool) :
    (Instr.lookup t (.map (some b)) (fk q) c).run P w = .ok (if c then .tuple #[fv ((mget m q).getD z), .bool (mget m q).isSome] else fv ((mget m q).getD z)) w := by
  have hu := h.uq
  obtain ⟨es, clock, hb, hst, hs, hok, he⟩ := h
  obtain ⟨l, hl⟩ := K.key q hq
  rcases MapB.find K hu hok he hq w with ⟨h1, h2, _⟩ | ⟨j, v, e0, h1, h2, _⟩
  · cases c <;> simp [Instr.lookup, run_underlying ht, MapKept.run_getObj_map hb, K.keyed.check w _ hl, h1, h2, hz, Result.andThen]
  · cases c <;> simp [Instr.lookup, run_underlying ht, MapKept.run_getObj_map hb, K.keyed.check w _ hl, h1, h2, Result.andThen]
theorem MapB.run_put (K : KeyF P k fk ok) (h : MapB fk ok fv w b m) (ht : P.underlying t = some (.map k e)) (hn : m.length < maxLen) {q : κ} (hq : ok q) (v : ν) :
    ∃ w', (Instr.mapUpdate t (.map (some b)) (fk q) (fv v)).run P w = .ok () w' ∧ MapB fk ok fv w' b (mput m q v) ∧ w.grownBy w' (some b) := by
  have hu := h.uq
  obtain ⟨es, clock, hb, hst, hs, hok, he⟩ := h
  obtain ⟨l, hl⟩ := K.key q hq
  have hlen : es.size = m.length := by have := congrArg List.length he; simpa using this
  have hok' : ∀ p ∈ mput m q v, ok p.1 := fun p hp => by
    rcases mput_mem hp with rfl | hp
    · exact hq
    · exact hok p hp
  have hgr : ∀ o, w.grownBy (setBlock w b o) (some b) := fun o => ⟨rfl, rfl, rfl, by simp [setBlock], fun i _ hi => heap_setBlock_other hb _ (fun e => hi (by rw [e]))⟩
  rcases MapB.find K hu hok he hq w with ⟨h1, h2, h3⟩ | ⟨j, v0, e0, h1, h2, h3, h4, h5⟩
  · refine ⟨setBlock w b (.map (es.push ⟨fk q, fv v, clock⟩) (clock + 1)), ?_, ⟨es.push ⟨fk q, fv v, clock⟩, clock + 1, heap_setBlock_same hb _, stamped_push hst h3, by simp; omega, hok', ?_⟩, hgr _⟩
    · simp [Instr.mapUpdate, run_underlying ht, MapKept.run_getObj_map hb, K.keyed.check w false hl, h1, MapKept.run_setObj_map _ hb, Result.andThen, setBlock]
    · rw [mput_new h2, Array.toList_push, List.map_append, List.map_append, he]
      rfl
  · have hj : es[j]? = some e0 := by simpa using h4
    have hkeyf : ∀ e', es[j]? = some e' → ({ e' with key := fk q, val := fv v } : MapEntry).key = e'.key := fun e' he' => by rw [hj] at he'; cases he'; exact h5.symm
    have hlist : (es.modify j (fun e' => { e' with key := fk q, val := fv v })).toList = es.toList.set j { e0 with key := fk q, val := fv v } := by rw [Array.toList_modify, modify_eq_set _ _ _ _ h4]
    refine ⟨setBlock w b (.map (es.modify j (fun e' => { e' with key := fk q, val := fv v })) clock), ?_, ⟨es.modify j (fun e' => { e' with key := fk q, val := fv v }), clock, heap_setBlock_same hb _, stamped_modify hst _ _ (fun _ _ => rfl) (fun e' _ he' => hkeyf e' he'), by simpa using hs, hok', ?_⟩, hgr _⟩
    · simp [Instr.mapUpdate, run_underlying ht, MapKept.run_getObj_map hb, K.keyed.check w false hl, h1, hj, h5, K.keyed.stays w hl, MapKept.run_setObj_map _ hb, Result.andThen, setBlock]
    · rw [hlist, mput_set hu h3, List.map_set, List.map_set, he]
 omit [DecidableEq κ] in
theorem MapB.made (w : World) (fk : κ → Value) (ok : κ → Prop) (fv : ν → Value) : MapB fk ok fv (w.alloc (.map #[] 0)) w.heap.size ([] : List (κ × ν)) :=
  ⟨#[], 0, (MapKept.heap_alloc w _).1, stamped_empty 0, by simp, by simp, rfl⟩
variable {N : Nat} {L : Slots} {ty : TypeId} {pos : String} {af : Array Edge} {dd : Option Tmp} {x y u : Operand}
theorem Yld.look (hK : KeyF P k fk ok) (ht : P.underlying t = some (.map k e)) {z : ν} (hz : ∀ w, (zeroValue e).run P w = .ok (fv z) w) (hm : MapB fk ok fv w b m) (hx : opv L x = some (.map (some b))) {q : κ} (hy : opv L y = some (fk q)) (hq : ok q) :
    Yld P N w ⟨dd, .lookup t x y false, ty, pos, af, none⟩ L (fv ((mget m q).getD z)) := fun a w1 hw ha => by
  unfold execOp
  simp [ha.ev hx, ha.ev hy, (MapB.eqv hw hm).run_look hK ht (hz w1) hq false]
theorem Yld.lookOk (hK : KeyF P k fk ok) (ht : P.underlying t = some (.map k e)) {z : ν} (hz : ∀ w, (zeroValue e).run P w = .ok (fv z) w) (hm : MapB fk ok fv w b m) (hx : opv L x = some (.map (some b))) {q : κ} (hy : opv L y = some (fk q)) (hq : ok q) :
    Yld P N w ⟨dd, .lookup t x y true, ty, pos, af, none⟩ L (.tuple #[fv ((mget m q).getD z), .bool (mget m q).isSome]) := fun a w1 hw ha => by
  unfold execOp
  simp [ha.ev hx, ha.ev hy, (MapB.eqv hw hm).run_look hK ht (hz w1) hq true]
 omit [DecidableEq κ] in
theorem Eff.makeMap (fk : κ → Value) (ok : κ → Prop) (fv : ν → Value) : Eff P N w ⟨dd, .makeMap t none, ty, pos, af, none⟩ L fun v w' => v = .map (some w.heap.size) ∧ MapB fk ok fv w' w.heap.size ([] : List (κ × ν)) ∧ w.grownBy w' none := fun a w1 hw ha => by
  refine ⟨_, w1.alloc (.map #[] 0), ?_, rfl, ?_, eqv_gr hw (gr_alloc w1 _ none)⟩
  · unfold execOp
    simp [run_makeMap]
    rw [hw.heap]
  · have := MapB.made w1 fk ok fv
    rwa [hw.heap] at this
theorem Ef0.mapPut (hK : KeyF P k fk ok) (ht : P.underlying t = some (.map k e)) (hm : MapB fk ok fv w b m) (hn : m.length < maxLen) (hx : opv L x = some (.map (some b))) {q : κ} (hy : opv L y = some (fk q)) (hq : ok q) {v : ν} (hu : opv L u = some (fv v)) :
    Ef0 P N w ⟨none, .mapUpdate t x y u, ty, pos, af, none⟩ L fun w' => MapB fk ok fv w' b (mput m q v) ∧ w.grownBy w' (some b) := fun a w1 hw ha => by
  obtain ⟨w', h1, h2, h3⟩ := (MapB.eqv hw hm).run_put hK ht hn hq v
  refine ⟨w', ?_, h2, eqv_gr hw h3⟩
  unfold execOp
  simp [ha.ev hx, ha.ev hy, ha.ev hu, h1]
 omit [DecidableEq κ] in
theorem Yld.maplen (ht : P.underlying t = some (.map k e)) (hm : MapB fk ok fv w b m) (hx : opv L x = some (.map (some b))) :
    Yld P N w ⟨dd, .call ⟨.builtin .len, ⟨[x]⟩, ⟨[t]⟩⟩, ty, pos, af, none⟩ L (.int .i64 (m.length : Int)) := fun a w1 hw ha => by
  obtain ⟨es, clock, hb, hst, hs, hok, he⟩ := MapB.eqv hw hm
  have hlen : es.size = m.length := by have := congrArg List.length he; simpa using this
  unfold execOp
  simp [ha.ev hx, resolve, invoke, builtin, Builtin.len_, run_underlying ht, MapKept.run_getObj_map hb, goInt, Result.andThen, hlen]
theorem WL.ef0 {ops : Array Oper} {Q : Post} {rest : List Oper} {op : Op} {R : World → Prop} (hr : Ef0 P N w ⟨none, op, ty, pos, af, none⟩ L R) (hk : ∀ w', R w' → WL P N ops Q rest L w') : WL P N ops Q (⟨none, op, ty, pos, af, none⟩ :: rest) L w := WL.eff hr hk
end
end Go.Proofs.YtlonpmajnglmoaaDoor

 /- Changes within blocks that are named: what calls do to what they are handed. -/
namespace Go.Proofs.YtlonpmajnglmoaaDoor
open Go Go.RowKit
structure GrL (ps : List (Option Nat)) (w w' : World) : Prop where
  os : w'.os = w.os
  tape : w'.tape = w.tape
  output : w'.output = w.output
  size : w.heap.size ≤ w'.heap.size
  block : ∀ i, i < w.heap.size → (∀ p, List.Mem p ps → p ≠ some i) → w'.heap[i]? = w.heap[i]?
def AllP (Q : Option Nat → Prop) (ps : List (Option Nat)) : Prop := ∀ p, List.Mem p ps → Q p
theorem apN {Q : Option Nat → Prop} : AllP Q [] := fun _ h => by cases h
theorem apC {Q : Option Nat → Prop} {p : Option Nat} {ps : List (Option Nat)} (h : Q p) (t : AllP Q ps) : AllP Q (p :: ps) := fun x hx => by
  cases hx with
  | head => exact h
  | tail _ hx => exact t x hx
def InP (ps : List (Option Nat)) (n : Nat) (p : Option Nat) : Prop := ∀ g, p = some g → n ≤ g ∨ List.Mem (some g) ps
section
variable {ps qs : List (Option Nat)} {p p' q row : Option Nat} {n m : Nat} {a b c w w' : World}
theorem InP.ge (h : Ge p n) : InP ps n p := fun g hg => .inl (h g hg)
theorem InP.mem (h : List.Mem p ps) : InP ps n p := fun _ hg => .inr (hg ▸ h)
theorem InP.none : InP ps n none := fun _ h => by cases h
theorem InP.app (h : InP ps n p) (k : ∀ g, p' = some g → p = some g ∨ m ≤ g) (hm : n ≤ m) : InP ps n p' := fun g hg => by
  rcases k g hg with h1 | h1
  · exact h g h1
  · exact .inl (Nat.le_trans hm h1)
theorem InP.trans (h : InP qs m p) (k : AllP (InP ps n) qs) (hm : n ≤ m) : InP ps n p := fun g hg => by
  rcases h g hg with h1 | h1
  · exact .inl (Nat.le_trans hm h1)
  · exact k _ h1 g rfl
theorem InP.toGe (h : InP qs m p) (k : AllP (fun q => Ge q n) qs) (hm : n ≤ m) : Ge p n := fun g hg => by
  rcases h g hg with h1 | h1
  · exact Nat.le_trans hm h1
  · exact k _ h1 g rfl
theorem InP.dj (h : InP qs m p) (hq : Lt q m) (k : AllP (Dj q) qs) : Dj p q := fun g hg hqg => by
  rcases h g hg with h1 | h1
  · have := hq g hqg; omega
  · exact k _ h1 g hqg rfl
theorem InP.dn {α : Type} {xs : List α} (h : InP qs m p) (hq : xs ≠ [] → Lt q m) (k : AllP (Dn xs q) qs) : Dn xs q p := fun hx g hqg hg => by
  rcases h g hg with h1 | h1
  · have := hq hx g hqg; omega
  · exact k _ h1 hx g hqg rfl
theorem GrL.refl (w : World) : GrL ps w w := ⟨rfl, rfl, rfl, Nat.le_refl _, fun _ _ _ => rfl⟩
theorem GrL.of0 (h : w.grownBy w' none) : GrL ps w w' := ⟨h.os, h.tape, h.output, h.size, fun i hi _ => h.block i hi (by simp)⟩
theorem GrL.of1 (h : w.grownBy w' row) : GrL [row] w w' := ⟨h.os, h.tape, h.output, h.size, fun i hi k => h.block i hi fun e => k row (List.Mem.head _) e.symm⟩
theorem GrL.toL (h : GrL [] w w') : w.grownBy w' none := ⟨h.os, h.tape, h.output, h.size, fun i hi _ => h.block i hi fun _ hp => by cases hp⟩
theorem GrL.trans (h : GrL ps a b) (k : GrL ps b c) : GrL ps a c :=
  ⟨k.os.trans h.os, k.tape.trans h.tape, k.output.trans h.output, Nat.le_trans h.size k.size, fun i hi hp => (k.block i (Nat.lt_of_lt_of_le hi h.size) hp).trans (h.block i hi hp)⟩
theorem GrL.modL (h : GrL ps a b) (k : GrL qs b c) (hi : AllP (InP ps a.heap.size) qs) : GrL ps a c :=
  ⟨k.os.trans h.os, k.tape.trans h.tape, k.output.trans h.output, Nat.le_trans h.size k.size, fun i hl hp => (k.block i (Nat.lt_of_lt_of_le hl h.size) fun q hq e => by
    rcases hi q hq i e with h1 | h1
    · omega
    · exact hp _ h1 rfl).trans (h.block i hl hp)⟩
theorem GrL.mod (h : GrL ps a b) (k : b.grownBy c row) (hi : InP ps a.heap.size row) : GrL ps a c := h.modL (GrL.of1 k) (apC hi apN)
theorem GrL.add0 (h : GrL ps a b) (k : b.grownBy c none) : GrL ps a c := h.trans (GrL.of0 k)
theorem gr_modL (h : a.grownBy b none) (k : GrL qs b c) (hi : AllP (fun q => Ge q a.heap.size) qs) : a.grownBy c none :=
  (GrL.modL (ps := []) (GrL.of0 h) k fun q hq => InP.ge (hi q hq)).toL
theorem GrL.eqv (h : GrL ps a b) (k : Eqv b c) : GrL ps a c := h.add0 (gr_eqv (gr_refl b none) k)
theorem GrL.sizeL (h : GrL ps a b) : a.heap.size ≤ b.heap.size := h.size
/-- one block's row, as_ 'grownBy' says it -/
theorem GrL.cell (h : GrL ps w w') {ad : Addr} {v : Value} (hc : w.cell? ad = some v) (hp : ∀ p, List.Mem p ps → p ≠ some ad.block) : w'.cell? ad = some v := by
  have hlt := World.block_lt_of_cell? w _ hc
  have := h.block ad.block hlt hp
  unfold World.cell? at hc ⊢
  rw [this]; exact hc
variable {α : Type} {f : α → Value} {A : Option Addr} {B cc g k : Nat} {xs : List α} {e : TypeId} {us : List Value} {fk : α → List Value}
theorem Bl.goL (h : Bl w g e us) (hg : GrL ps w w') (hd : AllP (Dj (some g)) ps) : Bl w' g e us := (hg.block g h.lt fun p hp e => hd p hp g rfl e).trans h
theorem Rd.goL (h : Rd f w A cc xs) (hg : GrL ps w w') (hd : AllP (Dn xs (blk A)) ps) : Rd f w' A cc xs :=
  ⟨h.cap, h.max, fun hx => by
    obtain ⟨ad, rfl, hc⟩ := h.cells hx
    refine ⟨ad, rfl, fun j x hj => hg.cell (hc j x hj) fun p hp e => ?_⟩
    rw [addr_block] at e
    exact hd p hp hx ad.block rfl e⟩
theorem RdK.goL (h : RdK k fk w A cc xs) (hg : GrL ps w w') (hd : AllP (Dn xs (blk A)) ps) : RdK k fk w' A cc xs :=
  ⟨h.ok, h.cap, h.max, fun hx => by
    obtain ⟨g', o, rfl, hc⟩ := h.cells hx
    refine ⟨g', o, rfl, fun j x i u hj hi => hg.cell (hc j x i u hj hi) fun p hp e => ?_⟩
    exact hd p hp hx g' rfl e⟩
theorem Own.goL (h : Own f w B e A cc xs) (hg : GrL ps w w') (hd : AllP (Dj (blk A)) ps) : Own f w' B e A cc xs := by
  have hlt := h.lt'
  unfold Own at h ⊢
  refine ⟨h.1, ?_⟩
  rcases h.2 with h2 | ⟨g, cap, cur, hv, hb, hg', r⟩
  · exact .inl h2
  · refine .inr ⟨g, cap, cur, hv, hb, ?_, r⟩
    simp only [Value.slice.injEq] at hv
    obtain ⟨rfl, _⟩ := hv
    exact (hg.block g (hlt g rfl) fun p hp e => hd p hp g rfl e).trans hg'
theorem OwnK.goL (h : OwnK k fk w B e A cc xs) (hg : GrL ps w w') (hd : AllP (Dj (blk A)) ps) : OwnK k fk w' B e A cc xs := by
  have hlt := h.lt'
  refine ⟨h.1, h.2.1, ?_⟩
  rcases h.2.2 with h2 | ⟨g, cap, cur, hv, hb, hg', r⟩
  · exact .inl h2
  · refine .inr ⟨g, cap, cur, hv, hb, ?_, r⟩
    simp only [Value.slice.injEq] at hv
    obtain ⟨rfl, _⟩ := hv
    exact (hg.block g (hlt g rfl) fun p hp e => hd p hp g rfl e).trans hg'
theorem MapB.goL {κ ν : Type} {mk : κ → Value} {ok : κ → Prop} {fv : ν → Value} {mm : List (κ × ν)} (h : MapB mk ok fv w g mm) (hg : GrL ps w w') (hd : AllP (Dj (some g)) ps) : MapB mk ok fv w' g mm := by
  have hlt := h.lt
  obtain ⟨es, clock, hb, r⟩ := h
  exact ⟨es, clock, (hg.block g hlt (fun p hp e => hd p hp g rfl e)).trans hb, r⟩
variable {S : List Nat}
/-- the variables hold what they were laid with; they all lie below B -/
def GB (S : List Nat) (B : Nat) (w : World) : Prop := ∃ W, GOK S W ∧ W.heap.size ≤ B ∧ Below W.heap.size W w
theorem GB.ok (h : GB S B w) : GOK S w := by
  obtain ⟨W, h1, _, h3⟩ := h
  exact h1.grown (gr_below h3 none)
theorem belowL {W : World} {n : Nat} (h3 : Below n W w) (hn : n ≤ B) (hg : GrL ps w w') (hp : AllP (fun p => Ge p B) ps) (hW : n ≤ W.heap.size) : Below n W w' := by
  refine ⟨hg.os.trans h3.os, hg.tape.trans h3.tape, hg.output.trans h3.output, Nat.le_trans h3.size hg.size, fun i hi => ?_⟩
  refine (hg.block i (Nat.lt_of_lt_of_le (Nat.lt_of_lt_of_le hi hW) h3.size) fun p hm e => ?_).trans (h3.block i hi)
  have := hp p hm i e
  omega
theorem GB.goL (h : GB S B w) (hg : GrL ps w w') (hp : AllP (fun p => Ge p B) ps) : GB S B w' := by
  obtain ⟨W, h1, h2, h3⟩ := h
  exact ⟨W, h1, h2, belowL h3 h2 hg hp (Nat.le_refl _)⟩
theorem GB.g0 (h : GB S B w) (hg : w.grownBy w' none) : GB S B w' := h.goL (ps := []) (GrL.of0 hg) apN
theorem GB.mono {B' : Nat} (h : GB S B w) (hB : B ≤ B') : GB S B' w := by
  obtain ⟨W, h1, h2, h3⟩ := h
  exact ⟨W, h1, Nat.le_trans h2 hB, h3⟩
theorem GB.grown {W : World} (h : GOK S W) (hg : W.grownBy w none) : GB S W.heap.size w := ⟨W, h, Nat.le_refl _, below_gr hg⟩
/-- no error with a place lies there -/
def NoAt (w : World) (p : Option Nat) : Prop := ∀ g us, p = some g → ¬ Bl w g 165 us
theorem NoAt.bl (h : Bl w g e us) (ht : Nat.beq e 165 = false) : NoAt w (some g) := fun g' us' hg' hB => by
  cases hg'
  exact Bl.ne h hB (Nat.ne_of_beq_eq_false ht) rfl
theorem NoAt.own (h : Own f w B e A cc xs) (ht : Nat.beq e 165 = false) : NoAt w (blk A) := fun g' us' hg' hB => by
  rcases h.2 with ⟨hv, _⟩ | ⟨g, cap, cur, hv, _, hb, _⟩
  · simp only [Value.slice.injEq] at hv
    obtain ⟨rfl, _⟩ := hv
    cases hg'
  · simp only [Value.slice.injEq] at hv
    obtain ⟨rfl, _⟩ := hv
    cases hg'
    exact Bl.ne (us := cur.toList) hb hB (Nat.ne_of_beq_eq_false ht) rfl
theorem NoAt.ownK (h : OwnK k fk w B e A cc xs) (ht : Nat.beq e 165 = false) : NoAt w (blk A) := fun g' us' hg' hB => by
  rcases h.2.2 with ⟨hv, _⟩ | ⟨g, cap, cur, hv, _, hb, _⟩
  · simp only [Value.slice.injEq] at hv
    obtain ⟨rfl, _⟩ := hv
    cases hg'
  · simp only [Value.slice.injEq] at hv
    obtain ⟨rfl, _⟩ := hv
    cases hg'
    exact Bl.ne (us := cur.toList) hb hB (Nat.ne_of_beq_eq_false ht) rfl
theorem NoAt.map {κ ν : Type} {mk : κ → Value} {ok : κ → Prop} {fv : ν → Value} {mm : List (κ × ν)} (h : MapB mk ok fv w g mm) : NoAt w (some g) := fun g' us' hg' hB => by
  cases hg'
  obtain ⟨es, clock, hb, _⟩ := h
  unfold Bl at hB
  rw [hb] at hB
  cases hB
theorem ErrR.goB {v : Value} {er : Er} (h : ErrR S w v er) (hG : GB S B w) (hg : GrL ps w w') (hp : AllP (fun p => Ge p B) ps) (hn : AllP (NoAt w) ps) : ErrR S w' v er := by
  have key : ∀ {v : Value} {n : Nat}, ErV w v n → n ∈ S → ErV w' v n := fun {v n} hv hS => by
    obtain ⟨W, h1, h2, h3⟩ := hG
    obtain ⟨u, hu⟩ := h1.er n hS hv.lt
    rw [ErV.uniq hv (hu.grown (gr_below h3 none))]
    exact hu.grown (gr_below (belowL h3 h2 hg hp (Nat.le_refl _)) none)
  cases er with
  | ok => exact h
  | e n => exact ⟨key h.1 h.2, h.2⟩
  | at_ pos n =>
    obtain ⟨b, u, k1, k2, k3, k4⟩ := h
    exact ⟨b, u, k1, k2.goL hg fun p hm g' hg' hpe => by cases hg'; exact hn p hm _ _ hpe k2, key k3 k4, k4⟩
end
end Go.Proofs.YtlonpmajnglmoaaDoor

 /- Pools: maps from texts to pointers at boxes that lie apart; one of them may be open. -/
namespace Go.Proofs.YtlonpmajnglmoaaDoor
open Go Go.RowKit
section
variable {κ ν μ : Type} [DecidableEq κ]
def mmap (g : ν → μ) (m : List (κ × ν)) : List (κ × μ) := m.map fun p => (p.1, g p.2)
theorem mget_mmap (g : ν → μ) (k : κ) : ∀ m : List (κ × ν), mget (mmap g m) k = (mget m k).map g
  | [] => rfl
  | p :: m => by
    show (if p.1 = k then some (g p.2) else mget (mmap g m) k) = (if p.1 = k then some p.2 else mget m k).map g
    split
    · rfl
    · exact mget_mmap g k m
theorem mput_mmap (g : ν → μ) (k : κ) (v : ν) : ∀ m : List (κ × ν), mput (mmap g m) k (g v) = mmap g (mput m k v)
  | [] => rfl
  | p :: m => by
    show (if p.1 = k then (k, g v) :: mmap g m else (p.1, g p.2) :: mput (mmap g m) k (g v)) = mmap g (if p.1 = k then (k, v) :: m else p :: mput m k v)
    split
    · rfl
    · rw [mput_mmap g k v m]; rfl
theorem mget_keys : ∀ {a : List (κ × ν)} {b : List (κ × μ)}, a.map (·.1) = b.map (·.1) → ∀ k, (mget a k).isSome = (mget b k).isSome
  | [], [], _, _ => rfl
  | [], _ :: _, h, _ => by simp at h
  | _ :: _, [], h, _ => by simp at h
  | p :: a, r :: b, h, k => by
    simp only [List.map_cons, List.cons.injEq] at h
    unfold mget
    rw [h.1]
    split
    · rfl
    · exact mget_keys h.2 k
theorem mput_same {g : ν → μ} {k : κ} {v u : ν} (hg : g v = g u) : ∀ {m : List (κ × ν)}, mget m k = some u → (mput m k v).map (fun p => (p.1, g p.2)) = m.map fun p => (p.1, g p.2)
  | [], h => by simp [mget] at h
  | p :: m, h => by
    unfold mget at h
    unfold mput
    split at h
    · rename_i e
      simp only [Option.some.injEq] at h
      rw [if_pos e, List.map_cons, List.map_cons, hg, ← h, e]
    · rename_i e
      rw [if_neg e, List.map_cons, List.map_cons, mput_same hg h]
theorem mget_same (m : List (κ × ν)) (k : κ) (v : ν) : mget (mput m k v) k = some v := by rw [mget_mput, if_pos rfl]
end
def Lp9 {A0 A1 A2 A3 A4 A5 A6 A7 A8 : Type} (b : A0 → A1 → A2 → A3 → A4 → A5 → A6 → A7 → A8 → (A0 → A1 → A2 → A3 → A4 → A5 → A6 → A7 → A8 → Prop) → Prop) (x0 : A0) (x1 : A1) (x2 : A2) (x3 : A3) (x4 : A4) (x5 : A5) (x6 : A6) (x7 : A7) (x8 : A8) : Prop := ∃ (I : A0 → A1 → A2 → A3 → A4 → A5 → A6 → A7 → A8 → Prop) (mu : A0 → A1 → A2 → A3 → A4 → A5 → A6 → A7 → A8 → Nat), I x0 x1 x2 x3 x4 x5 x6 x7 x8 ∧ ∀ x0 x1 x2 x3 x4 x5 x6 x7 x8, I x0 x1 x2 x3 x4 x5 x6 x7 x8 → b x0 x1 x2 x3 x4 x5 x6 x7 x8 fun y0 y1 y2 y3 y4 y5 y6 y7 y8 => I y0 y1 y2 y3 y4 y5 y6 y7 y8 ∧ mu y0 y1 y2 y3 y4 y5 y6 y7 y8 < mu x0 x1 x2 x3 x4 x5 x6 x7 x8
abbrev PH := Nat × Option Nat
def vP (o : Option PH) : Value := .pointer (o.map fun h => ⟨h.1, 0, none⟩)
def pq (hs : List (List UInt8 × PH)) (q : List UInt8) : Value := vP (mget hs q)
theorem pq_some {hs : List (List UInt8 × PH)} {q : List UInt8} {b : Nat} {r : Option Nat} (h : mget hs q = some (b, r)) : pq hs q = .pointer (some ⟨b, 0, none⟩) := by unfold pq; rw [h]; rfl
def pqo (hs : List (List UInt8 × PH)) (q : List UInt8) (o : Nat) : Value := .pointer ((mget hs q).map fun h => ⟨h.1, o, none⟩)
theorem pqo_some {hs : List (List UInt8 × PH)} {q : List UInt8} {b o : Nat} {r : Option Nat} (h : mget hs q = some (b, r)) : pqo hs q o = .pointer (some ⟨b, o, none⟩) := by unfold pqo; rw [h]; rfl
theorem isSome_of {α : Type} {o : Option α} (h : o.isNone = false) : o.isSome = true := by
  cases o with
  | none => cases h
  | some x => rfl
theorem getD_some {α : Type} {o : Option α} {z : α} (h : o.isSome = true) : o = some (o.getD z) := by
  cases o with
  | none => cases h
  | some x => rfl
section
variable {ps : List (Option Nat)} {Q : Option Nat → Prop} {n m : Nat} {F qs : List (Option Nat)} {q row : Option Nat} {w : World}
theorem apH {p : Option Nat} (h : AllP Q (p :: ps)) : Q p := h _ (List.Mem.head _)
theorem apNl : AllP (Dj none) ps := fun _ _ => Dj.nl
theorem InA.mem (h : ∀ p, List.Mem p F → List.Mem p ps) : AllP (InP ps n) F := fun p hp => InP.mem (h p hp)
theorem InA.ge (h : AllP (fun p => Ge p n) F) : AllP (InP ps n) F := fun p hp => InP.ge (h p hp)
theorem InA.trans (h : AllP (InP qs m) F) (k : AllP (InP ps n) qs) (hm : n ≤ m) : AllP (InP ps n) F := fun p hp => (h p hp).trans k hm
theorem InA.toGe (h : AllP (InP qs m) F) (k : AllP (fun q => Ge q n) qs) (hm : n ≤ m) : AllP (fun q => Ge q n) F := fun p hp => (h p hp).toGe k hm
theorem InA.dj (h : AllP (InP qs m) F) (hq : Lt q m) (k : AllP (Dj q) qs) : AllP (Dj q) F := fun p hp => ((h p hp).dj hq k).symm
theorem InA.dn {α : Type} {xs : List α} (h : AllP (InP qs m) F) (hq : xs ≠ [] → Lt q m) (k : AllP (Dn xs q) qs) : AllP (Dn xs q) F := fun p hp => (h p hp).dn hq k
end
/-- where a pool lies: its map, its boxes, what hangs on them; without the one that is open -/
def FP (m : Nat) (hs : List (List UInt8 × PH)) (q0 : Option (List UInt8)) : List (Option Nat) := some m :: (hs.filter fun h => decide (some h.1 ≠ q0)).flatMap fun h => [some h.2.1, h.2.2]
structure PE (X : Type) where
  rel : World → PH → X → Prop
  goL : ∀ {w w' : World} {h : PH} {x : X} {ps : List (Option Nat)}, rel w h x → GrL ps w w' → AllP (Dj (some h.1)) ps → AllP (Dj h.2) ps → rel w' h x
  lt : ∀ {w : World} {h : PH} {x : X}, rel w h x → Lt (some h.1) w.heap.size ∧ Lt h.2 w.heap.size
  isc : Nat → Bool
  sc : X → Nat → Value
  hsc : ∀ {w : World} {h : PH} {x : X} {o : Nat}, isc o = true → rel w h x → w.cell? ⟨h.1, o, none⟩ = some (sc x o)
  noat : ∀ {w : World} {h : PH} {x : X}, rel w h x → NoAt w (some h.1) ∧ NoAt w h.2
structure PoolO {X : Type} (d : PE X) (w : World) (m : Nat) (hs : List (List UInt8 × PH)) (fs : List (List UInt8 × X)) (q0 : Option (List UInt8)) : Prop where
  map : MapB vs okS vP w m (mmap some hs)
  keys : hs.map (·.1) = fs.map (·.1)
  rel : ∀ q h x, mget hs q = some h → mget fs q = some x → some q ≠ q0 → d.rel w h x
  dm : ∀ q h, mget hs q = some h → some q ≠ q0 → Dj (some m) (some h.1) ∧ Dj (some m) h.2
  dd : ∀ q q' h h', q ≠ q' → mget hs q = some h → mget hs q' = some h' → some q ≠ q0 → some q' ≠ q0 → Dj (some h.1) (some h'.1) ∧ Dj (some h.1) h'.2 ∧ Dj h.2 (some h'.1) ∧ Dj h.2 h'.2
section
variable {X : Type} {d : PE X} {w w' : World} {m : Nat} {hs : List (List UInt8 × PH)} {fs : List (List UInt8 × X)} {q0 : Option (List UInt8)} {Q : Option Nat → Prop} {ps : List (Option Nat)} {row p : Option Nat} {q : List UInt8} {x x' : X} {b : Nat} {r r' : Option Nat}
theorem PoolO.uq (h : PoolO d w m hs fs q0) : Uq hs := by
  have := h.map.uq
  unfold Uq mmap at *
  rw [List.map_map] at this
  exact this
theorem PoolO.some_iff (h : PoolO d w m hs fs q0) (q : List UInt8) : (mget hs q).isSome = (mget fs q).isSome := mget_keys h.keys q
theorem allFP (hu : Uq hs) : AllP Q (FP m hs q0) ↔ Q (some m) ∧ ∀ q h, mget hs q = some h → some q ≠ q0 → Q (some h.1) ∧ Q h.2 := by
  constructor
  · intro h
    refine ⟨h _ (List.Mem.head _), fun q k hk hq => ?_⟩
    have hm := (mget_mem hu).1 hk
    have hf : (q, k) ∈ hs.filter fun h => decide (some h.1 ≠ q0) := List.mem_filter.2 ⟨hm, by simpa using hq⟩
    exact ⟨h _ (List.Mem.tail _ (List.mem_flatMap.2 ⟨_, hf, by simp⟩)), h _ (List.Mem.tail _ (List.mem_flatMap.2 ⟨_, hf, by simp⟩))⟩
  · rintro ⟨h1, h2⟩ p hp
    cases hp with
    | head => exact h1
    | tail _ hp =>
      obtain ⟨k, hk, hp⟩ := List.mem_flatMap.1 hp
      obtain ⟨hm, hq⟩ := List.mem_filter.1 hk
      have h3 := h2 k.1 k.2 ((mget_mem hu).2 hm) (by simpa using hq)
      simp only [List.mem_cons, List.not_mem_nil, or_false] at hp
      rcases hp with rfl | rfl
      · exact h3.1
      · exact h3.2
theorem PoolO.goL (h : PoolO d w m hs fs q0) (hg : GrL ps w w') (hd : AllP (fun r => AllP (Dj r) (FP m hs q0)) ps) : PoolO d w' m hs fs q0 :=
  ⟨h.map.goL hg fun p hp => (((allFP h.uq).1 (hd p hp)).1).symm, h.keys, fun q k x hk hx hq => d.goL (h.rel q k x hk hx hq) hg (fun p hp => ((((allFP h.uq).1 (hd p hp)).2 q k hk hq).1).symm) (fun p hp => ((((allFP h.uq).1 (hd p hp)).2 q k hk hq).2).symm), h.dm, h.dd⟩
theorem PoolO.go (h : PoolO d w m hs fs q0) (hg : w.grownBy w' row) (hd : AllP (Dj row) (FP m hs q0)) : PoolO d w' m hs fs q0 := h.goL (GrL.of1 hg) (apC hd apN)
theorem PoolO.g0 (h : PoolO d w m hs fs q0) (hg : w.grownBy w' none) : PoolO d w' m hs fs q0 := h.goL (ps := []) (GrL.of0 hg) apN
theorem PoolO.eqv (hw : Eqv w w') (h : PoolO d w m hs fs q0) : PoolO d w' m hs fs q0 := h.g0 (gr_eqv (gr_refl w none) hw)
theorem PoolO.lts (h : PoolO d w m hs fs q0) (hf : (∀ q, (mget hs q).isSome = (mget fs q).isSome)) : AllP (fun p => Lt p w.heap.size) (FP m hs q0) := (allFP h.uq).2 ⟨h.map.lt', fun q k hk hq => by
  have h1 := hf q
  rw [hk, Option.isSome_some] at h1
  obtain ⟨x, hx⟩ := Option.isSome_iff_exists.1 h1.symm
  exact d.lt (h.rel q k x hk hx hq)⟩
theorem PoolO.lt' (h : PoolO d w m hs fs q0) : AllP (fun p => Lt p w.heap.size) (FP m hs q0) := h.lts h.some_iff
/-- what is new lies apart from it -/
theorem PoolO.new (h : PoolO d w m hs fs q0) (hp : Ge p w.heap.size) : AllP (Dj p) (FP m hs q0) := fun r hr => (Dj.new (h.lt' r hr) hp).symm
theorem PoolO.inp (h : PoolO d w m hs fs q0) (hp : InP ps w.heap.size p) (hd : AllP (fun r => AllP (Dj r) (FP m hs q0)) ps) : AllP (Dj p) (FP m hs q0) := fun r hr => InP.dj hp (h.lt' r hr) (fun s hs' => (hd s hs' r hr).symm)
theorem PoolO.app {p' : Option Nat} (h : PoolO d w m hs fs q0) (k : AllP (Dj p) (FP m hs q0)) (hk : ∀ g, p' = some g → p = some g ∨ w.heap.size ≤ g) : AllP (Dj p') (FP m hs q0) := fun r hr => Dj.app (k r hr) (h.lt' r hr) hk
/-- one is opened -/
theorem PoolO.open (h : PoolO d w m hs fs none) (hx : mget fs q = some x) : ∃ b r, mget hs q = some (b, r) ∧ d.rel w (b, r) x ∧ PoolO d w m hs fs (some q) ∧ AllP (Dj (some b)) (FP m hs (some q)) ∧ AllP (Dj r) (FP m hs (some q)) := by
  have h1 := h.some_iff q
  rw [hx, Option.isSome_some] at h1
  obtain ⟨⟨b, r⟩, hk⟩ := Option.isSome_iff_exists.1 h1
  have hm := h.dm q _ hk (by simp)
  refine ⟨b, r, hk, h.rel q _ x hk hx (by simp), ⟨h.map, h.keys, fun q' k y hk' hy _ => h.rel q' k y hk' hy (by simp), fun q' k hk' _ => h.dm q' k hk' (by simp), fun q' q2 k k2 hne hk' hk2 _ _ => h.dd q' q2 k k2 hne hk' hk2 (by simp) (by simp)⟩, ?_, ?_⟩
  · refine (allFP h.uq).2 ⟨hm.1.symm, fun q' k hk' hq' => ?_⟩
    have := h.dd q q' _ k (fun e => hq' (by rw [e])) hk hk' (by simp) (by simp)
    exact ⟨this.1, this.2.1⟩
  · refine (allFP h.uq).2 ⟨hm.2.symm, fun q' k hk' hq' => ?_⟩
    have := h.dd q q' _ k (fun e => hq' (by rw [e])) hk hk' (by simp) (by simp)
    exact ⟨this.2.2.1, this.2.2.2⟩
theorem PoolO.peek (h : PoolO d w m hs fs none) (hx : mget fs q = some x) : ∃ b r, mget hs q = some (b, r) ∧ d.rel w (b, r) x := by
  obtain ⟨b, r, h1, h2, _⟩ := h.open hx
  exact ⟨b, r, h1, h2⟩
theorem PoolO.sub (h : PoolO d w m hs fs q0) (k : AllP Q (FP m hs none)) : AllP Q (FP m hs (some q)) := (allFP h.uq).2 ⟨((allFP h.uq).1 k).1, fun q' k' hk' _ => ((allFP h.uq).1 k).2 q' k' hk' (by simp)⟩
theorem PoolO.at1 (h : PoolO d w m hs fs q0) (hk : mget hs q = some (b, r)) (k : AllP Q (FP m hs none)) : Q (some b) := (((allFP h.uq).1 k).2 q _ hk (by simp)).1
theorem PoolO.at2 (h : PoolO d w m hs fs q0) (hk : mget hs q = some (b, r)) (k : AllP Q (FP m hs none)) : Q r := (((allFP h.uq).1 k).2 q _ hk (by simp)).2
/-- closed again -/
theorem PoolO.close (h : PoolO d w m hs fs (some q)) (hk : mget hs q = some (b, r)) (hr : d.rel w (b, r') x') (h1 : AllP (Dj (some b)) (FP m hs (some q))) (h2 : AllP (Dj r') (FP m hs (some q))) : PoolO d w m (mput hs q (b, r')) (mput fs q x') none := by
  have hu := h.uq
  have hS : (mget fs q).isSome = true := by rw [← h.some_iff, hk]; rfl
  have h1' := (allFP hu).1 h1
  have h2' := (allFP hu).1 h2
  have old : ∀ {q' k}, mget (mput hs q (b, r')) q' = some k → (q' = q ∧ k = (b, r')) ∨ (some q' ≠ some q ∧ mget hs q' = some k) := fun {q' k} e => by
    rw [mget_mput] at e
    split at e
    · rename_i e2; simp only [Option.some.injEq] at e; exact .inl ⟨e2.symm, e.symm⟩
    · rename_i e2; exact .inr ⟨fun e3 => e2 (Option.some.inj e3).symm, e⟩
  refine ⟨?_, ?_, ?_, ?_, ?_⟩
  · obtain ⟨es, clock, hb, hst, hsz, hok, he⟩ := h.map
    refine ⟨es, clock, hb, hst, hsz, ?_, ?_⟩
    · intro p hp
      obtain ⟨p', hp', rfl⟩ := List.mem_map.1 hp
      rcases mput_mem hp' with rfl | hp'
      · exact hok (q, some (b, r)) (List.mem_map.2 ⟨_, (mget_mem hu).1 hk, rfl⟩)
      · exact hok _ (List.mem_map.2 ⟨_, hp', rfl⟩)
    · rw [he]
      unfold mmap
      rw [List.map_map, List.map_map]
      have := mput_same (g := fun k : PH => vP (some k)) (v := (b, r')) (u := (b, r)) rfl hk
      have h3 := congrArg (List.map fun p => (vs p.1, p.2)) this
      rw [List.map_map, List.map_map] at h3
      exact h3.symm
  · rw [mput_keys, mput_keys, hk, hS]
    exact h.keys
  · intro q' k x hk' hx _
    rw [mget_mput] at hx
    rcases old hk' with ⟨rfl, rfl⟩ | ⟨hq', hk'⟩
    · rw [if_pos rfl] at hx
      cases hx; exact hr
    · rw [if_neg (fun e => hq' (by rw [e]))] at hx
      exact h.rel q' k x hk' hx hq'
  · intro q' k hk' _
    rcases old hk' with ⟨rfl, rfl⟩ | ⟨hq', hk'⟩
    · exact ⟨h1'.1.symm, h2'.1.symm⟩
    · exact h.dm q' k hk' hq'
  · intro q1 q2 k1 k2 hne hk1 hk2 _ _
    rcases old hk1 with ⟨rfl, rfl⟩ | ⟨hq1, hj1⟩ <;> rcases old hk2 with ⟨rfl, rfl⟩ | ⟨hq2, hj2⟩
    · exact absurd rfl hne
    · have a := h1'.2 q2 k2 hj2 hq2
      have c := h2'.2 q2 k2 hj2 hq2
      exact ⟨a.1, a.2, c.1, c.2⟩
    · have a := h1'.2 q1 k1 hj1 hq1
      have c := h2'.2 q1 k1 hj1 hq1
      exact ⟨a.1.symm, c.1.symm, a.2.symm, c.2.symm⟩
    · exact h.dd q1 q2 k1 k2 hne hj1 hj2 hq1 hq2
theorem PoolO.back (h : PoolO d w m hs fs (some q)) (hk : mget hs q = some (b, r)) (hx : mget fs q = some x) (hr : d.rel w (b, r) x) (h1 : AllP (Dj (some b)) (FP m hs (some q))) (h2 : AllP (Dj r) (FP m hs (some q))) : PoolO d w m hs fs none := by
  have hu := h.uq
  have h1' := (allFP hu).1 h1
  have h2' := (allFP hu).1 h2
  refine ⟨h.map, h.keys, fun q' k y hk' hy _ => ?_, fun q' k hk' _ => ?_, fun q1 q2 k1 k2 hne hk1 hk2 _ _ => ?_⟩
  · by_cases e : q' = q
    · subst e; rw [hk] at hk'; rw [hx] at hy; cases hk'; cases hy; exact hr
    · exact h.rel q' k y hk' hy (fun e2 => e (Option.some.inj e2))
  · by_cases e : q' = q
    · subst e; rw [hk] at hk'; cases hk'; exact ⟨h1'.1.symm, h2'.1.symm⟩
    · exact h.dm q' k hk' (fun e2 => e (Option.some.inj e2))
  · by_cases e1 : q1 = q
    · subst e1
      rw [hk] at hk1; cases hk1
      have e2 : some q2 ≠ some q1 := fun e => hne (Option.some.inj e).symm
      have a := h1'.2 q2 k2 hk2 e2
      have c := h2'.2 q2 k2 hk2 e2
      exact ⟨a.1, a.2, c.1, c.2⟩
    · by_cases e2 : q2 = q
      · subst e2
        rw [hk] at hk2; cases hk2
        have e3 : some q1 ≠ some q2 := fun e => hne (Option.some.inj e)
        have a := h1'.2 q1 k1 hk1 e3
        have c := h2'.2 q1 k1 hk1 e3
        exact ⟨a.1.symm, c.1.symm, a.2.symm, c.2.symm⟩
      · exact h.dd q1 q2 k1 k2 hne hk1 hk2 (fun e => e1 (Option.some.inj e)) (fun e => e2 (Option.some.inj e))
theorem PoolO.backA (h : PoolO d w m hs fs q0) (hk : mget hs q = some (b, r)) (k : AllP Q (FP m hs (some q))) (k1 : Q (some b)) (k2 : Q r) : AllP Q (FP m hs none) := by
  have hu := h.uq
  refine (allFP hu).2 ⟨((allFP hu).1 k).1, fun q' k' hk' _ => ?_⟩
  by_cases e : q' = q
  · subst e; rw [hk] at hk'; cases hk'; exact ⟨k1, k2⟩
  · exact ((allFP hu).1 k).2 q' k' hk' (fun e2 => e (Option.some.inj e2))
theorem PoolO.noats (h : PoolO d w m hs fs q0) : AllP (NoAt w) (FP m hs q0) := (allFP h.uq).2 ⟨NoAt.map h.map, fun q k hk hq => by
  have h1 := h.some_iff q
  rw [hk, Option.isSome_some] at h1
  obtain ⟨x, hx⟩ := Option.isSome_iff_exists.1 h1.symm
  exact d.noat (h.rel q k x hk hx hq)⟩
theorem PoolO.closeA (h : PoolO d w m hs fs q0) (k : AllP Q (FP m hs (some q))) (k1 : Q (some b)) (k2 : Q r') : AllP Q (FP m (mput hs q (b, r')) none) := by
  have hu := h.uq
  refine (allFP (hu.put q _)).2 ⟨((allFP hu).1 k).1, fun q' k' hk' _ => ?_⟩
  rw [mget_mput] at hk'
  split at hk'
  · cases hk'; exact ⟨k1, k2⟩
  · rename_i e
    exact ((allFP hu).1 k).2 q' k' hk' (fun e2 => e (Option.some.inj e2).symm)
/-- one is put in -/
theorem PoolO.putA (h : PoolO d w m hs fs none) (k : AllP Q (FP m hs none)) (k1 : Q (some b)) (k2 : Q r') : AllP Q (FP m (mput hs q (b, r')) none) := h.closeA (h.sub k) k1 k2
theorem PoolO.put (h : PoolO d w m hs fs none) (hM : MapB vs okS vP w' m (mput (mmap some hs) q (some (b, r)))) (hg : w.grownBy w' (some m)) (hr : d.rel w (b, r) x) (h1 : AllP (Dj (some b)) (FP m hs none)) (h2 : AllP (Dj r) (FP m hs none)) : PoolO d w' m (mput hs q (b, r)) (mput fs q x) none := by
  have hu := h.uq
  have h1' := (allFP hu).1 h1
  have h2' := (allFP hu).1 h2
  have old : ∀ {q' k}, mget (mput hs q (b, r)) q' = some k → (q' = q ∧ k = (b, r)) ∨ (q' ≠ q ∧ mget hs q' = some k) := fun {q' k} e => by
    rw [mget_mput] at e
    split at e
    · rename_i e2; simp only [Option.some.injEq] at e; exact .inl ⟨e2.symm, e.symm⟩
    · rename_i e2; exact .inr ⟨fun e3 => e2 e3.symm, e⟩
  have hkeys : (mput hs q (b, r)).map (·.1) = (mput fs q x).map (·.1) := by
    rw [mput_keys, mput_keys, h.some_iff q, h.keys]
  rw [mput_mmap] at hM
  refine ⟨hM, hkeys, ?_, ?_, ?_⟩
  · intro q' k x0 hk' hx _
    rw [mget_mput] at hx
    rcases old hk' with ⟨rfl, rfl⟩ | ⟨hq', hk'⟩
    · rw [if_pos rfl] at hx
      cases hx
      exact d.goL hr (GrL.of1 hg) (apC h1'.1 apN) (apC h2'.1 apN)
    · rw [if_neg (fun e => hq' e.symm)] at hx
      have hm := h.dm q' k hk' (by simp)
      exact d.goL (h.rel q' k x0 hk' hx (by simp)) (GrL.of1 hg) (apC hm.1.symm apN) (apC hm.2.symm apN)
  · intro q' k hk' _
    rcases old hk' with ⟨rfl, rfl⟩ | ⟨hq', hk'⟩
    · exact ⟨h1'.1.symm, h2'.1.symm⟩
    · exact h.dm q' k hk' (by simp)
  · intro q1 q2 k1 k2 hne hk1 hk2 _ _
    rcases old hk1 with ⟨rfl, rfl⟩ | ⟨hq1, hj1⟩ <;> rcases old hk2 with ⟨rfl, rfl⟩ | ⟨hq2, hj2⟩
    · exact absurd rfl hne
    · have a := h1'.2 q2 k2 hj2 (by simp)
      have c := h2'.2 q2 k2 hj2 (by simp)
      exact ⟨a.1, a.2, c.1, c.2⟩
    · have a := h1'.2 q1 k1 hj1 (by simp)
      have c := h2'.2 q1 k1 hj1 (by simp)
      exact ⟨a.1.symm, c.1.symm, a.2.symm, c.2.symm⟩
    · exact h.dd q1 q2 k1 k2 hne hj1 hj2 (by simp) (by simp)
theorem PoolO.empty (d : PE X) (h : MapB vs okS vP w m ([] : List (List UInt8 × Option PH))) : PoolO d w m [] [] none := ⟨h, rfl, fun q k x hk => by simp [mget] at hk, fun q k hk => by simp [mget] at hk, fun q q' k k' _ hk => by simp [mget] at hk⟩
theorem FP.nil (h : Q (some m)) : AllP Q (FP m [] q0) := by
  unfold FP
  exact apC h apN
/-! the rules -/
variable {P : Program} {N : Nat} {L : Slots} {ty t t' k e : TypeId} {pos : String} {af : Array Edge} {dd : Option Tmp} {y z u : Operand}
theorem Yld.plook (hK : KeyF P k vs okS) (ht : P.underlying t = some (.map k e)) (hz : ∀ w, (zeroValue e).run P w = .ok (.pointer none) w) (hm : PoolO d w m hs fs q0) (hx : opv L y = some (.map (some m))) (hy : opv L z = some (vs q)) (hq : q.length ≤ maxLen) :
    Yld P N w ⟨dd, .lookup t y z false, ty, pos, af, none⟩ L (pq hs q) := by
  have := Yld.look (P := P) (N := N) (ty := ty) (pos := pos) (af := af) (dd := dd) (z := (none : Option PH)) hK ht hz hm.map hx hy hq
  rw [mget_mmap] at this
  have e : ((mget hs q).map some).getD none = mget hs q := by cases mget hs q <;> rfl
  rw [e] at this
  exact this
theorem pq_none (h : PoolO d w m hs fs q0) (q : List UInt8) : pq hs q = .pointer none ∧ (mget fs q).isNone = true ∨ (∃ b, pq hs q = .pointer (some ⟨b, 0, none⟩)) ∧ (mget fs q).isNone = false := by
  have h1 := h.some_iff q
  unfold pq vP
  cases e : mget hs q with
  | none =>
    rw [e] at h1
    refine .inl ⟨rfl, ?_⟩
    cases f : mget fs q with
    | none => rfl
    | some x => rw [f] at h1; cases h1
  | some b =>
    rw [e] at h1
    refine .inr ⟨⟨b.1, rfl⟩, ?_⟩
    cases f : mget fs q with
    | none => rw [f] at h1; cases h1
    | some x => rfl
theorem Yld.peqP {w0 : World} (ht : P.underlying t = some (.pointer e)) (hm : PoolO d w0 m hs fs q0) (hx : opv L y = some (pq hs q)) (hy : opv L z = some (.pointer none)) : Yld P N w ⟨dd, .binOp .eql t y z t', ty, pos, af, none⟩ L (.bool (mget fs q).isNone) := by
  rcases pq_none hm q with ⟨h1, h2⟩ | ⟨⟨b, h1⟩, h2⟩
  · rw [h1] at hx; rw [h2]; exact Yld.peqnil ht hx hy
  · rw [h1] at hx; rw [h2]; exact Yld.peqnil ht hx hy
theorem Yld.pnenil {p : Option Addr} (h : P.underlying t = some (.pointer e)) (hx : opv L y = some (.pointer p)) (hy : opv L z = some (.pointer none)) : Yld P N w ⟨dd, .binOp .neq t y z t', ty, pos, af, none⟩ L (.bool p.isSome) := fun a w1 _ ha => by
  refine exec_bin (ha.ev hx) (ha.ev hy) (by unfold eqGuard; rfl) ?_
  have h : (Op.equal t (.pointer p) (.pointer none)).run P w1 = .ok p.isNone w1 := run_equal_of fun d => by
    cases p <;> simp [Op.equalIn, run_underlying h]
  simp [binOp, h]
theorem Yld.pneP {w0 : World} (ht : P.underlying t = some (.pointer e)) (hm : PoolO d w0 m hs fs q0) (hx : opv L y = some (pq hs q)) (hy : opv L z = some (.pointer none)) : Yld P N w ⟨dd, .binOp .neq t y z t', ty, pos, af, none⟩ L (.bool (mget fs q).isSome) := by
  have e : (mget fs q).isSome = !(mget fs q).isNone := by cases mget fs q <;> rfl
  rcases pq_none hm q with ⟨h1, h2⟩ | ⟨⟨b, h1⟩, h2⟩
  · rw [h1] at hx; rw [e, h2]; exact Yld.pnenil ht hx hy
  · rw [h1] at hx; rw [e, h2]; exact Yld.pnenil ht hx hy
theorem Yld.pchk {w0 : World} (h : PoolO d w0 m hs fs q0) (hk : (mget fs q).isSome = true) (hx : opv L y = some (pq hs q)) : Yld P N w ⟨dd, .nilCheck y, ty, pos, af, none⟩ L (pq hs q) := fun a w1 _ ha => by
  rw [← h.some_iff] at hk
  obtain ⟨⟨b, r⟩, hb⟩ := Option.isSome_iff_exists.1 hk
  rw [pq_some hb] at hx ⊢
  unfold execOp
  simp [ha.ev hx]
theorem Yld.pfa {w0 : World} {T : Tab} {fi o : Nat} {s : TypeId} {os : List Nat} (hT : T.Ok P) (h : PoolO d w0 m hs fs q0) (hk : (mget fs q).isSome = true) (hos : nk T.off s = some os) (ho : os[fi]? = some o) (hx : opv L y = some (pq hs q)) :
    Yld P N w ⟨dd, .fieldAddr s y fi, ty, pos, af, none⟩ L (pqo hs q o) := fun a w1 _ ha => by
  rw [← h.some_iff] at hk
  obtain ⟨⟨b, r⟩, hb⟩ := Option.isSome_iff_exists.1 hk
  rw [pq_some hb] at hx
  rw [pqo_some hb]
  obtain ⟨fs, hfs, hall⟩ := hT.off hos
  obtain ⟨fd, hfd, rfl, i, hi, hi0⟩ := hall _ _ ho
  unfold execOp
  simp [ha.ev hx, Instr.fieldAt, run_underlying hfs, hfd, Instr.sureAddr, fieldPlace, sizeOf, typeInfo, hi, hi0, Addr.add_mid]
theorem Yld.pld {T : Tab} {o : Nat} {z : X} {v : Value} {u0 : Unit} (hT : T.Ok P) (h : PoolO d w m hs fs none) (hk : (mget fs q).isSome = true) (hs1 : nk T.one t = some u0) (hx : opv L y = some (pqo hs q o)) (hi : d.isc o = true) (hv : d.sc ((mget fs q).getD z) o = v) :
    Yld P N w ⟨dd, .load t y, ty, pos, af, none⟩ L v := by
  have hx' := getD_some (z := z) hk
  obtain ⟨b, r, hb, hr⟩ := h.peek hx'
  rw [pqo_some hb] at hx
  exact Yld.cell hT ((d.hsc hi hr).trans (by rw [hv])) hs1 hx
theorem Ef0.poolPut (hK : KeyF P k vs okS) (ht : P.underlying t = some (.map k e)) (hm : PoolO d w m hs fs none) (hn : fs.length < maxLen) (hx : opv L y = some (.map (some m))) (hy : opv L z = some (vs q)) (hq : q.length ≤ maxLen) (hu : opv L u = some (.pointer (some ⟨b, 0, none⟩))) (hr : d.rel w (b, r) x) (h1 : AllP (Dj (some b)) (FP m hs none)) (h2 : AllP (Dj r) (FP m hs none)) :
    Ef0 P N w ⟨none, .mapUpdate t y z u, ty, pos, af, none⟩ L fun w' => PoolO d w' m (mput hs q (b, r)) (mput fs q x) none ∧ w.grownBy w' (some m) := by
  have hl : (mmap some hs).length < maxLen := by
    have := congrArg List.length hm.keys
    unfold mmap
    simp only [List.length_map] at this ⊢
    omega
  have := Ef0.mapPut (P := P) (N := N) (ty := ty) (pos := pos) (af := af) (fv := vP) (v := some (b, r)) hK ht hm.map hl hx hy hq hu
  intro a w1 hw ha
  obtain ⟨w', e1, h3, h4⟩ := this a w1 hw ha
  exact ⟨w', e1, hm.put h3 h4 hr h1 h2, h4⟩
end
end Go.Proofs.YtlonpmajnglmoaaDoor


 /- Going over a map: the entries that are still to come, whatever their order. -/
namespace Go.Proofs.YtlonpmajnglmoaaDoor
open Go Go.RowKit Go.MapKept Go.ChangeMaps
theorem setB_same {w : World} {r : Nat} {o0 : Obj} (h : w.heap[r]? = some o0) (o : Obj) : (setBlock w r o).heap[r]? = some o := by
  have := (Array.getElem?_eq_some_iff.1 h).1
  simp [setBlock, this]
theorem setB_other {w : World} {r i : Nat} (o : Obj) (hi : i ≠ r) : (setBlock w r o).heap[i]? = w.heap[i]? := by
  simp [setBlock, Array.getElem?_setIfInBounds, Ne.symm hi]
theorem filter_eraseIdx : ∀ (l : List MapEntry) (i : Nat) (hi : i < l.length), (l.map (·.born)).Nodup → l.filter (fun x => !(x.born == l[i].born)) = l.eraseIdx i
  | [], i, hi, _ => by simp at hi
  | x :: l, 0, _, hn => by
    have hn' := List.nodup_cons.1 hn
    simp only [List.getElem_cons_zero, List.eraseIdx_zero, List.tail_cons]
    rw [List.filter_cons, if_neg (by simp), List.filter_eq_self]
    intro y hy
    have : y.born ≠ x.born := fun e => hn'.1 (List.mem_map.2 ⟨y, hy, e⟩)
    simp [this]
  | x :: l, i + 1, hi, hn => by
    have hn' := List.nodup_cons.1 hn
    simp only [List.getElem_cons_succ, List.eraseIdx_cons_succ]
    have hi' : i < l.length := by simpa using hi
    have : x.born ≠ (l[i]).born := fun e => hn'.1 (List.mem_map.2 ⟨l[i], List.getElem_mem hi', e.symm⟩)
    rw [List.filter_cons, if_pos (by simp [this]), filter_eraseIdx l i hi' hn'.2]
section
variable {κ ν : Type} {P : Program} {k e t : TypeId} {fk : κ → Value} {ok : κ → Prop} {fv : ν → Value} {w w' : World} {b r : Nat} {m todo : List (κ × ν)} {row : Option Nat} {ps : List (Option Nat)}
/-- block r goes over the map b, whose entries are m; todo: those that are still to come -/
def RngB (fk : κ → Value) (fv : ν → Value) (w : World) (b r : Nat) (m todo : List (κ × ν)) : Prop :=
  ∃ es clock since seen c0, w.heap[b]? = some (.map es clock) ∧ Stamped es clock ∧ es.toList.map (fun e => (e.key, e.val)) = m.map (fun p => (fk p.1, fv p.2)) ∧ w.heap[r]? = some (.mapIter (some b) since seen c0) ∧ (∀ x ∈ es.toList, x.born < since) ∧ since ≤ c0 ∧ since ≤ clock ∧
    (leftOf es seen).toList.map (fun e => (e.key, e.val)) = todo.map fun p => (fk p.1, fv p.2)
theorem RngB.lt (h : RngB fk fv w b r m todo) : r < w.heap.size := by
  obtain ⟨_, _, _, _, _, _, _, _, hr, _⟩ := h
  exact (Array.getElem?_eq_some_iff.1 hr).1
theorem RngB.ltm (h : RngB fk fv w b r m todo) : b < w.heap.size := by
  obtain ⟨_, _, _, _, _, hb, _⟩ := h
  exact (Array.getElem?_eq_some_iff.1 hb).1
theorem RngB.lt' (h : RngB fk fv w b r m todo) : Lt (some r) w.heap.size := Lt.box h.lt
theorem RngB.goL (h : RngB fk fv w b r m todo) (hg : GrL ps w w') (h1 : AllP (Dj (some r)) ps) (h2 : AllP (Dj (some b)) ps) : RngB fk fv w' b r m todo := by
  have hlt := h.lt
  have hltm := h.ltm
  obtain ⟨es, clock, since, seen, c0, hb, hs, he, hr, rest⟩ := h
  exact ⟨es, clock, since, seen, c0, (hg.block b hltm (fun p hp e => h2 p hp b rfl e)).trans hb, hs, he, (hg.block r hlt (fun p hp e => h1 p hp r rfl e)).trans hr, rest⟩
theorem RngB.g0 (h : RngB fk fv w b r m todo) (hg : w.grownBy w' none) : RngB fk fv w' b r m todo := h.goL (ps := []) (GrL.of0 hg) apN apN
theorem RngB.go (h : RngB fk fv w b r m todo) (hg : w.grownBy w' row) (h1 : Dj (some r) row) (h2 : Dj (some b) row) : RngB fk fv w' b r m todo := h.goL (GrL.of1 hg) (apC h1 apN) (apC h2 apN)
theorem RngB.noat (h : RngB fk fv w b r m todo) : NoAt w (some r) := fun g' us' hg' hB => by
  cases hg'
  obtain ⟨_, _, _, _, _, _, _, _, hr, _⟩ := h
  unfold Bl at hB
  rw [hr] at hB
  cases hB
theorem RngB.eqv (hw : Eqv w w') (h : RngB fk fv w b r m todo) : RngB fk fv w' b r m todo := h.g0 (gr_eqv (gr_refl w none) hw)
theorem RngB.start (h : MapB fk ok fv w b m) (ht : P.underlying t = some (.map k e)) :
    ∃ w', (Instr.range t (.map (some b))).run P w = .ok (.pointer (some ⟨w.heap.size, 0, none⟩)) w' ∧ RngB fk fv w' b w.heap.size m m ∧ w.grownBy w' none := by
  have hlt := h.lt
  obtain ⟨es, clock, hb, hst, hsz, hok, he⟩ := h
  refine ⟨_, run_range_map w t k e b es clock ht hb, ⟨es, clock, clock, #[], clock, ((MapKept.heap_alloc w _).2 b hlt).trans hb, hst, he, (MapKept.heap_alloc w _).1, hst.1, Nat.le_refl _, Nat.le_refl _, ?_⟩, World.grownBy_alloc w _ none⟩
  have : leftOf es #[] = es := by unfold leftOf; exact Array.filter_eq_self.2 (fun x _ => by simp)
  rw [this, he]
/-- what the last step handed out -/
def RngE (w : World) (r : Nat) (u v : Value) : Prop := ∃ b es clock since seen x, w.heap[b]? = some (.map es clock) ∧ w.heap[r]? = some (.mapIter (some b) since (Array.push seen x.born) clock) ∧ x ∈ es.toList ∧ (es.toList.map (·.born)).Nodup ∧ x.key = u ∧ x.val = v
theorem RngE.eqv {u v : Value} (hw : Eqv w w') (h : RngE w r u v) : RngE w' r u v := by
  obtain ⟨b, es, clock, since, seen, x, h1, h2, h3⟩ := h
  exact ⟨b, es, clock, since, seen, x, by rw [hw.heap]; exact h1, by rw [hw.heap]; exact h2, h3⟩
theorem RngB.next (h : RngB fk fv w b r m todo) (ty : TypeId) :
    (todo = [] ∧ (Instr.next (.pointer (some ⟨r, 0, none⟩)) false ty).run P w = .ok (.tuple #[.bool false]) w) ∨
    ∃ (i : Nat) (q : κ × ν) (w' : World), todo[i]? = some q ∧ (Instr.next (.pointer (some ⟨r, 0, none⟩)) false ty).run P w = .ok (.tuple #[.bool true, fk q.1, fv q.2]) w' ∧ RngB fk fv w' b r m (todo.eraseIdx i) ∧ w.grownBy w' (some r) ∧ RngE w' r (fk q.1) (fv q.2) := by
  have hlt := h.lt
  obtain ⟨es, clock, since, seen, c0, hb, hst, he, hr, hold, hsc, hcl, htd⟩ := h
  rcases run_next_at (P := P) w ty r b since c0 seen es clock hr hb hold hsc with ⟨h0, h1⟩ | ⟨x, hx, w1, hal, h1⟩
  · refine .inl ⟨?_, h1⟩
    have := congrArg List.length htd
    simp only [List.length_map, Array.length_toList, h0] at this
    exact List.eq_nil_of_length_eq_zero this.symm
  · obtain ⟨i, hi, rfl⟩ := List.getElem_of_mem hx
    have hi2 : i < todo.length := by have := congrArg List.length htd; simp only [List.length_map] at this; omega
    have hq := congrArg (fun l => l[i]?) htd
    simp only [List.getElem?_map, List.getElem?_eq_getElem hi, List.getElem?_eq_getElem hi2, Option.map_some, Option.some.injEq, Prod.mk.injEq] at hq
    have hne : r ≠ b := fun e => by rw [e, hb] at hr; cases hr
    have hr1 : w1.heap[r]? = some (.mapIter (some b) since seen c0) := by rcases hal with rfl | rfl <;> exact hr
    have hb1 : w1.heap[b]? = some (.map es clock) := by rcases hal with rfl | rfl <;> exact hb
    refine .inr ⟨i, todo[i], _, List.getElem?_eq_getElem hi2, by rw [← hq.1, ← hq.2]; exact h1, ⟨es, clock, since, seen.push _, clock, (setB_other _ (fun e => hne e.symm)).trans hb1, hst, he, setB_same hr1 _, hold, hcl, hcl, ?_⟩, ?_, ⟨b, es, clock, since, seen, _, (setB_other _ (fun e => hne e.symm)).trans hb1, setB_same hr1 _, (mem_left hx).1, hst.2.1, hq.1, hq.2⟩⟩
    · have hpush : ∀ bn, (leftOf es (seen.push bn)).toList = (leftOf es seen).toList.filter (fun y => !(y.born == bn)) := fun bn => by
        unfold leftOf
        rw [Array.toList_filter, Array.toList_filter, List.filter_filter]
        congr 1
        funext y
        rw [contains_push]
        cases seen.contains y.born <;> simp
      have hnd : ((leftOf es seen).toList.map (·.born)).Nodup := by
        have := hst.2.1
        unfold leftOf
        rw [Array.toList_filter]
        exact this.sublist (List.Sublist.map _ List.filter_sublist)
      rw [hpush, filter_eraseIdx _ i hi hnd, map_eraseIdx, htd, map_eraseIdx]
    · have hg1 : w.grownBy w1 none := by
        rcases hal with rfl | rfl
        · exact gr_refl _ _
        · exact gr_eqv (gr_refl _ _) ⟨rfl, rfl, rfl, rfl⟩
      refine ⟨hg1.os, hg1.tape, hg1.output, ?_, fun j hj hjr => ?_⟩
      · have := hg1.size; simp [setBlock]; exact this
      · rw [setB_other _ (fun e => hjr (by rw [e]))]
        exact hg1.block j hj (by simp)
variable {N : Nat} {L : Slots} {ty : TypeId} {pos : String} {af : Array Edge} {dd : Option Tmp} {x : Operand}
theorem Eff.range (hm : MapB fk ok fv w b m) (ht : P.underlying t = some (.map k e)) (hx : opv L x = some (.map (some b))) : Eff P N w ⟨dd, .range t x, ty, pos, af, none⟩ L fun v w' => v = .pointer (some ⟨w.heap.size, 0, none⟩) ∧ RngB fk fv w' b w.heap.size m m ∧ w.grownBy w' none := fun a w1 hw ha => by
  obtain ⟨w', h1, h2, h3⟩ := RngB.start (P := P) (MapB.eqv hw hm) ht
  rw [hw.heap] at h1 h2
  refine ⟨_, w', ?_, rfl, h2, eqv_gr hw h3⟩
  unfold execOp
  simp [ha.ev hx, h1]
theorem Eff.next (hm : RngB fk fv w b r m todo) (hx : opv L x = some (.pointer (some ⟨r, 0, none⟩))) : Eff P N w ⟨dd, .next x false, ty, pos, af, none⟩ L fun v w' => (todo = [] ∧ v = .tuple #[.bool false] ∧ RngB fk fv w' b r m todo ∧ w.grownBy w' none) ∨ ∃ (i : Nat) (q : κ × ν), todo[i]? = some q ∧ v = .tuple #[.bool true, fk q.1, fv q.2] ∧ RngB fk fv w' b r m (todo.eraseIdx i) ∧ w.grownBy w' (some r) ∧ RngE w' r (fk q.1) (fv q.2) := fun a w1 hw ha => by
  rcases RngB.next (P := P) (hm.eqv hw) ty with ⟨h0, h1⟩ | ⟨i, q, w', h0, h1, h2, h3, h4⟩
  · refine ⟨_, w1, ?_, .inl ⟨h0, rfl, hm.eqv hw, gr_eqv (gr_refl _ _) hw⟩⟩
    unfold execOp
    simp [ha.ev hx, h1]
  · refine ⟨_, w', ?_, .inr ⟨i, q, h0, rfl, h2, eqv_gr hw h3, h4⟩⟩
    unfold execOp
    simp [ha.ev hx, h1]
end
section
variable {P : Program} {w : World} {r : Nat} {u v : Value} {N : Nat} {L : Slots} {ty : TypeId} {pos : String} {af : Array Edge} {dd : Option Tmp} {x : Operand}
theorem Yld.entry (h : RngE w r u v) (hx : opv L x = some (.pointer (some ⟨r, 0, none⟩))) : Yld P N w ⟨dd, .entry x, ty, pos, af, none⟩ L (.tuple #[u, v]) := fun a w1 hw ha => by
  obtain ⟨b, es, clock, since, seen, y, h1, h2, h3, h4, rfl, rfl⟩ := h.eqv hw
  unfold execOp
  simp [ha.ev hx, run_entry_at w1 r b since seen es clock y h2 h1 h3 h4]
end
/-! a pool -/
section
variable {X : Type} {d : PE X} {w w' : World} {m r : Nat} {hs : List (List UInt8 × PH)} {fs : List (List UInt8 × X)} {q0 : Option (List UInt8)} {ks : List (List UInt8)} {row : Option Nat} {ps : List (Option Nat)}
def RngP (w : World) (m r : Nat) (hs : List (List UInt8 × PH)) (ks : List (List UInt8)) : Prop := ∃ todo : List (List UInt8 × Option PH), RngB vs vP w m r (mmap some hs) todo ∧ ks = todo.map (·.1) ∧ ∀ p ∈ todo, p ∈ mmap some hs
theorem RngP.lt' (h : RngP w m r hs ks) : Lt (some r) w.heap.size := h.elim fun _ h => h.1.lt'
theorem RngP.g0 (h : RngP w m r hs ks) (hg : w.grownBy w' none) : RngP w' m r hs ks := h.elim fun t h => ⟨t, h.1.g0 hg, h.2⟩
theorem RngP.go (h : RngP w m r hs ks) (hg : w.grownBy w' row) (h1 : Dj (some r) row) (h2 : Dj (some m) row) : RngP w' m r hs ks := h.elim fun t h => ⟨t, h.1.go hg h1 h2, h.2⟩
theorem RngP.noat (h : RngP w m r hs ks) : NoAt w (some r) := h.elim fun _ h => h.1.noat
theorem RngP.goL (h : RngP w m r hs ks) (hg : GrL ps w w') (h1 : AllP (Dj (some r)) ps) (h2 : AllP (Dj (some m)) ps) : RngP w' m r hs ks := h.elim fun t h => ⟨t, h.1.goL hg h1 h2, h.2⟩
variable {P : Program} {k e t : TypeId} {N : Nat} {L : Slots} {ty : TypeId} {pos : String} {af : Array Edge} {dd : Option Tmp} {x : Operand}
theorem Eff.rangeP (hm : PoolO d w m hs fs q0) (ht : P.underlying t = some (.map k e)) (hx : opv L x = some (.map (some m))) : Eff P N w ⟨dd, .range t x, ty, pos, af, none⟩ L fun v w' => v = .pointer (some ⟨w.heap.size, 0, none⟩) ∧ RngP w' m w.heap.size hs (fs.map (·.1)) ∧ w.grownBy w' none :=
  fun a w1 hw ha => by
    obtain ⟨v, w', h1, h2, h3, h4⟩ := Eff.range (P := P) (N := N) (ty := ty) (pos := pos) (af := af) (dd := dd) hm.map ht hx a w1 hw ha
    exact ⟨v, w', h1, h2, ⟨_, h3, by rw [← hm.keys]; unfold mmap; rw [List.map_map]; rfl, fun p hp => hp⟩, h4⟩
theorem Eff.nextP (hm : RngP w m r hs ks) (hu : Uq hs) (hx : opv L x = some (.pointer (some ⟨r, 0, none⟩))) : Eff P N w ⟨dd, .next x false, ty, pos, af, none⟩ L fun v w' => (ks = [] ∧ v = .tuple #[.bool false] ∧ RngP w' m r hs ks ∧ w.grownBy w' none) ∨ ∃ (i : Nat) (q : List UInt8), ks[i]? = some q ∧ v = .tuple #[.bool true, vs q, pq hs q] ∧ (mget hs q).isSome = true ∧ RngP w' m r hs (ks.eraseIdx i) ∧ w.grownBy w' (some r) ∧ RngE w' r (vs q) (pq hs q) := by
  obtain ⟨todo, h1, rfl, h3⟩ := hm
  refine fun a w1 hw ha => ?_
  obtain ⟨v, w', e1, h⟩ := Eff.next (P := P) (N := N) (ty := ty) (pos := pos) (af := af) (dd := dd) h1 hx a w1 hw ha
  refine ⟨v, w', e1, ?_⟩
  rcases h with ⟨h4, h5, h6, h7⟩ | ⟨i, q, h4, h5, h6, h7, h8⟩
  · exact .inl ⟨by rw [h4]; rfl, h5, ⟨todo, h6, rfl, h3⟩, h7⟩
  · have hq := h3 q (List.mem_of_getElem? h4)
    obtain ⟨p, hp, rfl⟩ := List.mem_map.1 hq
    have hg : mget hs p.1 = some p.2 := (mget_mem hu).2 hp
    refine .inr ⟨i, p.1, by rw [List.getElem?_map, h4]; rfl, ?_, by rw [hg]; rfl, ⟨todo.eraseIdx i, h6, by rw [map_eraseIdx], fun p' hp' => h3 p' (List.mem_of_mem_eraseIdx hp')⟩, h7, ?_⟩
    · rw [h5]
      unfold pq
      rw [hg]
    · unfold pq
      rw [hg]
      exact h8
end
end Go.Proofs.YtlonpmajnglmoaaDoor


 /- A disk's files, as_ a pool's boxes. -/
namespace Go.Proofs.YtlonpmajnglmoaaDoor
open Go Go.RowKit
abbrev Fil := List UInt8 × Bool × List UInt8 × Bool × List (Int × List UInt8)
def pe128 : PE Fil where
  rel w h x := ∃ A c, blk A = h.2 ∧ Bl w h.1 128 [vs x.1, .bool x.2.1, vs x.2.2.1, .bool x.2.2.2.1, .slice A x.2.2.2.2.length c] ∧ OwnK 2 enc136 w 0 136 A c x.2.2.2.2 ∧ Dj (some h.1) (blk A)
  goL h hg h1 h2 := by
    obtain ⟨A, c, e, hB, hO, hd⟩ := h
    exact ⟨A, c, e, hB.goL hg h1, hO.goL hg (by rw [e]; exact h2), hd⟩
  lt h := by
    obtain ⟨A, c, e, hB, hO, hd⟩ := h
    exact ⟨hB.lt', by rw [← e]; exact hO.lt'⟩
  isc o := decide (o < 4)
  sc x o := match o with
    | 0 => vs x.1
    | 1 => .bool x.2.1
    | 2 => vs x.2.2.1
    | _ => .bool x.2.2.2.1
  hsc hi h := by
    obtain ⟨A, c, e, hB, hO, hd⟩ := h
    rename_i o
    have ho : o < 4 := of_decide_eq_true hi
    match o, ho with
    | 0, _ => exact hB.cell 0
    | 1, _ => exact hB.cell 1
    | 2, _ => exact hB.cell 2
    | 3, _ => exact hB.cell 3
  noat h := by
    obtain ⟨A, c, e, hB, hO, hd⟩ := h
    exact ⟨NoAt.bl hB rfl, by rw [← e]; exact NoAt.ownK hO rfl⟩
end Go.Proofs.YtlonpmajnglmoaaDoor


 /-
  DERIVED: THE SHELF's CONTRACTS AT THIS DUMP, IN PLAIN WORDS (tools/lay-plain.mjs out of 'TrydShelf2.lean', which tools/lay-shelf.mjs wrote): THE SAME DECLARATIONS UNDER THE SAME NAMES: 'import', 'namespace', 'open', 'def', 'theorem' AND NOTHING ELSE: no command of the shelf's: FOR A HAND-IN. Each laying: the table of numbers ('.._ren') and one theorem, a field a fact of the dump's own or the kernel's comparison; each contract: ONE APPLICATION.
-/
namespace Go.Proofs
open Go.Shelf
def Tryd.keysit111_ren : Go.Shelf.Ren := ⟨fun | 10 => 111 | n => n, fun | 33 => 113 | 23 => 122 | 0 => 0 | 4 => 4 | 26 => 9 | 3 => 125 | n => n, fun | n => n⟩
theorem Tryd.keysit111 : Go.Proofs.SlLaysZ.n10 Tryd.prog Tryd.keysit111_ren := {
  mixed := by kernel_rfl
  f10 := ⟨Tryd.f111.name, by decide, Tryd.func111.trans (congrArg some (by kernel_rfl))⟩
  t0 := Tryd.underlying0
  a0 := Tryd.isAgg0
  z0 := Tryd.sizeOf0
  v0 := Tryd.zeroValue0
  t4 := Tryd.underlying4
  a4 := Tryd.isAgg4
  z4 := Tryd.sizeOf4
  v4 := Tryd.zeroValue4
  t23 := Tryd.underlying122
  a23 := Tryd.isAgg122
  z23 := Tryd.sizeOf122
  v23 := Tryd.zeroValue122
  t26 := Tryd.underlying9
  a26 := Tryd.isAgg9
  z26 := Tryd.sizeOf9
  v26 := Tryd.zeroValue9
  t33 := Tryd.underlying113
  a33 := Tryd.isAgg113
  z33 := Tryd.sizeOf113
  v33 := Tryd.zeroValue113 }
end Go.Proofs

 /- slices.Sorted over maps.Keys, at a pool: its keys in order. -/
namespace Go.Proofs.YtlonpmajnglmoaaDoor
open Go Go.RowKit Go.Proofs Go.Maps Go.Sort Go.Shelf
def rdum : Value → Option (DataW Unit × List MemPlace) := fun _ => some (.nil, [])
theorem strKeys_pool {X : Type} {d : PE X} {w : World} {m : Nat} {hs : List (List UInt8 × PH)} {fs : List (List UInt8 × X)} {q0 : Option (List UInt8)} {P : Program} {k : TypeId} (hk : P.underlying k = some .string) (h : PoolO d w m hs fs q0) :
    ∃ D : DataW Unit, w.ownsMap P k rdum m fs.length D ∧ (strKeys D).Perm (fs.map (·.1)) ∧ Maps.size D = fs.length := by
  obtain ⟨es, clock, hb, hst, hsz, hok, he⟩ := h.map
  have hlen : es.toList.length = fs.length := by
    have h1 := congrArg List.length he
    have h2 := congrArg List.length h.keys
    simp only [List.length_map, mmap] at h1 h2
    omega
  have hkey : ∀ x ∈ es.toList, ∃ q : List UInt8, x.key = vs q ∧ q.length ≤ maxLen := fun x hx => by
    obtain ⟨j, hj, rfl⟩ := List.getElem_of_mem hx
    have h1 := congrArg (fun l => l[j]?) he
    simp only [List.getElem?_map, List.getElem?_eq_getElem hj, Option.map_some] at h1
    obtain ⟨p, hp, hpe⟩ := Option.map_eq_some_iff.1 h1.symm
    exact ⟨p.1, (congrArg Prod.fst hpe).symm, hok p (List.mem_of_getElem? hp)⟩
  have hrd : ∀ x ∈ es.toList, ∃ q : List UInt8, x.key = vs q ∧ Go.WideElems.rd P k rdum x = some (.string q, .nil) := fun x hx => by
    obtain ⟨q, hq, hl⟩ := hkey x hx
    refine ⟨q, hq, ?_⟩
    unfold Go.WideElems.rd rdum
    rw [hq]
    have := Go.WideMaps.keyOf_string_mk hk (s := ⟨⟨q⟩⟩) hl
    unfold vs
    rw [this]
    rfl
  have F : Go.WideElems.Fit P k rdum es clock := ⟨hsz, hst, fun x hx => by
    obtain ⟨q, _, h2⟩ := hrd x hx
    exact ⟨_, h2⟩⟩
  refine ⟨_, ⟨es, clock, hb, F, by simp at hlen; omega, rfl⟩, ?_, ?_⟩
  · unfold strKeys
    refine ((Go.WideShapes.sorted_perm _).map _).trans ?_
    rw [List.map_map]
    have e1 : es.toList.map ((fun p : Lit × DataW Unit => strOf p.1) ∘ Go.WideElems.rg P k rdum) = fs.map (·.1) := by
      have e2 : (es.toList.map (·.key)) = (fs.map (·.1)).map vs := by
        have h1 := congrArg (List.map Prod.fst) he
        rw [List.map_map, List.map_map] at h1
        rw [← h.keys, List.map_map]
        simpa [mmap, Function.comp_def] using h1
      have e3 : es.toList.map (·.key) = (es.toList.map ((fun p : Lit × DataW Unit => strOf p.1) ∘ Go.WideElems.rg P k rdum)).map vs := by
        rw [List.map_map]
        refine List.map_congr_left fun x hx => ?_
        obtain ⟨q, h1, h2⟩ := hrd x hx
        simp only [Function.comp_def, Go.WideElems.rg, h2, Option.getD_some, strOf]
        exact h1
      rw [e3] at e2
      exact List.map_inj_right (fun a b h => by unfold vs at h; injection h with h; injection h with h; injection h with h) |>.1 e2
    rw [e1]
  · simp only [Maps.size, length_sorted, List.length_map]
    exact hlen
theorem sortsHereP (m : Nat) : AnyZ.SortsIn Tryd.prog Tryd.sorted72_ren Fence.wide m :=
  ⟨fun b o cap ss W hH hb hsz => callsIn_wide.2 (Tryd.slices_Sort_string b o cap ss W hH hb hsz), fun p cap W => callsIn_wide.2 (Tryd.slices_Sort_string_none p cap W)⟩
theorem sortedKeys_fn {w : World} {m g : Nat} {hs : List (List UInt8 × PH)} {fs : List (List UInt8 × Fil)} (hM : PoolO pe128 w m hs fs none) (hB : Bl w g 122 [.map (some m)]) (hl : fs.length ≤ 1000000000) :
    Fn Tryd.prog 72 ⟨[.func (.func 111) #[] #[.pointer (some ⟨g, 0, none⟩)]]⟩ w fun v w' => ∃ A' c', v = .slice A' fs.length c' ∧ Own vs w' w.heap.size 9 A' c' ((fs.map (·.1)).mergeSort fun x y => decide (x ≤ y)) ∧ w.grownBy w' none := by
  refine ⟨by kernel_rfl, fun w1 e => ?_⟩
  have hM1 := hM.eqv e
  have hB1 : Bl w1 g 122 [.map (some m)] := bl_eqv e hB
  have hlt := hB1.lt
  obtain ⟨D, hown, hperm, hsize⟩ := strKeys_pool (P := Tryd.prog) (k := 9) (by kernel_rfl) hM1
  have hg := AnyZ.keys_gives Tryd.keysit111 Fence.wide (5 - 1 - 1 - 1) trivial rfl (by omega) g m fs.length D w1 hlt (by rw [hB1.cell]; rfl) hown
  rw [hsize] at hg
  have h := callsIn_wide.1 (AnyZ.sorted_in (Tryd.sorted72) Fence.wide 5 trivial trivial trivial trivial rfl (by omega) (sortsHereP _) (enters_of Tryd.func98 (by kernel_rfl) rfl) 111 #[.pointer (some ⟨g, 0, none⟩)] trivial (enters_of Tryd.func111 (by kernel_rfl) rfl) _ fs.length (by simp only [maxLen]; omega) (by omega) w1 hg)
  refine h.mono ?_
  rintro _ w' ⟨v, ss, rfl, hS, hrow, _, hb⟩
  have hss : ss.Perm (fs.map (·.1)) := hS.trans hperm
  have hlen : ss.length = fs.length := by rw [hss.length_eq, List.length_map]
  have hsort : (ss.mergeSort fun x y => decide (x ≤ y)) = (fs.map (·.1)).mergeSort fun x y => decide (x ≤ y) := mergeSort_of_perm hss
  have hg2 : w.grownBy w' none := eqv_gr e (gr_below hb none)
  have hO : ∃ A' c', v = .slice A' fs.length c' := by
    rcases hrow.2 with ⟨rfl, hz⟩ | ⟨gb, cap, cur, rfl, _⟩
    · exact ⟨none, 0, by rw [← hlen, hz]⟩
    · exact ⟨_, _, by rw [hlen]⟩
  obtain ⟨A', c', rfl⟩ := hO
  refine ⟨_, w', rfl, Eqv.refl _, A', c', rfl, ?_, hg2⟩
  unfold Own
  rw [hlen, hsort] at hrow
  rw [List.length_mergeSort, List.length_map, ← e.heap]
  exact hrow
theorem keysBox_fn {w : World} {m : Nat} : Fn Tryd.prog 73 ⟨[.map (some m)]⟩ w fun v w' => ∃ g, v = .func (.func 111) #[] #[.pointer (some ⟨g, 0, none⟩)] ∧ Bl w' g 122 [.map (some m)] ∧ w.grownBy w' none ∧ w.heap.size ≤ g := by
  refine Fn.enter (by kernel_rfl) Tryd.func73 rfl Tryd.ntmps73 rfl ?_
  refine WC.seq ?_
  refine WC.region ?_
  refine WL.box (us := [.map (some m)]) rfl rfl rfl (fun g w1 hB1 hg1 hl1 => ?_)
  refine WL.y rfl (Yld.pure tab_ok rfl) ?_
  refine WL.nil (WX.then_normal ?_)
  refine WC.seq ?_
  refine WC.region ?_
  refine WL.y rfl (Yld.mkf rfl) ?_
  refine WL.y rfl (Yld.pure tab_ok rfl) ?_
  refine WL.nil (WX.then_normal ?_)
  refine WC.ret ?_
  exact WX.ret1 rfl rfl ⟨g, rfl, hB1, hg1, hl1⟩
def M_slices_Sorted_string_maps_Keys_map_string_pdisk_file_string_pdisk_file_1 (fs : List (List UInt8 × Fil)) (K : List (List UInt8) → Prop) : Prop := fs.length ≤ 1000000000 ∧ K ((fs.map (·.1)).mergeSort fun x y => decide (x ≤ y))
theorem W_slices_Sorted_string_maps_Keys_map_string_pdisk_file_string_pdisk_file_1 {w : World} {m g : Nat} {hs : List (List UInt8 × PH)} {fs : List (List UInt8 × Fil)} {K : List (List UInt8) → Prop} (hM : PoolO pe128 w m hs fs none) (hB : Bl w g 122 [.map (some m)]) (H : M_slices_Sorted_string_maps_Keys_map_string_pdisk_file_string_pdisk_file_1 fs K) :
    Fn Tryd.prog 72 ⟨[.func (.func 111) #[] #[.pointer (some ⟨g, 0, none⟩)]]⟩ w (fun v w' => w.grownBy w' none ∧ ∃ (r : List (List UInt8)) (A : Option Addr) (c : Nat), v = .slice A r.length c ∧ Own vs w' w.heap.size 9 A c r ∧ K r) := by
  refine (sortedKeys_fn hM hB H.1).mono ?_
  rintro v w' ⟨A', c', rfl, hO, hg⟩
  exact ⟨hg, _, A', c', by rw [List.length_mergeSort, List.length_map], hO, H.2⟩
end Go.Proofs.YtlonpmajnglmoaaDoor


 