/- Texts of this claim, joined by a program: Sha10, KeyA, Enc, Ord, GKa, KeyB, KeyH, See. -/
import Derived.Test.YtilphcippnfklaaDoorJ3
namespace Go.Proofs.YtilphcippnfklaaDoor
open Go Go.RowKit
attribute [local irreducible] WL WC WX WQ WK Yld Eff Ef0 Fn
/-- what a digit says -/
def digV (c : UInt8) : Option Nat := if 48 ≤ c.toNat ∧ c.toNat ≤ 57 then some (c.toNat - 48) else if 97 ≤ c.toNat ∧ c.toNat ≤ 102 then some (c.toNat - 87) else none
theorem digV_lt {c : UInt8} {n : Nat} (h : digV c = some n) : n < 16 := by
  unfold digV at h
  split at h
  · injection h with h; omega
  · split at h
    · injection h with h; omega
    · cases h
def digR (c : UInt8) : Value := .tuple #[.int .u8 (((digV c).getD 0 : Nat) : Int), .bool (digV c).isSome]
theorem digit_fn (c : UInt8) (w : World) : Fn Tryd.prog 59 ⟨[vb c]⟩ w fun v w' => v = digR c ∧ w' = w := by
  have hc := c.toNat_lt
  refine Fn.enter (by kernel_rfl) Tryd.func59 rfl Tryd.ntmps59 rfl ?_
  repeat (first | refine WC.seq ?_ | refine WC.block ?_ | refine WC.region ?_ | refine WL.nil ?_ | refine WX.then_normal ?_ | refine WC.skip ?_ | refine WC.exit ?_ | refine WC.ret ?_ | refine WX.then_exit ?_ | refine WX.then_ret ?_ | refine WX.block_normal ?_ | refine WX.block_ret ?_ | refine WX.block_same ?_ | refine WX.block_other rfl ?_ | refine WC.label ?_ | refine WC.scope ?_ | refine WX.scope_normal ?_ | refine WX.scope_ret ?_ | refine WX.scope_exit ?_ | refine WL.y rfl (Yld.add rfl rfl (by simp only [In]; omega)) ?_ | refine WL.y rfl (Yld.sub rfl rfl (by simp only [In]; omega)) ?_ | refine WL.y rfl (Yld.mul rfl rfl (by simp only [In]; omega)) ?_ | refine WL.y rfl (Yld.convB tab_ok rfl rfl rfl rfl) ?_ | refine WL.y rfl (Yld.conv tab_ok rfl rfl rfl (by simp only [In]; omega)) ?_ | refine WL.y rfl (Yld.quo rfl rfl (by omega) (by omega) (by simp only [In]; omega)) ?_ | refine WL.y rfl (Yld.rem rfl rfl (by omega) (by omega)) ?_ | refine WL.y rfl (Yld.shl rfl rfl (by omega)) ?_ | refine WL.y rfl (Yld.shr rfl rfl (by omega)) ?_ | refine WL.y rfl (Yld.pure tab_ok rfl) ?_ | refine WL.y rfl (Yld.fld flds_ok rfl rfl rfl) ?_ | refine WL.y rfl (Yld.max2 rfl rfl) ?_ | refine WL.y rfl (Yld.min2 rfl rfl) ?_ | refine WL.y rfl (Yld.pickV rfl rfl rfl) ?_ | refine WL.gno rfl rfl rfl rfl ?_ | refine WL.gyes rfl rfl rfl rfl (Yld.add rfl rfl (by simp only [In]; omega)) ?_ | refine WL.gyes rfl rfl rfl rfl (Yld.sub rfl rfl (by simp only [In]; omega)) ?_ | refine WL.gyes rfl rfl rfl rfl (Yld.mul rfl rfl (by simp only [In]; omega)) ?_ | refine WL.gyes rfl rfl rfl rfl (Yld.convB tab_ok rfl rfl rfl rfl) ?_ | refine WL.gyes rfl rfl rfl rfl (Yld.conv tab_ok rfl rfl rfl (by simp only [In]; omega)) ?_ | refine WL.gyes rfl rfl rfl rfl (Yld.quo rfl rfl (by omega) (by omega) (by simp only [In]; omega)) ?_ | refine WL.gyes rfl rfl rfl rfl (Yld.rem rfl rfl (by omega) (by omega)) ?_ | refine WL.gyes rfl rfl rfl rfl (Yld.shl rfl rfl (by omega)) ?_ | refine WL.gyes rfl rfl rfl rfl (Yld.shr rfl rfl (by omega)) ?_ | refine WL.gyes rfl rfl rfl rfl (Yld.pure tab_ok rfl) ?_ | refine WL.gyes rfl rfl rfl rfl (Yld.fld flds_ok rfl rfl rfl) ?_ | refine WL.gyes rfl rfl rfl rfl (Yld.max2 rfl rfl) ?_ | refine WL.gyes rfl rfl rfl rfl (Yld.min2 rfl rfl) ?_ | refine WL.gyes rfl rfl rfl rfl (Yld.pickV rfl rfl rfl) ?_)
  generalize hb : decide ((48 : Int) ≤ (c.toNat : Int)) = b
  cases b
  · simp only [decide_eq_false_iff_not] at hb
    repeat (first | refine WC.seq ?_ | refine WC.block ?_ | refine WC.region ?_ | refine WL.nil ?_ | refine WX.then_normal ?_ | refine WC.skip ?_ | refine WC.exit ?_ | refine WC.ret ?_ | refine WX.then_exit ?_ | refine WX.then_ret ?_ | refine WX.block_normal ?_ | refine WX.block_ret ?_ | refine WX.block_same ?_ | refine WX.block_other rfl ?_ | refine WC.label ?_ | refine WC.scope ?_ | refine WX.scope_normal ?_ | refine WX.scope_ret ?_ | refine WX.scope_exit ?_ | refine WL.y rfl (Yld.add rfl rfl (by simp only [In]; omega)) ?_ | refine WL.y rfl (Yld.sub rfl rfl (by simp only [In]; omega)) ?_ | refine WL.y rfl (Yld.mul rfl rfl (by simp only [In]; omega)) ?_ | refine WL.y rfl (Yld.convB tab_ok rfl rfl rfl rfl) ?_ | refine WL.y rfl (Yld.conv tab_ok rfl rfl rfl (by simp only [In]; omega)) ?_ | refine WL.y rfl (Yld.quo rfl rfl (by omega) (by omega) (by simp only [In]; omega)) ?_ | refine WL.y rfl (Yld.rem rfl rfl (by omega) (by omega)) ?_ | refine WL.y rfl (Yld.shl rfl rfl (by omega)) ?_ | refine WL.y rfl (Yld.shr rfl rfl (by omega)) ?_ | refine WL.y rfl (Yld.pure tab_ok rfl) ?_ | refine WL.y rfl (Yld.fld flds_ok rfl rfl rfl) ?_ | refine WL.y rfl (Yld.max2 rfl rfl) ?_ | refine WL.y rfl (Yld.min2 rfl rfl) ?_ | refine WL.y rfl (Yld.pickV rfl rfl rfl) ?_ | refine WL.gno rfl rfl rfl rfl ?_ | refine WL.gyes rfl rfl rfl rfl (Yld.add rfl rfl (by simp only [In]; omega)) ?_ | refine WL.gyes rfl rfl rfl rfl (Yld.sub rfl rfl (by simp only [In]; omega)) ?_ | refine WL.gyes rfl rfl rfl rfl (Yld.mul rfl rfl (by simp only [In]; omega)) ?_ | refine WL.gyes rfl rfl rfl rfl (Yld.convB tab_ok rfl rfl rfl rfl) ?_ | refine WL.gyes rfl rfl rfl rfl (Yld.conv tab_ok rfl rfl rfl (by simp only [In]; omega)) ?_ | refine WL.gyes rfl rfl rfl rfl (Yld.quo rfl rfl (by omega) (by omega) (by simp only [In]; omega)) ?_ | refine WL.gyes rfl rfl rfl rfl (Yld.rem rfl rfl (by omega) (by omega)) ?_ | refine WL.gyes rfl rfl rfl rfl (Yld.shl rfl rfl (by omega)) ?_ | refine WL.gyes rfl rfl rfl rfl (Yld.shr rfl rfl (by omega)) ?_ | refine WL.gyes rfl rfl rfl rfl (Yld.pure tab_ok rfl) ?_ | refine WL.gyes rfl rfl rfl rfl (Yld.fld flds_ok rfl rfl rfl) ?_ | refine WL.gyes rfl rfl rfl rfl (Yld.max2 rfl rfl) ?_ | refine WL.gyes rfl rfl rfl rfl (Yld.min2 rfl rfl) ?_ | refine WL.gyes rfl rfl rfl rfl (Yld.pickV rfl rfl rfl) ?_)
    refine WC.cond rfl (fun h => by cases h) (fun _ => ?_)
    repeat (first | refine WC.seq ?_ | refine WC.block ?_ | refine WC.region ?_ | refine WL.nil ?_ | refine WX.then_normal ?_ | refine WC.skip ?_ | refine WC.exit ?_ | refine WC.ret ?_ | refine WX.then_exit ?_ | refine WX.then_ret ?_ | refine WX.block_normal ?_ | refine WX.block_ret ?_ | refine WX.block_same ?_ | refine WX.block_other rfl ?_ | refine WC.label ?_ | refine WC.scope ?_ | refine WX.scope_normal ?_ | refine WX.scope_ret ?_ | refine WX.scope_exit ?_ | refine WL.y rfl (Yld.add rfl rfl (by simp only [In]; omega)) ?_ | refine WL.y rfl (Yld.sub rfl rfl (by simp only [In]; omega)) ?_ | refine WL.y rfl (Yld.mul rfl rfl (by simp only [In]; omega)) ?_ | refine WL.y rfl (Yld.convB tab_ok rfl rfl rfl rfl) ?_ | refine WL.y rfl (Yld.conv tab_ok rfl rfl rfl (by simp only [In]; omega)) ?_ | refine WL.y rfl (Yld.quo rfl rfl (by omega) (by omega) (by simp only [In]; omega)) ?_ | refine WL.y rfl (Yld.rem rfl rfl (by omega) (by omega)) ?_ | refine WL.y rfl (Yld.shl rfl rfl (by omega)) ?_ | refine WL.y rfl (Yld.shr rfl rfl (by omega)) ?_ | refine WL.y rfl (Yld.pure tab_ok rfl) ?_ | refine WL.y rfl (Yld.fld flds_ok rfl rfl rfl) ?_ | refine WL.y rfl (Yld.max2 rfl rfl) ?_ | refine WL.y rfl (Yld.min2 rfl rfl) ?_ | refine WL.y rfl (Yld.pickV rfl rfl rfl) ?_ | refine WL.gno rfl rfl rfl rfl ?_ | refine WL.gyes rfl rfl rfl rfl (Yld.add rfl rfl (by simp only [In]; omega)) ?_ | refine WL.gyes rfl rfl rfl rfl (Yld.sub rfl rfl (by simp only [In]; omega)) ?_ | refine WL.gyes rfl rfl rfl rfl (Yld.mul rfl rfl (by simp only [In]; omega)) ?_ | refine WL.gyes rfl rfl rfl rfl (Yld.convB tab_ok rfl rfl rfl rfl) ?_ | refine WL.gyes rfl rfl rfl rfl (Yld.conv tab_ok rfl rfl rfl (by simp only [In]; omega)) ?_ | refine WL.gyes rfl rfl rfl rfl (Yld.quo rfl rfl (by omega) (by omega) (by simp only [In]; omega)) ?_ | refine WL.gyes rfl rfl rfl rfl (Yld.rem rfl rfl (by omega) (by omega)) ?_ | refine WL.gyes rfl rfl rfl rfl (Yld.shl rfl rfl (by omega)) ?_ | refine WL.gyes rfl rfl rfl rfl (Yld.shr rfl rfl (by omega)) ?_ | refine WL.gyes rfl rfl rfl rfl (Yld.pure tab_ok rfl) ?_ | refine WL.gyes rfl rfl rfl rfl (Yld.fld flds_ok rfl rfl rfl) ?_ | refine WL.gyes rfl rfl rfl rfl (Yld.max2 rfl rfl) ?_ | refine WL.gyes rfl rfl rfl rfl (Yld.min2 rfl rfl) ?_ | refine WL.gyes rfl rfl rfl rfl (Yld.pickV rfl rfl rfl) ?_)
    generalize hb2 : decide ((97 : Int) ≤ (c.toNat : Int)) = b2
    cases b2
    · repeat (first | refine WC.seq ?_ | refine WC.block ?_ | refine WC.region ?_ | refine WL.nil ?_ | refine WX.then_normal ?_ | refine WC.skip ?_ | refine WC.exit ?_ | refine WC.ret ?_ | refine WX.then_exit ?_ | refine WX.then_ret ?_ | refine WX.block_normal ?_ | refine WX.block_ret ?_ | refine WX.block_same ?_ | refine WX.block_other rfl ?_ | refine WC.label ?_ | refine WC.scope ?_ | refine WX.scope_normal ?_ | refine WX.scope_ret ?_ | refine WX.scope_exit ?_ | refine WL.y rfl (Yld.add rfl rfl (by simp only [In]; omega)) ?_ | refine WL.y rfl (Yld.sub rfl rfl (by simp only [In]; omega)) ?_ | refine WL.y rfl (Yld.mul rfl rfl (by simp only [In]; omega)) ?_ | refine WL.y rfl (Yld.convB tab_ok rfl rfl rfl rfl) ?_ | refine WL.y rfl (Yld.conv tab_ok rfl rfl rfl (by simp only [In]; omega)) ?_ | refine WL.y rfl (Yld.quo rfl rfl (by omega) (by omega) (by simp only [In]; omega)) ?_ | refine WL.y rfl (Yld.rem rfl rfl (by omega) (by omega)) ?_ | refine WL.y rfl (Yld.shl rfl rfl (by omega)) ?_ | refine WL.y rfl (Yld.shr rfl rfl (by omega)) ?_ | refine WL.y rfl (Yld.pure tab_ok rfl) ?_ | refine WL.y rfl (Yld.fld flds_ok rfl rfl rfl) ?_ | refine WL.y rfl (Yld.max2 rfl rfl) ?_ | refine WL.y rfl (Yld.min2 rfl rfl) ?_ | refine WL.y rfl (Yld.pickV rfl rfl rfl) ?_ | refine WL.gno rfl rfl rfl rfl ?_ | refine WL.gyes rfl rfl rfl rfl (Yld.add rfl rfl (by simp only [In]; omega)) ?_ | refine WL.gyes rfl rfl rfl rfl (Yld.sub rfl rfl (by simp only [In]; omega)) ?_ | refine WL.gyes rfl rfl rfl rfl (Yld.mul rfl rfl (by simp only [In]; omega)) ?_ | refine WL.gyes rfl rfl rfl rfl (Yld.convB tab_ok rfl rfl rfl rfl) ?_ | refine WL.gyes rfl rfl rfl rfl (Yld.conv tab_ok rfl rfl rfl (by simp only [In]; omega)) ?_ | refine WL.gyes rfl rfl rfl rfl (Yld.quo rfl rfl (by omega) (by omega) (by simp only [In]; omega)) ?_ | refine WL.gyes rfl rfl rfl rfl (Yld.rem rfl rfl (by omega) (by omega)) ?_ | refine WL.gyes rfl rfl rfl rfl (Yld.shl rfl rfl (by omega)) ?_ | refine WL.gyes rfl rfl rfl rfl (Yld.shr rfl rfl (by omega)) ?_ | refine WL.gyes rfl rfl rfl rfl (Yld.pure tab_ok rfl) ?_ | refine WL.gyes rfl rfl rfl rfl (Yld.fld flds_ok rfl rfl rfl) ?_ | refine WL.gyes rfl rfl rfl rfl (Yld.max2 rfl rfl) ?_ | refine WL.gyes rfl rfl rfl rfl (Yld.min2 rfl rfl) ?_ | refine WL.gyes rfl rfl rfl rfl (Yld.pickV rfl rfl rfl) ?_)
      refine WC.cond rfl (fun h => by cases h) (fun _ => ?_)
      repeat (first | refine WC.seq ?_ | refine WC.block ?_ | refine WC.region ?_ | refine WL.nil ?_ | refine WX.then_normal ?_ | refine WC.skip ?_ | refine WC.exit ?_ | refine WC.ret ?_ | refine WX.then_exit ?_ | refine WX.then_ret ?_ | refine WX.block_normal ?_ | refine WX.block_ret ?_ | refine WX.block_same ?_ | refine WX.block_other rfl ?_ | refine WC.label ?_ | refine WC.scope ?_ | refine WX.scope_normal ?_ | refine WX.scope_ret ?_ | refine WX.scope_exit ?_ | refine WL.y rfl (Yld.add rfl rfl (by simp only [In]; omega)) ?_ | refine WL.y rfl (Yld.sub rfl rfl (by simp only [In]; omega)) ?_ | refine WL.y rfl (Yld.mul rfl rfl (by simp only [In]; omega)) ?_ | refine WL.y rfl (Yld.convB tab_ok rfl rfl rfl rfl) ?_ | refine WL.y rfl (Yld.conv tab_ok rfl rfl rfl (by simp only [In]; omega)) ?_ | refine WL.y rfl (Yld.quo rfl rfl (by omega) (by omega) (by simp only [In]; omega)) ?_ | refine WL.y rfl (Yld.rem rfl rfl (by omega) (by omega)) ?_ | refine WL.y rfl (Yld.shl rfl rfl (by omega)) ?_ | refine WL.y rfl (Yld.shr rfl rfl (by omega)) ?_ | refine WL.y rfl (Yld.pure tab_ok rfl) ?_ | refine WL.y rfl (Yld.fld flds_ok rfl rfl rfl) ?_ | refine WL.y rfl (Yld.max2 rfl rfl) ?_ | refine WL.y rfl (Yld.min2 rfl rfl) ?_ | refine WL.y rfl (Yld.pickV rfl rfl rfl) ?_ | refine WL.gno rfl rfl rfl rfl ?_ | refine WL.gyes rfl rfl rfl rfl (Yld.add rfl rfl (by simp only [In]; omega)) ?_ | refine WL.gyes rfl rfl rfl rfl (Yld.sub rfl rfl (by simp only [In]; omega)) ?_ | refine WL.gyes rfl rfl rfl rfl (Yld.mul rfl rfl (by simp only [In]; omega)) ?_ | refine WL.gyes rfl rfl rfl rfl (Yld.convB tab_ok rfl rfl rfl rfl) ?_ | refine WL.gyes rfl rfl rfl rfl (Yld.conv tab_ok rfl rfl rfl (by simp only [In]; omega)) ?_ | refine WL.gyes rfl rfl rfl rfl (Yld.quo rfl rfl (by omega) (by omega) (by simp only [In]; omega)) ?_ | refine WL.gyes rfl rfl rfl rfl (Yld.rem rfl rfl (by omega) (by omega)) ?_ | refine WL.gyes rfl rfl rfl rfl (Yld.shl rfl rfl (by omega)) ?_ | refine WL.gyes rfl rfl rfl rfl (Yld.shr rfl rfl (by omega)) ?_ | refine WL.gyes rfl rfl rfl rfl (Yld.pure tab_ok rfl) ?_ | refine WL.gyes rfl rfl rfl rfl (Yld.fld flds_ok rfl rfl rfl) ?_ | refine WL.gyes rfl rfl rfl rfl (Yld.max2 rfl rfl) ?_ | refine WL.gyes rfl rfl rfl rfl (Yld.min2 rfl rfl) ?_ | refine WL.gyes rfl rfl rfl rfl (Yld.pickV rfl rfl rfl) ?_)
      have : digV c = none := by unfold digV; rw [if_neg (by omega), if_neg (by omega)]
      exact WX.ret2 rfl rfl rfl ⟨by rw [digR, this]; rfl, rfl⟩
    · simp only [decide_eq_true_eq] at hb2
      omega
  · simp only [decide_eq_true_eq] at hb
    repeat (first | refine WC.seq ?_ | refine WC.block ?_ | refine WC.region ?_ | refine WL.nil ?_ | refine WX.then_normal ?_ | refine WC.skip ?_ | refine WC.exit ?_ | refine WC.ret ?_ | refine WX.then_exit ?_ | refine WX.then_ret ?_ | refine WX.block_normal ?_ | refine WX.block_ret ?_ | refine WX.block_same ?_ | refine WX.block_other rfl ?_ | refine WC.label ?_ | refine WC.scope ?_ | refine WX.scope_normal ?_ | refine WX.scope_ret ?_ | refine WX.scope_exit ?_ | refine WL.y rfl (Yld.add rfl rfl (by simp only [In]; omega)) ?_ | refine WL.y rfl (Yld.sub rfl rfl (by simp only [In]; omega)) ?_ | refine WL.y rfl (Yld.mul rfl rfl (by simp only [In]; omega)) ?_ | refine WL.y rfl (Yld.convB tab_ok rfl rfl rfl rfl) ?_ | refine WL.y rfl (Yld.conv tab_ok rfl rfl rfl (by simp only [In]; omega)) ?_ | refine WL.y rfl (Yld.quo rfl rfl (by omega) (by omega) (by simp only [In]; omega)) ?_ | refine WL.y rfl (Yld.rem rfl rfl (by omega) (by omega)) ?_ | refine WL.y rfl (Yld.shl rfl rfl (by omega)) ?_ | refine WL.y rfl (Yld.shr rfl rfl (by omega)) ?_ | refine WL.y rfl (Yld.pure tab_ok rfl) ?_ | refine WL.y rfl (Yld.fld flds_ok rfl rfl rfl) ?_ | refine WL.y rfl (Yld.max2 rfl rfl) ?_ | refine WL.y rfl (Yld.min2 rfl rfl) ?_ | refine WL.y rfl (Yld.pickV rfl rfl rfl) ?_ | refine WL.gno rfl rfl rfl rfl ?_ | refine WL.gyes rfl rfl rfl rfl (Yld.add rfl rfl (by simp only [In]; omega)) ?_ | refine WL.gyes rfl rfl rfl rfl (Yld.sub rfl rfl (by simp only [In]; omega)) ?_ | refine WL.gyes rfl rfl rfl rfl (Yld.mul rfl rfl (by simp only [In]; omega)) ?_ | refine WL.gyes rfl rfl rfl rfl (Yld.convB tab_ok rfl rfl rfl rfl) ?_ | refine WL.gyes rfl rfl rfl rfl (Yld.conv tab_ok rfl rfl rfl (by simp only [In]; omega)) ?_ | refine WL.gyes rfl rfl rfl rfl (Yld.quo rfl rfl (by omega) (by omega) (by simp only [In]; omega)) ?_ | refine WL.gyes rfl rfl rfl rfl (Yld.rem rfl rfl (by omega) (by omega)) ?_ | refine WL.gyes rfl rfl rfl rfl (Yld.shl rfl rfl (by omega)) ?_ | refine WL.gyes rfl rfl rfl rfl (Yld.shr rfl rfl (by omega)) ?_ | refine WL.gyes rfl rfl rfl rfl (Yld.pure tab_ok rfl) ?_ | refine WL.gyes rfl rfl rfl rfl (Yld.fld flds_ok rfl rfl rfl) ?_ | refine WL.gyes rfl rfl rfl rfl (Yld.max2 rfl rfl) ?_ | refine WL.gyes rfl rfl rfl rfl (Yld.min2 rfl rfl) ?_ | refine WL.gyes rfl rfl rfl rfl (Yld.pickV rfl rfl rfl) ?_)
    refine WC.cond rfl (fun h => ?_) (fun h => ?_)
    · simp only [cond_true, decide_eq_true_eq] at h
      repeat (first | refine WC.seq ?_ | refine WC.block ?_ | refine WC.region ?_ | refine WL.nil ?_ | refine WX.then_normal ?_ | refine WC.skip ?_ | refine WC.exit ?_ | refine WC.ret ?_ | refine WX.then_exit ?_ | refine WX.then_ret ?_ | refine WX.block_normal ?_ | refine WX.block_ret ?_ | refine WX.block_same ?_ | refine WX.block_other rfl ?_ | refine WC.label ?_ | refine WC.scope ?_ | refine WX.scope_normal ?_ | refine WX.scope_ret ?_ | refine WX.scope_exit ?_ | refine WL.y rfl (Yld.add rfl rfl (by simp only [In]; omega)) ?_ | refine WL.y rfl (Yld.sub rfl rfl (by simp only [In]; omega)) ?_ | refine WL.y rfl (Yld.mul rfl rfl (by simp only [In]; omega)) ?_ | refine WL.y rfl (Yld.convB tab_ok rfl rfl rfl rfl) ?_ | refine WL.y rfl (Yld.conv tab_ok rfl rfl rfl (by simp only [In]; omega)) ?_ | refine WL.y rfl (Yld.quo rfl rfl (by omega) (by omega) (by simp only [In]; omega)) ?_ | refine WL.y rfl (Yld.rem rfl rfl (by omega) (by omega)) ?_ | refine WL.y rfl (Yld.shl rfl rfl (by omega)) ?_ | refine WL.y rfl (Yld.shr rfl rfl (by omega)) ?_ | refine WL.y rfl (Yld.pure tab_ok rfl) ?_ | refine WL.y rfl (Yld.fld flds_ok rfl rfl rfl) ?_ | refine WL.y rfl (Yld.max2 rfl rfl) ?_ | refine WL.y rfl (Yld.min2 rfl rfl) ?_ | refine WL.y rfl (Yld.pickV rfl rfl rfl) ?_ | refine WL.gno rfl rfl rfl rfl ?_ | refine WL.gyes rfl rfl rfl rfl (Yld.add rfl rfl (by simp only [In]; omega)) ?_ | refine WL.gyes rfl rfl rfl rfl (Yld.sub rfl rfl (by simp only [In]; omega)) ?_ | refine WL.gyes rfl rfl rfl rfl (Yld.mul rfl rfl (by simp only [In]; omega)) ?_ | refine WL.gyes rfl rfl rfl rfl (Yld.convB tab_ok rfl rfl rfl rfl) ?_ | refine WL.gyes rfl rfl rfl rfl (Yld.conv tab_ok rfl rfl rfl (by simp only [In]; omega)) ?_ | refine WL.gyes rfl rfl rfl rfl (Yld.quo rfl rfl (by omega) (by omega) (by simp only [In]; omega)) ?_ | refine WL.gyes rfl rfl rfl rfl (Yld.rem rfl rfl (by omega) (by omega)) ?_ | refine WL.gyes rfl rfl rfl rfl (Yld.shl rfl rfl (by omega)) ?_ | refine WL.gyes rfl rfl rfl rfl (Yld.shr rfl rfl (by omega)) ?_ | refine WL.gyes rfl rfl rfl rfl (Yld.pure tab_ok rfl) ?_ | refine WL.gyes rfl rfl rfl rfl (Yld.fld flds_ok rfl rfl rfl) ?_ | refine WL.gyes rfl rfl rfl rfl (Yld.max2 rfl rfl) ?_ | refine WL.gyes rfl rfl rfl rfl (Yld.min2 rfl rfl) ?_ | refine WL.gyes rfl rfl rfl rfl (Yld.pickV rfl rfl rfl) ?_)
      have : digV c = some (c.toNat - 48) := by unfold digV; rw [if_pos (by omega)]
      refine WX.ret2 rfl rfl rfl ⟨?_, rfl⟩
      rw [digR, this, Option.getD_some, show ((c.toNat - 48 : Nat) : Int) = (c.toNat : Int) - 48 by omega]
      rfl
    · simp only [cond_true, decide_eq_false_iff_not] at h
      repeat (first | refine WC.seq ?_ | refine WC.block ?_ | refine WC.region ?_ | refine WL.nil ?_ | refine WX.then_normal ?_ | refine WC.skip ?_ | refine WC.exit ?_ | refine WC.ret ?_ | refine WX.then_exit ?_ | refine WX.then_ret ?_ | refine WX.block_normal ?_ | refine WX.block_ret ?_ | refine WX.block_same ?_ | refine WX.block_other rfl ?_ | refine WC.label ?_ | refine WC.scope ?_ | refine WX.scope_normal ?_ | refine WX.scope_ret ?_ | refine WX.scope_exit ?_ | refine WL.y rfl (Yld.add rfl rfl (by simp only [In]; omega)) ?_ | refine WL.y rfl (Yld.sub rfl rfl (by simp only [In]; omega)) ?_ | refine WL.y rfl (Yld.mul rfl rfl (by simp only [In]; omega)) ?_ | refine WL.y rfl (Yld.convB tab_ok rfl rfl rfl rfl) ?_ | refine WL.y rfl (Yld.conv tab_ok rfl rfl rfl (by simp only [In]; omega)) ?_ | refine WL.y rfl (Yld.quo rfl rfl (by omega) (by omega) (by simp only [In]; omega)) ?_ | refine WL.y rfl (Yld.rem rfl rfl (by omega) (by omega)) ?_ | refine WL.y rfl (Yld.shl rfl rfl (by omega)) ?_ | refine WL.y rfl (Yld.shr rfl rfl (by omega)) ?_ | refine WL.y rfl (Yld.pure tab_ok rfl) ?_ | refine WL.y rfl (Yld.fld flds_ok rfl rfl rfl) ?_ | refine WL.y rfl (Yld.max2 rfl rfl) ?_ | refine WL.y rfl (Yld.min2 rfl rfl) ?_ | refine WL.y rfl (Yld.pickV rfl rfl rfl) ?_ | refine WL.gno rfl rfl rfl rfl ?_ | refine WL.gyes rfl rfl rfl rfl (Yld.add rfl rfl (by simp only [In]; omega)) ?_ | refine WL.gyes rfl rfl rfl rfl (Yld.sub rfl rfl (by simp only [In]; omega)) ?_ | refine WL.gyes rfl rfl rfl rfl (Yld.mul rfl rfl (by simp only [In]; omega)) ?_ | refine WL.gyes rfl rfl rfl rfl (Yld.convB tab_ok rfl rfl rfl rfl) ?_ | refine WL.gyes rfl rfl rfl rfl (Yld.conv tab_ok rfl rfl rfl (by simp only [In]; omega)) ?_ | refine WL.gyes rfl rfl rfl rfl (Yld.quo rfl rfl (by omega) (by omega) (by simp only [In]; omega)) ?_ | refine WL.gyes rfl rfl rfl rfl (Yld.rem rfl rfl (by omega) (by omega)) ?_ | refine WL.gyes rfl rfl rfl rfl (Yld.shl rfl rfl (by omega)) ?_ | refine WL.gyes rfl rfl rfl rfl (Yld.shr rfl rfl (by omega)) ?_ | refine WL.gyes rfl rfl rfl rfl (Yld.pure tab_ok rfl) ?_ | refine WL.gyes rfl rfl rfl rfl (Yld.fld flds_ok rfl rfl rfl) ?_ | refine WL.gyes rfl rfl rfl rfl (Yld.max2 rfl rfl) ?_ | refine WL.gyes rfl rfl rfl rfl (Yld.min2 rfl rfl) ?_ | refine WL.gyes rfl rfl rfl rfl (Yld.pickV rfl rfl rfl) ?_)
      generalize hb2 : decide ((97 : Int) ≤ (c.toNat : Int)) = b2
      cases b2
      · simp only [decide_eq_false_iff_not] at hb2
        repeat (first | refine WC.seq ?_ | refine WC.block ?_ | refine WC.region ?_ | refine WL.nil ?_ | refine WX.then_normal ?_ | refine WC.skip ?_ | refine WC.exit ?_ | refine WC.ret ?_ | refine WX.then_exit ?_ | refine WX.then_ret ?_ | refine WX.block_normal ?_ | refine WX.block_ret ?_ | refine WX.block_same ?_ | refine WX.block_other rfl ?_ | refine WC.label ?_ | refine WC.scope ?_ | refine WX.scope_normal ?_ | refine WX.scope_ret ?_ | refine WX.scope_exit ?_ | refine WL.y rfl (Yld.add rfl rfl (by simp only [In]; omega)) ?_ | refine WL.y rfl (Yld.sub rfl rfl (by simp only [In]; omega)) ?_ | refine WL.y rfl (Yld.mul rfl rfl (by simp only [In]; omega)) ?_ | refine WL.y rfl (Yld.convB tab_ok rfl rfl rfl rfl) ?_ | refine WL.y rfl (Yld.conv tab_ok rfl rfl rfl (by simp only [In]; omega)) ?_ | refine WL.y rfl (Yld.quo rfl rfl (by omega) (by omega) (by simp only [In]; omega)) ?_ | refine WL.y rfl (Yld.rem rfl rfl (by omega) (by omega)) ?_ | refine WL.y rfl (Yld.shl rfl rfl (by omega)) ?_ | refine WL.y rfl (Yld.shr rfl rfl (by omega)) ?_ | refine WL.y rfl (Yld.pure tab_ok rfl) ?_ | refine WL.y rfl (Yld.fld flds_ok rfl rfl rfl) ?_ | refine WL.y rfl (Yld.max2 rfl rfl) ?_ | refine WL.y rfl (Yld.min2 rfl rfl) ?_ | refine WL.y rfl (Yld.pickV rfl rfl rfl) ?_ | refine WL.gno rfl rfl rfl rfl ?_ | refine WL.gyes rfl rfl rfl rfl (Yld.add rfl rfl (by simp only [In]; omega)) ?_ | refine WL.gyes rfl rfl rfl rfl (Yld.sub rfl rfl (by simp only [In]; omega)) ?_ | refine WL.gyes rfl rfl rfl rfl (Yld.mul rfl rfl (by simp only [In]; omega)) ?_ | refine WL.gyes rfl rfl rfl rfl (Yld.convB tab_ok rfl rfl rfl rfl) ?_ | refine WL.gyes rfl rfl rfl rfl (Yld.conv tab_ok rfl rfl rfl (by simp only [In]; omega)) ?_ | refine WL.gyes rfl rfl rfl rfl (Yld.quo rfl rfl (by omega) (by omega) (by simp only [In]; omega)) ?_ | refine WL.gyes rfl rfl rfl rfl (Yld.rem rfl rfl (by omega) (by omega)) ?_ | refine WL.gyes rfl rfl rfl rfl (Yld.shl rfl rfl (by omega)) ?_ | refine WL.gyes rfl rfl rfl rfl (Yld.shr rfl rfl (by omega)) ?_ | refine WL.gyes rfl rfl rfl rfl (Yld.pure tab_ok rfl) ?_ | refine WL.gyes rfl rfl rfl rfl (Yld.fld flds_ok rfl rfl rfl) ?_ | refine WL.gyes rfl rfl rfl rfl (Yld.max2 rfl rfl) ?_ | refine WL.gyes rfl rfl rfl rfl (Yld.min2 rfl rfl) ?_ | refine WL.gyes rfl rfl rfl rfl (Yld.pickV rfl rfl rfl) ?_)
        refine WC.cond rfl (fun h => by cases h) (fun _ => ?_)
        repeat (first | refine WC.seq ?_ | refine WC.block ?_ | refine WC.region ?_ | refine WL.nil ?_ | refine WX.then_normal ?_ | refine WC.skip ?_ | refine WC.exit ?_ | refine WC.ret ?_ | refine WX.then_exit ?_ | refine WX.then_ret ?_ | refine WX.block_normal ?_ | refine WX.block_ret ?_ | refine WX.block_same ?_ | refine WX.block_other rfl ?_ | refine WC.label ?_ | refine WC.scope ?_ | refine WX.scope_normal ?_ | refine WX.scope_ret ?_ | refine WX.scope_exit ?_ | refine WL.y rfl (Yld.add rfl rfl (by simp only [In]; omega)) ?_ | refine WL.y rfl (Yld.sub rfl rfl (by simp only [In]; omega)) ?_ | refine WL.y rfl (Yld.mul rfl rfl (by simp only [In]; omega)) ?_ | refine WL.y rfl (Yld.convB tab_ok rfl rfl rfl rfl) ?_ | refine WL.y rfl (Yld.conv tab_ok rfl rfl rfl (by simp only [In]; omega)) ?_ | refine WL.y rfl (Yld.quo rfl rfl (by omega) (by omega) (by simp only [In]; omega)) ?_ | refine WL.y rfl (Yld.rem rfl rfl (by omega) (by omega)) ?_ | refine WL.y rfl (Yld.shl rfl rfl (by omega)) ?_ | refine WL.y rfl (Yld.shr rfl rfl (by omega)) ?_ | refine WL.y rfl (Yld.pure tab_ok rfl) ?_ | refine WL.y rfl (Yld.fld flds_ok rfl rfl rfl) ?_ | refine WL.y rfl (Yld.max2 rfl rfl) ?_ | refine WL.y rfl (Yld.min2 rfl rfl) ?_ | refine WL.y rfl (Yld.pickV rfl rfl rfl) ?_ | refine WL.gno rfl rfl rfl rfl ?_ | refine WL.gyes rfl rfl rfl rfl (Yld.add rfl rfl (by simp only [In]; omega)) ?_ | refine WL.gyes rfl rfl rfl rfl (Yld.sub rfl rfl (by simp only [In]; omega)) ?_ | refine WL.gyes rfl rfl rfl rfl (Yld.mul rfl rfl (by simp only [In]; omega)) ?_ | refine WL.gyes rfl rfl rfl rfl (Yld.convB tab_ok rfl rfl rfl rfl) ?_ | refine WL.gyes rfl rfl rfl rfl (Yld.conv tab_ok rfl rfl rfl (by simp only [In]; omega)) ?_ | refine WL.gyes rfl rfl rfl rfl (Yld.quo rfl rfl (by omega) (by omega) (by simp only [In]; omega)) ?_ | refine WL.gyes rfl rfl rfl rfl (Yld.rem rfl rfl (by omega) (by omega)) ?_ | refine WL.gyes rfl rfl rfl rfl (Yld.shl rfl rfl (by omega)) ?_ | refine WL.gyes rfl rfl rfl rfl (Yld.shr rfl rfl (by omega)) ?_ | refine WL.gyes rfl rfl rfl rfl (Yld.pure tab_ok rfl) ?_ | refine WL.gyes rfl rfl rfl rfl (Yld.fld flds_ok rfl rfl rfl) ?_ | refine WL.gyes rfl rfl rfl rfl (Yld.max2 rfl rfl) ?_ | refine WL.gyes rfl rfl rfl rfl (Yld.min2 rfl rfl) ?_ | refine WL.gyes rfl rfl rfl rfl (Yld.pickV rfl rfl rfl) ?_)
        have : digV c = none := by unfold digV; rw [if_neg (by omega), if_neg (by omega)]
        exact WX.ret2 rfl rfl rfl ⟨by rw [digR, this]; rfl, rfl⟩
      · simp only [decide_eq_true_eq] at hb2
        repeat (first | refine WC.seq ?_ | refine WC.block ?_ | refine WC.region ?_ | refine WL.nil ?_ | refine WX.then_normal ?_ | refine WC.skip ?_ | refine WC.exit ?_ | refine WC.ret ?_ | refine WX.then_exit ?_ | refine WX.then_ret ?_ | refine WX.block_normal ?_ | refine WX.block_ret ?_ | refine WX.block_same ?_ | refine WX.block_other rfl ?_ | refine WC.label ?_ | refine WC.scope ?_ | refine WX.scope_normal ?_ | refine WX.scope_ret ?_ | refine WX.scope_exit ?_ | refine WL.y rfl (Yld.add rfl rfl (by simp only [In]; omega)) ?_ | refine WL.y rfl (Yld.sub rfl rfl (by simp only [In]; omega)) ?_ | refine WL.y rfl (Yld.mul rfl rfl (by simp only [In]; omega)) ?_ | refine WL.y rfl (Yld.convB tab_ok rfl rfl rfl rfl) ?_ | refine WL.y rfl (Yld.conv tab_ok rfl rfl rfl (by simp only [In]; omega)) ?_ | refine WL.y rfl (Yld.quo rfl rfl (by omega) (by omega) (by simp only [In]; omega)) ?_ | refine WL.y rfl (Yld.rem rfl rfl (by omega) (by omega)) ?_ | refine WL.y rfl (Yld.shl rfl rfl (by omega)) ?_ | refine WL.y rfl (Yld.shr rfl rfl (by omega)) ?_ | refine WL.y rfl (Yld.pure tab_ok rfl) ?_ | refine WL.y rfl (Yld.fld flds_ok rfl rfl rfl) ?_ | refine WL.y rfl (Yld.max2 rfl rfl) ?_ | refine WL.y rfl (Yld.min2 rfl rfl) ?_ | refine WL.y rfl (Yld.pickV rfl rfl rfl) ?_ | refine WL.gno rfl rfl rfl rfl ?_ | refine WL.gyes rfl rfl rfl rfl (Yld.add rfl rfl (by simp only [In]; omega)) ?_ | refine WL.gyes rfl rfl rfl rfl (Yld.sub rfl rfl (by simp only [In]; omega)) ?_ | refine WL.gyes rfl rfl rfl rfl (Yld.mul rfl rfl (by simp only [In]; omega)) ?_ | refine WL.gyes rfl rfl rfl rfl (Yld.convB tab_ok rfl rfl rfl rfl) ?_ | refine WL.gyes rfl rfl rfl rfl (Yld.conv tab_ok rfl rfl rfl (by simp only [In]; omega)) ?_ | refine WL.gyes rfl rfl rfl rfl (Yld.quo rfl rfl (by omega) (by omega) (by simp only [In]; omega)) ?_ | refine WL.gyes rfl rfl rfl rfl (Yld.rem rfl rfl (by omega) (by omega)) ?_ | refine WL.gyes rfl rfl rfl rfl (Yld.shl rfl rfl (by omega)) ?_ | refine WL.gyes rfl rfl rfl rfl (Yld.shr rfl rfl (by omega)) ?_ | refine WL.gyes rfl rfl rfl rfl (Yld.pure tab_ok rfl) ?_ | refine WL.gyes rfl rfl rfl rfl (Yld.fld flds_ok rfl rfl rfl) ?_ | refine WL.gyes rfl rfl rfl rfl (Yld.max2 rfl rfl) ?_ | refine WL.gyes rfl rfl rfl rfl (Yld.min2 rfl rfl) ?_ | refine WL.gyes rfl rfl rfl rfl (Yld.pickV rfl rfl rfl) ?_)
        refine WC.cond rfl (fun h => ?_) (fun h => ?_)
        · simp only [cond_true, decide_eq_true_eq] at h
          repeat (first | refine WC.seq ?_ | refine WC.block ?_ | refine WC.region ?_ | refine WL.nil ?_ | refine WX.then_normal ?_ | refine WC.skip ?_ | refine WC.exit ?_ | refine WC.ret ?_ | refine WX.then_exit ?_ | refine WX.then_ret ?_ | refine WX.block_normal ?_ | refine WX.block_ret ?_ | refine WX.block_same ?_ | refine WX.block_other rfl ?_ | refine WC.label ?_ | refine WC.scope ?_ | refine WX.scope_normal ?_ | refine WX.scope_ret ?_ | refine WX.scope_exit ?_ | refine WL.y rfl (Yld.add rfl rfl (by simp only [In]; omega)) ?_ | refine WL.y rfl (Yld.sub rfl rfl (by simp only [In]; omega)) ?_ | refine WL.y rfl (Yld.mul rfl rfl (by simp only [In]; omega)) ?_ | refine WL.y rfl (Yld.convB tab_ok rfl rfl rfl rfl) ?_ | refine WL.y rfl (Yld.conv tab_ok rfl rfl rfl (by simp only [In]; omega)) ?_ | refine WL.y rfl (Yld.quo rfl rfl (by omega) (by omega) (by simp only [In]; omega)) ?_ | refine WL.y rfl (Yld.rem rfl rfl (by omega) (by omega)) ?_ | refine WL.y rfl (Yld.shl rfl rfl (by omega)) ?_ | refine WL.y rfl (Yld.shr rfl rfl (by omega)) ?_ | refine WL.y rfl (Yld.pure tab_ok rfl) ?_ | refine WL.y rfl (Yld.fld flds_ok rfl rfl rfl) ?_ | refine WL.y rfl (Yld.max2 rfl rfl) ?_ | refine WL.y rfl (Yld.min2 rfl rfl) ?_ | refine WL.y rfl (Yld.pickV rfl rfl rfl) ?_ | refine WL.gno rfl rfl rfl rfl ?_ | refine WL.gyes rfl rfl rfl rfl (Yld.add rfl rfl (by simp only [In]; omega)) ?_ | refine WL.gyes rfl rfl rfl rfl (Yld.sub rfl rfl (by simp only [In]; omega)) ?_ | refine WL.gyes rfl rfl rfl rfl (Yld.mul rfl rfl (by simp only [In]; omega)) ?_ | refine WL.gyes rfl rfl rfl rfl (Yld.convB tab_ok rfl rfl rfl rfl) ?_ | refine WL.gyes rfl rfl rfl rfl (Yld.conv tab_ok rfl rfl rfl (by simp only [In]; omega)) ?_ | refine WL.gyes rfl rfl rfl rfl (Yld.quo rfl rfl (by omega) (by omega) (by simp only [In]; omega)) ?_ | refine WL.gyes rfl rfl rfl rfl (Yld.rem rfl rfl (by omega) (by omega)) ?_ | refine WL.gyes rfl rfl rfl rfl (Yld.shl rfl rfl (by omega)) ?_ | refine WL.gyes rfl rfl rfl rfl (Yld.shr rfl rfl (by omega)) ?_ | refine WL.gyes rfl rfl rfl rfl (Yld.pure tab_ok rfl) ?_ | refine WL.gyes rfl rfl rfl rfl (Yld.fld flds_ok rfl rfl rfl) ?_ | refine WL.gyes rfl rfl rfl rfl (Yld.max2 rfl rfl) ?_ | refine WL.gyes rfl rfl rfl rfl (Yld.min2 rfl rfl) ?_ | refine WL.gyes rfl rfl rfl rfl (Yld.pickV rfl rfl rfl) ?_)
          have : digV c = some (c.toNat - 87) := by unfold digV; rw [if_neg (by omega), if_pos (by omega)]
          refine WX.ret2 rfl rfl rfl ⟨?_, rfl⟩
          rw [digR, this, Option.getD_some, show ((c.toNat - 87 : Nat) : Int) = (c.toNat : Int) - 97 + 10 by omega]
          rfl
        · simp only [cond_true, decide_eq_false_iff_not] at h
          repeat (first | refine WC.seq ?_ | refine WC.block ?_ | refine WC.region ?_ | refine WL.nil ?_ | refine WX.then_normal ?_ | refine WC.skip ?_ | refine WC.exit ?_ | refine WC.ret ?_ | refine WX.then_exit ?_ | refine WX.then_ret ?_ | refine WX.block_normal ?_ | refine WX.block_ret ?_ | refine WX.block_same ?_ | refine WX.block_other rfl ?_ | refine WC.label ?_ | refine WC.scope ?_ | refine WX.scope_normal ?_ | refine WX.scope_ret ?_ | refine WX.scope_exit ?_ | refine WL.y rfl (Yld.add rfl rfl (by simp only [In]; omega)) ?_ | refine WL.y rfl (Yld.sub rfl rfl (by simp only [In]; omega)) ?_ | refine WL.y rfl (Yld.mul rfl rfl (by simp only [In]; omega)) ?_ | refine WL.y rfl (Yld.convB tab_ok rfl rfl rfl rfl) ?_ | refine WL.y rfl (Yld.conv tab_ok rfl rfl rfl (by simp only [In]; omega)) ?_ | refine WL.y rfl (Yld.quo rfl rfl (by omega) (by omega) (by simp only [In]; omega)) ?_ | refine WL.y rfl (Yld.rem rfl rfl (by omega) (by omega)) ?_ | refine WL.y rfl (Yld.shl rfl rfl (by omega)) ?_ | refine WL.y rfl (Yld.shr rfl rfl (by omega)) ?_ | refine WL.y rfl (Yld.pure tab_ok rfl) ?_ | refine WL.y rfl (Yld.fld flds_ok rfl rfl rfl) ?_ | refine WL.y rfl (Yld.max2 rfl rfl) ?_ | refine WL.y rfl (Yld.min2 rfl rfl) ?_ | refine WL.y rfl (Yld.pickV rfl rfl rfl) ?_ | refine WL.gno rfl rfl rfl rfl ?_ | refine WL.gyes rfl rfl rfl rfl (Yld.add rfl rfl (by simp only [In]; omega)) ?_ | refine WL.gyes rfl rfl rfl rfl (Yld.sub rfl rfl (by simp only [In]; omega)) ?_ | refine WL.gyes rfl rfl rfl rfl (Yld.mul rfl rfl (by simp only [In]; omega)) ?_ | refine WL.gyes rfl rfl rfl rfl (Yld.convB tab_ok rfl rfl rfl rfl) ?_ | refine WL.gyes rfl rfl rfl rfl (Yld.conv tab_ok rfl rfl rfl (by simp only [In]; omega)) ?_ | refine WL.gyes rfl rfl rfl rfl (Yld.quo rfl rfl (by omega) (by omega) (by simp only [In]; omega)) ?_ | refine WL.gyes rfl rfl rfl rfl (Yld.rem rfl rfl (by omega) (by omega)) ?_ | refine WL.gyes rfl rfl rfl rfl (Yld.shl rfl rfl (by omega)) ?_ | refine WL.gyes rfl rfl rfl rfl (Yld.shr rfl rfl (by omega)) ?_ | refine WL.gyes rfl rfl rfl rfl (Yld.pure tab_ok rfl) ?_ | refine WL.gyes rfl rfl rfl rfl (Yld.fld flds_ok rfl rfl rfl) ?_ | refine WL.gyes rfl rfl rfl rfl (Yld.max2 rfl rfl) ?_ | refine WL.gyes rfl rfl rfl rfl (Yld.min2 rfl rfl) ?_ | refine WL.gyes rfl rfl rfl rfl (Yld.pickV rfl rfl rfl) ?_)
          have : digV c = none := by unfold digV; rw [if_neg (by omega), if_neg (by omega)]
          exact WX.ret2 rfl rfl rfl ⟨by rw [digR, this]; rfl, rfl⟩
/-- the bytes that the first n pairs of digits say -/
def parN (s : List UInt8) : Nat → Option (List UInt8)
  | 0 => some []
  | n + 1 => match parN s n, digV (s.getD (2 * n) 0), digV (s.getD (2 * n + 1) 0) with
    | some l, some a, some b => some (l ++ [u8v (bits .or .u8 (shlV .u8 (a : Int) 4) (b : Int))])
    | _, _, _ => none
def parS (s : List UInt8) : Option (List UInt8) := if s.length = 64 then parN s 32 else none
theorem parN_len (s : List UInt8) : ∀ n l, parN s n = some l → l.length = n
  | 0, l, h => by injection h with h; subst h; rfl
  | n + 1, l, h => by
    unfold parN at h
    split at h
    · rename_i k a b hk _ _
      injection h with h
      subst h
      simp [parN_len s n _ hk]
    · cases h
theorem parN_none (s : List UInt8) (n : Nat) (h : parN s n = none) : ∀ k, parN s (n + k) = none
  | 0 => h
  | k + 1 => by rw [← Nat.add_assoc, parN, parN_none s n h k]
theorem cell_grown {w w' : World} {p : Addr} {v : Value} {row : Option Nat} (hg : w.grownBy w' row) (hv : w.cell? p = some v) (hr : row ≠ some p.block) : w'.cell? p = some v := hg.cell hv (fun e => hr e.symm)
theorem fill_set (l : List UInt8) (i n : Nat) (x : UInt8) (hl : l.length = i) (hi : i < n) : (l.map vb ++ List.replicate (n - i) (Value.int .u8 0)).set i (vb x) = (l ++ [x]).map vb ++ List.replicate (n - (i + 1)) (Value.int .u8 0) := by
  subst hl
  rw [List.set_append_right _ _ (by simp), List.length_map, Nat.sub_self, show n - l.length = (n - (l.length + 1)) + 1 by omega, List.replicate_succ, List.set_cons_zero]
  simp
/-- what Parse answers: the digest, and no error; or nothing, and the error E -/
def parR (E : Value) (s : List UInt8) : Value := match parS s with
  | some l => .tuple #[.agg ⟨l.map vb⟩, .nilIface]
  | none => .tuple #[.agg ⟨(List.replicate 32 (0 : UInt8)).map vb⟩, E]
theorem or_in {a b : Nat} (ha : a < 16) (hb : b < 16) : (u8v (bits .or .u8 (shlV .u8 (a : Int) 4) (b : Int))).toNat = bits .or .u8 (shlV .u8 (a : Int) 4) (b : Int) := by
  have : ∀ a b : Fin 16, ((u8v (bits .or .u8 (shlV .u8 (a.val : Int) 4) (b.val : Int))).toNat : Int) = bits .or .u8 (shlV .u8 (a.val : Int) 4) (b.val : Int) := by decide
  exact this ⟨a, ha⟩ ⟨b, hb⟩
theorem parse_fn (s : List UInt8) (E : Value) (w : World) (hE : w.cell? ⟨0, 0, none⟩ = some E) :
    Fn Tryd.prog 10 ⟨[vs s]⟩ w fun v w' => v = parR E s ∧ w.grownBy w' none := by
  refine Fn.enter (by kernel_rfl) Tryd.func10 rfl Tryd.ntmps10 rfl ?_
  repeat (first | refine WC.seq ?_ | refine WC.block ?_ | refine WC.region ?_ | refine WL.nil ?_ | refine WX.then_normal ?_ | refine WC.skip ?_ | refine WC.exit ?_ | refine WC.ret ?_ | refine WX.then_exit ?_ | refine WX.then_ret ?_ | refine WX.block_normal ?_ | refine WX.block_ret ?_ | refine WX.block_same ?_ | refine WX.block_other rfl ?_ | refine WC.label ?_ | refine WC.scope ?_ | refine WX.scope_normal ?_ | refine WX.scope_ret ?_ | refine WX.scope_exit ?_ | refine WL.y rfl (Yld.add rfl rfl (by simp only [In]; omega)) ?_ | refine WL.y rfl (Yld.sub rfl rfl (by simp only [In]; omega)) ?_ | refine WL.y rfl (Yld.mul rfl rfl (by simp only [In]; omega)) ?_ | refine WL.y rfl (Yld.convB tab_ok rfl rfl rfl rfl) ?_ | refine WL.y rfl (Yld.conv tab_ok rfl rfl rfl (by simp only [In]; omega)) ?_ | refine WL.y rfl (Yld.quo rfl rfl (by omega) (by omega) (by simp only [In]; omega)) ?_ | refine WL.y rfl (Yld.rem rfl rfl (by omega) (by omega)) ?_ | refine WL.y rfl (Yld.shl rfl rfl (by omega)) ?_ | refine WL.y rfl (Yld.shr rfl rfl (by omega)) ?_ | refine WL.y rfl (Yld.pure tab_ok rfl) ?_ | refine WL.y rfl (Yld.fld flds_ok rfl rfl rfl) ?_ | refine WL.y rfl (Yld.max2 rfl rfl) ?_ | refine WL.y rfl (Yld.min2 rfl rfl) ?_ | refine WL.y rfl (Yld.pickV rfl rfl rfl) ?_ | refine WL.gno rfl rfl rfl rfl ?_ | refine WL.gyes rfl rfl rfl rfl (Yld.add rfl rfl (by simp only [In]; omega)) ?_ | refine WL.gyes rfl rfl rfl rfl (Yld.sub rfl rfl (by simp only [In]; omega)) ?_ | refine WL.gyes rfl rfl rfl rfl (Yld.mul rfl rfl (by simp only [In]; omega)) ?_ | refine WL.gyes rfl rfl rfl rfl (Yld.convB tab_ok rfl rfl rfl rfl) ?_ | refine WL.gyes rfl rfl rfl rfl (Yld.conv tab_ok rfl rfl rfl (by simp only [In]; omega)) ?_ | refine WL.gyes rfl rfl rfl rfl (Yld.quo rfl rfl (by omega) (by omega) (by simp only [In]; omega)) ?_ | refine WL.gyes rfl rfl rfl rfl (Yld.rem rfl rfl (by omega) (by omega)) ?_ | refine WL.gyes rfl rfl rfl rfl (Yld.shl rfl rfl (by omega)) ?_ | refine WL.gyes rfl rfl rfl rfl (Yld.shr rfl rfl (by omega)) ?_ | refine WL.gyes rfl rfl rfl rfl (Yld.pure tab_ok rfl) ?_ | refine WL.gyes rfl rfl rfl rfl (Yld.fld flds_ok rfl rfl rfl) ?_ | refine WL.gyes rfl rfl rfl rfl (Yld.max2 rfl rfl) ?_ | refine WL.gyes rfl rfl rfl rfl (Yld.min2 rfl rfl) ?_ | refine WL.gyes rfl rfl rfl rfl (Yld.pickV rfl rfl rfl) ?_)
  refine WL.alloc rfl zero26 (fun g1 w1 hB1 hg1 hl1 => ?_)
  repeat (first | refine WC.seq ?_ | refine WC.block ?_ | refine WC.region ?_ | refine WL.nil ?_ | refine WX.then_normal ?_ | refine WC.skip ?_ | refine WC.exit ?_ | refine WC.ret ?_ | refine WX.then_exit ?_ | refine WX.then_ret ?_ | refine WX.block_normal ?_ | refine WX.block_ret ?_ | refine WX.block_same ?_ | refine WX.block_other rfl ?_ | refine WC.label ?_ | refine WC.scope ?_ | refine WX.scope_normal ?_ | refine WX.scope_ret ?_ | refine WX.scope_exit ?_ | refine WL.y rfl (Yld.add rfl rfl (by simp only [In]; omega)) ?_ | refine WL.y rfl (Yld.sub rfl rfl (by simp only [In]; omega)) ?_ | refine WL.y rfl (Yld.mul rfl rfl (by simp only [In]; omega)) ?_ | refine WL.y rfl (Yld.convB tab_ok rfl rfl rfl rfl) ?_ | refine WL.y rfl (Yld.conv tab_ok rfl rfl rfl (by simp only [In]; omega)) ?_ | refine WL.y rfl (Yld.quo rfl rfl (by omega) (by omega) (by simp only [In]; omega)) ?_ | refine WL.y rfl (Yld.rem rfl rfl (by omega) (by omega)) ?_ | refine WL.y rfl (Yld.shl rfl rfl (by omega)) ?_ | refine WL.y rfl (Yld.shr rfl rfl (by omega)) ?_ | refine WL.y rfl (Yld.pure tab_ok rfl) ?_ | refine WL.y rfl (Yld.fld flds_ok rfl rfl rfl) ?_ | refine WL.y rfl (Yld.max2 rfl rfl) ?_ | refine WL.y rfl (Yld.min2 rfl rfl) ?_ | refine WL.y rfl (Yld.pickV rfl rfl rfl) ?_ | refine WL.gno rfl rfl rfl rfl ?_ | refine WL.gyes rfl rfl rfl rfl (Yld.add rfl rfl (by simp only [In]; omega)) ?_ | refine WL.gyes rfl rfl rfl rfl (Yld.sub rfl rfl (by simp only [In]; omega)) ?_ | refine WL.gyes rfl rfl rfl rfl (Yld.mul rfl rfl (by simp only [In]; omega)) ?_ | refine WL.gyes rfl rfl rfl rfl (Yld.convB tab_ok rfl rfl rfl rfl) ?_ | refine WL.gyes rfl rfl rfl rfl (Yld.conv tab_ok rfl rfl rfl (by simp only [In]; omega)) ?_ | refine WL.gyes rfl rfl rfl rfl (Yld.quo rfl rfl (by omega) (by omega) (by simp only [In]; omega)) ?_ | refine WL.gyes rfl rfl rfl rfl (Yld.rem rfl rfl (by omega) (by omega)) ?_ | refine WL.gyes rfl rfl rfl rfl (Yld.shl rfl rfl (by omega)) ?_ | refine WL.gyes rfl rfl rfl rfl (Yld.shr rfl rfl (by omega)) ?_ | refine WL.gyes rfl rfl rfl rfl (Yld.pure tab_ok rfl) ?_ | refine WL.gyes rfl rfl rfl rfl (Yld.fld flds_ok rfl rfl rfl) ?_ | refine WL.gyes rfl rfl rfl rfl (Yld.max2 rfl rfl) ?_ | refine WL.gyes rfl rfl rfl rfl (Yld.min2 rfl rfl) ?_ | refine WL.gyes rfl rfl rfl rfl (Yld.pickV rfl rfl rfl) ?_)
  refine WL.alloc rfl zero26 (fun g2 w2 hB2 hg2 hl2 => ?_)
  repeat (first | refine WC.seq ?_ | refine WC.block ?_ | refine WC.region ?_ | refine WL.nil ?_ | refine WX.then_normal ?_ | refine WC.skip ?_ | refine WC.exit ?_ | refine WC.ret ?_ | refine WX.then_exit ?_ | refine WX.then_ret ?_ | refine WX.block_normal ?_ | refine WX.block_ret ?_ | refine WX.block_same ?_ | refine WX.block_other rfl ?_ | refine WC.label ?_ | refine WC.scope ?_ | refine WX.scope_normal ?_ | refine WX.scope_ret ?_ | refine WX.scope_exit ?_ | refine WL.y rfl (Yld.add rfl rfl (by simp only [In]; omega)) ?_ | refine WL.y rfl (Yld.sub rfl rfl (by simp only [In]; omega)) ?_ | refine WL.y rfl (Yld.mul rfl rfl (by simp only [In]; omega)) ?_ | refine WL.y rfl (Yld.convB tab_ok rfl rfl rfl rfl) ?_ | refine WL.y rfl (Yld.conv tab_ok rfl rfl rfl (by simp only [In]; omega)) ?_ | refine WL.y rfl (Yld.quo rfl rfl (by omega) (by omega) (by simp only [In]; omega)) ?_ | refine WL.y rfl (Yld.rem rfl rfl (by omega) (by omega)) ?_ | refine WL.y rfl (Yld.shl rfl rfl (by omega)) ?_ | refine WL.y rfl (Yld.shr rfl rfl (by omega)) ?_ | refine WL.y rfl (Yld.pure tab_ok rfl) ?_ | refine WL.y rfl (Yld.fld flds_ok rfl rfl rfl) ?_ | refine WL.y rfl (Yld.max2 rfl rfl) ?_ | refine WL.y rfl (Yld.min2 rfl rfl) ?_ | refine WL.y rfl (Yld.pickV rfl rfl rfl) ?_ | refine WL.gno rfl rfl rfl rfl ?_ | refine WL.gyes rfl rfl rfl rfl (Yld.add rfl rfl (by simp only [In]; omega)) ?_ | refine WL.gyes rfl rfl rfl rfl (Yld.sub rfl rfl (by simp only [In]; omega)) ?_ | refine WL.gyes rfl rfl rfl rfl (Yld.mul rfl rfl (by simp only [In]; omega)) ?_ | refine WL.gyes rfl rfl rfl rfl (Yld.convB tab_ok rfl rfl rfl rfl) ?_ | refine WL.gyes rfl rfl rfl rfl (Yld.conv tab_ok rfl rfl rfl (by simp only [In]; omega)) ?_ | refine WL.gyes rfl rfl rfl rfl (Yld.quo rfl rfl (by omega) (by omega) (by simp only [In]; omega)) ?_ | refine WL.gyes rfl rfl rfl rfl (Yld.rem rfl rfl (by omega) (by omega)) ?_ | refine WL.gyes rfl rfl rfl rfl (Yld.shl rfl rfl (by omega)) ?_ | refine WL.gyes rfl rfl rfl rfl (Yld.shr rfl rfl (by omega)) ?_ | refine WL.gyes rfl rfl rfl rfl (Yld.pure tab_ok rfl) ?_ | refine WL.gyes rfl rfl rfl rfl (Yld.fld flds_ok rfl rfl rfl) ?_ | refine WL.gyes rfl rfl rfl rfl (Yld.max2 rfl rfl) ?_ | refine WL.gyes rfl rfl rfl rfl (Yld.min2 rfl rfl) ?_ | refine WL.gyes rfl rfl rfl rfl (Yld.pickV rfl rfl rfl) ?_)
  have hB12 := hB1.keep hg2 (by simp)
  have hE2 : w2.cell? ⟨0, 0, none⟩ = some E := cell_grown (gr_trans hg1 hg2) hE (by simp)
  have hlt0 := World.block_lt_of_cell? w _ hE
  simp only at hlt0
  have hg12 := gr_trans hg1 hg2
  have hsz1 := hg1.size
  have hgl1 := hB1.lt
  refine WC.cond rfl (fun h => ?_) (fun h => ?_)
  · simp at h
    have hpar : parS s = none := by unfold parS; rw [if_neg (by omega)]
    repeat (first | refine WC.seq ?_ | refine WC.block ?_ | refine WC.region ?_ | refine WL.nil ?_ | refine WX.then_normal ?_ | refine WC.skip ?_ | refine WC.exit ?_ | refine WC.ret ?_ | refine WX.then_exit ?_ | refine WX.then_ret ?_ | refine WX.block_normal ?_ | refine WX.block_ret ?_ | refine WX.block_same ?_ | refine WX.block_other rfl ?_ | refine WC.label ?_ | refine WC.scope ?_ | refine WX.scope_normal ?_ | refine WX.scope_ret ?_ | refine WX.scope_exit ?_ | refine WL.y rfl (Yld.add rfl rfl (by simp only [In]; omega)) ?_ | refine WL.y rfl (Yld.sub rfl rfl (by simp only [In]; omega)) ?_ | refine WL.y rfl (Yld.mul rfl rfl (by simp only [In]; omega)) ?_ | refine WL.y rfl (Yld.convB tab_ok rfl rfl rfl rfl) ?_ | refine WL.y rfl (Yld.conv tab_ok rfl rfl rfl (by simp only [In]; omega)) ?_ | refine WL.y rfl (Yld.quo rfl rfl (by omega) (by omega) (by simp only [In]; omega)) ?_ | refine WL.y rfl (Yld.rem rfl rfl (by omega) (by omega)) ?_ | refine WL.y rfl (Yld.shl rfl rfl (by omega)) ?_ | refine WL.y rfl (Yld.shr rfl rfl (by omega)) ?_ | refine WL.y rfl (Yld.pure tab_ok rfl) ?_ | refine WL.y rfl (Yld.fld flds_ok rfl rfl rfl) ?_ | refine WL.y rfl (Yld.max2 rfl rfl) ?_ | refine WL.y rfl (Yld.min2 rfl rfl) ?_ | refine WL.y rfl (Yld.pickV rfl rfl rfl) ?_ | refine WL.gno rfl rfl rfl rfl ?_ | refine WL.gyes rfl rfl rfl rfl (Yld.add rfl rfl (by simp only [In]; omega)) ?_ | refine WL.gyes rfl rfl rfl rfl (Yld.sub rfl rfl (by simp only [In]; omega)) ?_ | refine WL.gyes rfl rfl rfl rfl (Yld.mul rfl rfl (by simp only [In]; omega)) ?_ | refine WL.gyes rfl rfl rfl rfl (Yld.convB tab_ok rfl rfl rfl rfl) ?_ | refine WL.gyes rfl rfl rfl rfl (Yld.conv tab_ok rfl rfl rfl (by simp only [In]; omega)) ?_ | refine WL.gyes rfl rfl rfl rfl (Yld.quo rfl rfl (by omega) (by omega) (by simp only [In]; omega)) ?_ | refine WL.gyes rfl rfl rfl rfl (Yld.rem rfl rfl (by omega) (by omega)) ?_ | refine WL.gyes rfl rfl rfl rfl (Yld.shl rfl rfl (by omega)) ?_ | refine WL.gyes rfl rfl rfl rfl (Yld.shr rfl rfl (by omega)) ?_ | refine WL.gyes rfl rfl rfl rfl (Yld.pure tab_ok rfl) ?_ | refine WL.gyes rfl rfl rfl rfl (Yld.fld flds_ok rfl rfl rfl) ?_ | refine WL.gyes rfl rfl rfl rfl (Yld.max2 rfl rfl) ?_ | refine WL.gyes rfl rfl rfl rfl (Yld.min2 rfl rfl) ?_ | refine WL.gyes rfl rfl rfl rfl (Yld.pickV rfl rfl rfl) ?_)
    refine WC.chain (fun k => !(Nat.beq k 2)) (fun w' => w'.cell? ⟨0, 0, none⟩ = some E) mixed (by kernel_rfl) (fun w' h => (h.cell _).trans hE2) ?_
    refine WK.y rfl rfl (fun w' _ => Yld.zarr tab_ok rfl zero26) ?_
    refine WK.y rfl rfl (fun w' h => Yld.cell tab_ok h rfl rfl) ?_
    refine WK.eff rfl (Ef0.storeW tab_ok rfl rfl rfl (by intro u hu; rw [List.mem_replicate] at hu; rw [hu.2]; rfl) hB12 rfl rfl) (fun w' h => cell_grown h.2 hE2 (by simp; omega)) ?_
    rintro w3 ⟨hB3, hg3⟩
    repeat (first | refine WK.y rfl rfl (fun _ _ => Yld.add rfl rfl (by simp only [In]; omega)) ?_ | refine WK.y rfl rfl (fun _ _ => Yld.sub rfl rfl (by simp only [In]; omega)) ?_ | refine WK.y rfl rfl (fun _ _ => Yld.mul rfl rfl (by simp only [In]; omega)) ?_ | refine WK.y rfl rfl (fun _ _ => Yld.convB tab_ok rfl rfl rfl rfl) ?_ | refine WK.y rfl rfl (fun _ _ => Yld.conv tab_ok rfl rfl rfl (by simp only [In]; omega)) ?_ | refine WK.y rfl rfl (fun _ _ => Yld.quo rfl rfl (by omega) (by omega) (by simp only [In]; omega)) ?_ | refine WK.y rfl rfl (fun _ _ => Yld.rem rfl rfl (by omega) (by omega)) ?_ | refine WK.y rfl rfl (fun _ _ => Yld.shl rfl rfl (by omega)) ?_ | refine WK.y rfl rfl (fun _ _ => Yld.shr rfl rfl (by omega)) ?_ | refine WK.y rfl rfl (fun _ _ => Yld.pure tab_ok rfl) ?_)
    refine WK.nil ?_
    repeat (first | refine WC.seq ?_ | refine WC.block ?_ | refine WC.region ?_ | refine WL.nil ?_ | refine WX.then_normal ?_ | refine WC.skip ?_ | refine WC.exit ?_ | refine WC.ret ?_ | refine WX.then_exit ?_ | refine WX.then_ret ?_ | refine WX.block_normal ?_ | refine WX.block_ret ?_ | refine WX.block_same ?_ | refine WX.block_other rfl ?_ | refine WC.label ?_ | refine WC.scope ?_ | refine WX.scope_normal ?_ | refine WX.scope_ret ?_ | refine WX.scope_exit ?_ | refine WL.y rfl (Yld.add rfl rfl (by simp only [In]; omega)) ?_ | refine WL.y rfl (Yld.sub rfl rfl (by simp only [In]; omega)) ?_ | refine WL.y rfl (Yld.mul rfl rfl (by simp only [In]; omega)) ?_ | refine WL.y rfl (Yld.convB tab_ok rfl rfl rfl rfl) ?_ | refine WL.y rfl (Yld.conv tab_ok rfl rfl rfl (by simp only [In]; omega)) ?_ | refine WL.y rfl (Yld.quo rfl rfl (by omega) (by omega) (by simp only [In]; omega)) ?_ | refine WL.y rfl (Yld.rem rfl rfl (by omega) (by omega)) ?_ | refine WL.y rfl (Yld.shl rfl rfl (by omega)) ?_ | refine WL.y rfl (Yld.shr rfl rfl (by omega)) ?_ | refine WL.y rfl (Yld.pure tab_ok rfl) ?_)
    exact WX.retct tab_ok rfl rfl rfl hB3 rfl rfl ⟨by rw [parR, hpar]; rfl, gr_new hg12 hg3 hl1⟩
  simp at h
  have hs64 : s.length = 64 := by omega
  repeat (first | refine WC.seq ?_ | refine WC.block ?_ | refine WC.region ?_ | refine WL.nil ?_ | refine WX.then_normal ?_ | refine WC.skip ?_ | refine WC.exit ?_ | refine WC.ret ?_ | refine WX.then_exit ?_ | refine WX.then_ret ?_ | refine WX.block_normal ?_ | refine WX.block_ret ?_ | refine WX.block_same ?_ | refine WX.block_other rfl ?_ | refine WC.label ?_ | refine WC.scope ?_ | refine WX.scope_normal ?_ | refine WX.scope_ret ?_ | refine WX.scope_exit ?_ | refine WL.y rfl (Yld.add rfl rfl (by simp only [In]; omega)) ?_ | refine WL.y rfl (Yld.sub rfl rfl (by simp only [In]; omega)) ?_ | refine WL.y rfl (Yld.mul rfl rfl (by simp only [In]; omega)) ?_ | refine WL.y rfl (Yld.convB tab_ok rfl rfl rfl rfl) ?_ | refine WL.y rfl (Yld.conv tab_ok rfl rfl rfl (by simp only [In]; omega)) ?_ | refine WL.y rfl (Yld.quo rfl rfl (by omega) (by omega) (by simp only [In]; omega)) ?_ | refine WL.y rfl (Yld.rem rfl rfl (by omega) (by omega)) ?_ | refine WL.y rfl (Yld.shl rfl rfl (by omega)) ?_ | refine WL.y rfl (Yld.shr rfl rfl (by omega)) ?_ | refine WL.y rfl (Yld.pure tab_ok rfl) ?_ | refine WL.y rfl (Yld.fld flds_ok rfl rfl rfl) ?_ | refine WL.y rfl (Yld.max2 rfl rfl) ?_ | refine WL.y rfl (Yld.min2 rfl rfl) ?_ | refine WL.y rfl (Yld.pickV rfl rfl rfl) ?_ | refine WL.gno rfl rfl rfl rfl ?_ | refine WL.gyes rfl rfl rfl rfl (Yld.add rfl rfl (by simp only [In]; omega)) ?_ | refine WL.gyes rfl rfl rfl rfl (Yld.sub rfl rfl (by simp only [In]; omega)) ?_ | refine WL.gyes rfl rfl rfl rfl (Yld.mul rfl rfl (by simp only [In]; omega)) ?_ | refine WL.gyes rfl rfl rfl rfl (Yld.convB tab_ok rfl rfl rfl rfl) ?_ | refine WL.gyes rfl rfl rfl rfl (Yld.conv tab_ok rfl rfl rfl (by simp only [In]; omega)) ?_ | refine WL.gyes rfl rfl rfl rfl (Yld.quo rfl rfl (by omega) (by omega) (by simp only [In]; omega)) ?_ | refine WL.gyes rfl rfl rfl rfl (Yld.rem rfl rfl (by omega) (by omega)) ?_ | refine WL.gyes rfl rfl rfl rfl (Yld.shl rfl rfl (by omega)) ?_ | refine WL.gyes rfl rfl rfl rfl (Yld.shr rfl rfl (by omega)) ?_ | refine WL.gyes rfl rfl rfl rfl (Yld.pure tab_ok rfl) ?_ | refine WL.gyes rfl rfl rfl rfl (Yld.fld flds_ok rfl rfl rfl) ?_ | refine WL.gyes rfl rfl rfl rfl (Yld.max2 rfl rfl) ?_ | refine WL.gyes rfl rfl rfl rfl (Yld.min2 rfl rfl) ?_ | refine WL.gyes rfl rfl rfl rfl (Yld.pickV rfl rfl rfl) ?_)
  refine WC.loop2 (fun i _ => 32 - i) (fun i _ => [(15, vi i), (4, .pointer (some ⟨g2, 0, none⟩)), (3, .nilIface), (2, .pointer (some ⟨g1, 0, none⟩)), (0, vs s)])
    (fun i l w3 => i ≤ 32 ∧ parN s i = some l ∧ Bl w3 g2 26 (l.map vb ++ List.replicate (32 - i) (Value.int .u8 0)) ∧ Bl w3 g1 26 (List.replicate 32 (Value.int .u8 0)) ∧ w2.grownBy w3 (some g2)) 0 [] ⟨by omega, rfl, hB2, hB12, gr_refl _ _⟩ (by repeat (first | exact Sub.nil | refine Sub.cons rfl ?_)) (fun i l w3 ⟨hi, hp, hB23, hB13, hg23⟩ => ?_)
  have hll := parN_len s i l hp
  have hEX : w3.cell? ⟨0, 0, none⟩ = some E := cell_grown hg23 hE2 (by simp; omega)
  have hgX : w.grownBy w3 none := gr_new hg12 hg23 (by omega)
  repeat (first | refine WC.seq ?_ | refine WC.block ?_ | refine WC.region ?_ | refine WL.nil ?_ | refine WX.then_normal ?_ | refine WC.skip ?_ | refine WC.exit ?_ | refine WC.ret ?_ | refine WX.then_exit ?_ | refine WX.then_ret ?_ | refine WX.block_normal ?_ | refine WX.block_ret ?_ | refine WX.block_same ?_ | refine WX.block_other rfl ?_ | refine WC.label ?_ | refine WC.scope ?_ | refine WX.scope_normal ?_ | refine WX.scope_ret ?_ | refine WX.scope_exit ?_ | refine WL.y rfl (Yld.add rfl rfl (by simp only [In]; omega)) ?_ | refine WL.y rfl (Yld.sub rfl rfl (by simp only [In]; omega)) ?_ | refine WL.y rfl (Yld.mul rfl rfl (by simp only [In]; omega)) ?_ | refine WL.y rfl (Yld.convB tab_ok rfl rfl rfl rfl) ?_ | refine WL.y rfl (Yld.conv tab_ok rfl rfl rfl (by simp only [In]; omega)) ?_ | refine WL.y rfl (Yld.quo rfl rfl (by omega) (by omega) (by simp only [In]; omega)) ?_ | refine WL.y rfl (Yld.rem rfl rfl (by omega) (by omega)) ?_ | refine WL.y rfl (Yld.shl rfl rfl (by omega)) ?_ | refine WL.y rfl (Yld.shr rfl rfl (by omega)) ?_ | refine WL.y rfl (Yld.pure tab_ok rfl) ?_ | refine WL.y rfl (Yld.fld flds_ok rfl rfl rfl) ?_ | refine WL.y rfl (Yld.max2 rfl rfl) ?_ | refine WL.y rfl (Yld.min2 rfl rfl) ?_ | refine WL.y rfl (Yld.pickV rfl rfl rfl) ?_ | refine WL.gno rfl rfl rfl rfl ?_ | refine WL.gyes rfl rfl rfl rfl (Yld.add rfl rfl (by simp only [In]; omega)) ?_ | refine WL.gyes rfl rfl rfl rfl (Yld.sub rfl rfl (by simp only [In]; omega)) ?_ | refine WL.gyes rfl rfl rfl rfl (Yld.mul rfl rfl (by simp only [In]; omega)) ?_ | refine WL.gyes rfl rfl rfl rfl (Yld.convB tab_ok rfl rfl rfl rfl) ?_ | refine WL.gyes rfl rfl rfl rfl (Yld.conv tab_ok rfl rfl rfl (by simp only [In]; omega)) ?_ | refine WL.gyes rfl rfl rfl rfl (Yld.quo rfl rfl (by omega) (by omega) (by simp only [In]; omega)) ?_ | refine WL.gyes rfl rfl rfl rfl (Yld.rem rfl rfl (by omega) (by omega)) ?_ | refine WL.gyes rfl rfl rfl rfl (Yld.shl rfl rfl (by omega)) ?_ | refine WL.gyes rfl rfl rfl rfl (Yld.shr rfl rfl (by omega)) ?_ | refine WL.gyes rfl rfl rfl rfl (Yld.pure tab_ok rfl) ?_ | refine WL.gyes rfl rfl rfl rfl (Yld.fld flds_ok rfl rfl rfl) ?_ | refine WL.gyes rfl rfl rfl rfl (Yld.max2 rfl rfl) ?_ | refine WL.gyes rfl rfl rfl rfl (Yld.min2 rfl rfl) ?_ | refine WL.gyes rfl rfl rfl rfl (Yld.pickV rfl rfl rfl) ?_)
  refine WC.cond rfl (fun h => ?_) (fun h => ?_)
  · simp only [decide_eq_true_eq] at h
    have e1 : (2 * (i : Int)).toNat = 2 * i := by omega
    have e2 : (2 * (i : Int) + 1).toNat = 2 * i + 1 := by omega
    repeat (first | refine WL.y rfl (Yld.sidx tab_ok rfl rfl rfl (by omega) (by omega)) ?_ | refine WC.seq ?_ | refine WC.block ?_ | refine WC.region ?_ | refine WL.nil ?_ | refine WX.then_normal ?_ | refine WC.skip ?_ | refine WC.exit ?_ | refine WC.ret ?_ | refine WX.then_exit ?_ | refine WX.then_ret ?_ | refine WX.block_normal ?_ | refine WX.block_ret ?_ | refine WX.block_same ?_ | refine WX.block_other rfl ?_ | refine WC.label ?_ | refine WC.scope ?_ | refine WX.scope_normal ?_ | refine WX.scope_ret ?_ | refine WX.scope_exit ?_ | refine WL.y rfl (Yld.add rfl rfl (by simp only [In]; omega)) ?_ | refine WL.y rfl (Yld.sub rfl rfl (by simp only [In]; omega)) ?_ | refine WL.y rfl (Yld.mul rfl rfl (by simp only [In]; omega)) ?_ | refine WL.y rfl (Yld.convB tab_ok rfl rfl rfl rfl) ?_ | refine WL.y rfl (Yld.conv tab_ok rfl rfl rfl (by simp only [In]; omega)) ?_ | refine WL.y rfl (Yld.quo rfl rfl (by omega) (by omega) (by simp only [In]; omega)) ?_ | refine WL.y rfl (Yld.rem rfl rfl (by omega) (by omega)) ?_ | refine WL.y rfl (Yld.shl rfl rfl (by omega)) ?_ | refine WL.y rfl (Yld.shr rfl rfl (by omega)) ?_ | refine WL.y rfl (Yld.pure tab_ok rfl) ?_ | refine WL.y rfl (Yld.fld flds_ok rfl rfl rfl) ?_ | refine WL.y rfl (Yld.max2 rfl rfl) ?_ | refine WL.y rfl (Yld.min2 rfl rfl) ?_ | refine WL.y rfl (Yld.pickV rfl rfl rfl) ?_ | refine WL.gno rfl rfl rfl rfl ?_ | refine WL.gyes rfl rfl rfl rfl (Yld.add rfl rfl (by simp only [In]; omega)) ?_ | refine WL.gyes rfl rfl rfl rfl (Yld.sub rfl rfl (by simp only [In]; omega)) ?_ | refine WL.gyes rfl rfl rfl rfl (Yld.mul rfl rfl (by simp only [In]; omega)) ?_ | refine WL.gyes rfl rfl rfl rfl (Yld.convB tab_ok rfl rfl rfl rfl) ?_ | refine WL.gyes rfl rfl rfl rfl (Yld.conv tab_ok rfl rfl rfl (by simp only [In]; omega)) ?_ | refine WL.gyes rfl rfl rfl rfl (Yld.quo rfl rfl (by omega) (by omega) (by simp only [In]; omega)) ?_ | refine WL.gyes rfl rfl rfl rfl (Yld.rem rfl rfl (by omega) (by omega)) ?_ | refine WL.gyes rfl rfl rfl rfl (Yld.shl rfl rfl (by omega)) ?_ | refine WL.gyes rfl rfl rfl rfl (Yld.shr rfl rfl (by omega)) ?_ | refine WL.gyes rfl rfl rfl rfl (Yld.pure tab_ok rfl) ?_ | refine WL.gyes rfl rfl rfl rfl (Yld.fld flds_ok rfl rfl rfl) ?_ | refine WL.gyes rfl rfl rfl rfl (Yld.max2 rfl rfl) ?_ | refine WL.gyes rfl rfl rfl rfl (Yld.min2 rfl rfl) ?_ | refine WL.gyes rfl rfl rfl rfl (Yld.pickV rfl rfl rfl) ?_)
    refine WL.call rfl rfl (digit_fn _ w3) ?_
    rintro _ _ ⟨rfl, rfl⟩
    repeat (first | refine WL.y rfl (Yld.sidx tab_ok rfl rfl rfl (by omega) (by omega)) ?_ | refine WC.seq ?_ | refine WC.block ?_ | refine WC.region ?_ | refine WL.nil ?_ | refine WX.then_normal ?_ | refine WC.skip ?_ | refine WC.exit ?_ | refine WC.ret ?_ | refine WX.then_exit ?_ | refine WX.then_ret ?_ | refine WX.block_normal ?_ | refine WX.block_ret ?_ | refine WX.block_same ?_ | refine WX.block_other rfl ?_ | refine WC.label ?_ | refine WC.scope ?_ | refine WX.scope_normal ?_ | refine WX.scope_ret ?_ | refine WX.scope_exit ?_ | refine WL.y rfl (Yld.add rfl rfl (by simp only [In]; omega)) ?_ | refine WL.y rfl (Yld.sub rfl rfl (by simp only [In]; omega)) ?_ | refine WL.y rfl (Yld.mul rfl rfl (by simp only [In]; omega)) ?_ | refine WL.y rfl (Yld.convB tab_ok rfl rfl rfl rfl) ?_ | refine WL.y rfl (Yld.conv tab_ok rfl rfl rfl (by simp only [In]; omega)) ?_ | refine WL.y rfl (Yld.quo rfl rfl (by omega) (by omega) (by simp only [In]; omega)) ?_ | refine WL.y rfl (Yld.rem rfl rfl (by omega) (by omega)) ?_ | refine WL.y rfl (Yld.shl rfl rfl (by omega)) ?_ | refine WL.y rfl (Yld.shr rfl rfl (by omega)) ?_ | refine WL.y rfl (Yld.pure tab_ok rfl) ?_ | refine WL.y rfl (Yld.fld flds_ok rfl rfl rfl) ?_ | refine WL.y rfl (Yld.max2 rfl rfl) ?_ | refine WL.y rfl (Yld.min2 rfl rfl) ?_ | refine WL.y rfl (Yld.pickV rfl rfl rfl) ?_ | refine WL.gno rfl rfl rfl rfl ?_ | refine WL.gyes rfl rfl rfl rfl (Yld.add rfl rfl (by simp only [In]; omega)) ?_ | refine WL.gyes rfl rfl rfl rfl (Yld.sub rfl rfl (by simp only [In]; omega)) ?_ | refine WL.gyes rfl rfl rfl rfl (Yld.mul rfl rfl (by simp only [In]; omega)) ?_ | refine WL.gyes rfl rfl rfl rfl (Yld.convB tab_ok rfl rfl rfl rfl) ?_ | refine WL.gyes rfl rfl rfl rfl (Yld.conv tab_ok rfl rfl rfl (by simp only [In]; omega)) ?_ | refine WL.gyes rfl rfl rfl rfl (Yld.quo rfl rfl (by omega) (by omega) (by simp only [In]; omega)) ?_ | refine WL.gyes rfl rfl rfl rfl (Yld.rem rfl rfl (by omega) (by omega)) ?_ | refine WL.gyes rfl rfl rfl rfl (Yld.shl rfl rfl (by omega)) ?_ | refine WL.gyes rfl rfl rfl rfl (Yld.shr rfl rfl (by omega)) ?_ | refine WL.gyes rfl rfl rfl rfl (Yld.pure tab_ok rfl) ?_ | refine WL.gyes rfl rfl rfl rfl (Yld.fld flds_ok rfl rfl rfl) ?_ | refine WL.gyes rfl rfl rfl rfl (Yld.max2 rfl rfl) ?_ | refine WL.gyes rfl rfl rfl rfl (Yld.min2 rfl rfl) ?_ | refine WL.gyes rfl rfl rfl rfl (Yld.pickV rfl rfl rfl) ?_)
    refine WL.call rfl rfl (digit_fn _ _) ?_
    rintro _ _ ⟨rfl, rfl⟩
    rw [e1, e2]
    have hstep : parN s (i + 1) = match digV (s.getD (2 * i) 0), digV (s.getD (2 * i + 1) 0) with
      | some a, some b => some (l ++ [u8v (bits .or .u8 (shlV .u8 (a : Int) 4) (b : Int))])
      | _, _ => none := by
        rw [parN, hp]
        cases digV (s.getD (2 * i) 0) <;> cases digV (s.getD (2 * i + 1) 0) <;> rfl
    have hla : ∀ a, digV (s.getD (2 * i) 0) = some a → a < 16 := fun a ha => digV_lt ha
    have hlb : ∀ b, digV (s.getD (2 * i + 1) 0) = some b → b < 16 := fun b hb => digV_lt hb
    have hnone : parN s (i + 1) = none → parS s = none := fun hn => by
      unfold parS
      rw [if_pos hs64]
      have := parN_none s (i + 1) hn (32 - (i + 1))
      rwa [show i + 1 + (32 - (i + 1)) = 32 by omega] at this
    unfold digR
    generalize digV (s.getD (2 * i) 0) = da at *
    generalize digV (s.getD (2 * i + 1) 0) = db at *
    repeat (first | refine WC.seq ?_ | refine WC.block ?_ | refine WC.region ?_ | refine WL.nil ?_ | refine WX.then_normal ?_ | refine WC.skip ?_ | refine WC.exit ?_ | refine WC.ret ?_ | refine WX.then_exit ?_ | refine WX.then_ret ?_ | refine WX.block_normal ?_ | refine WX.block_ret ?_ | refine WX.block_same ?_ | refine WX.block_other rfl ?_ | refine WC.label ?_ | refine WC.scope ?_ | refine WX.scope_normal ?_ | refine WX.scope_ret ?_ | refine WX.scope_exit ?_ | refine WL.y rfl (Yld.add rfl rfl (by simp only [In]; omega)) ?_ | refine WL.y rfl (Yld.sub rfl rfl (by simp only [In]; omega)) ?_ | refine WL.y rfl (Yld.mul rfl rfl (by simp only [In]; omega)) ?_ | refine WL.y rfl (Yld.convB tab_ok rfl rfl rfl rfl) ?_ | refine WL.y rfl (Yld.conv tab_ok rfl rfl rfl (by simp only [In]; omega)) ?_ | refine WL.y rfl (Yld.quo rfl rfl (by omega) (by omega) (by simp only [In]; omega)) ?_ | refine WL.y rfl (Yld.rem rfl rfl (by omega) (by omega)) ?_ | refine WL.y rfl (Yld.shl rfl rfl (by omega)) ?_ | refine WL.y rfl (Yld.shr rfl rfl (by omega)) ?_ | refine WL.y rfl (Yld.pure tab_ok rfl) ?_ | refine WL.y rfl (Yld.fld flds_ok rfl rfl rfl) ?_ | refine WL.y rfl (Yld.max2 rfl rfl) ?_ | refine WL.y rfl (Yld.min2 rfl rfl) ?_ | refine WL.y rfl (Yld.pickV rfl rfl rfl) ?_ | refine WL.gno rfl rfl rfl rfl ?_ | refine WL.gyes rfl rfl rfl rfl (Yld.add rfl rfl (by simp only [In]; omega)) ?_ | refine WL.gyes rfl rfl rfl rfl (Yld.sub rfl rfl (by simp only [In]; omega)) ?_ | refine WL.gyes rfl rfl rfl rfl (Yld.mul rfl rfl (by simp only [In]; omega)) ?_ | refine WL.gyes rfl rfl rfl rfl (Yld.convB tab_ok rfl rfl rfl rfl) ?_ | refine WL.gyes rfl rfl rfl rfl (Yld.conv tab_ok rfl rfl rfl (by simp only [In]; omega)) ?_ | refine WL.gyes rfl rfl rfl rfl (Yld.quo rfl rfl (by omega) (by omega) (by simp only [In]; omega)) ?_ | refine WL.gyes rfl rfl rfl rfl (Yld.rem rfl rfl (by omega) (by omega)) ?_ | refine WL.gyes rfl rfl rfl rfl (Yld.shl rfl rfl (by omega)) ?_ | refine WL.gyes rfl rfl rfl rfl (Yld.shr rfl rfl (by omega)) ?_ | refine WL.gyes rfl rfl rfl rfl (Yld.pure tab_ok rfl) ?_ | refine WL.gyes rfl rfl rfl rfl (Yld.fld flds_ok rfl rfl rfl) ?_ | refine WL.gyes rfl rfl rfl rfl (Yld.max2 rfl rfl) ?_ | refine WL.gyes rfl rfl rfl rfl (Yld.min2 rfl rfl) ?_ | refine WL.gyes rfl rfl rfl rfl (Yld.pickV rfl rfl rfl) ?_)
    cases da with
    | none =>
      have hpar := hnone hstep
      repeat (first | refine WC.seq ?_ | refine WC.block ?_ | refine WC.region ?_ | refine WL.nil ?_ | refine WX.then_normal ?_ | refine WC.skip ?_ | refine WC.exit ?_ | refine WC.ret ?_ | refine WX.then_exit ?_ | refine WX.then_ret ?_ | refine WX.block_normal ?_ | refine WX.block_ret ?_ | refine WX.block_same ?_ | refine WX.block_other rfl ?_ | refine WC.label ?_ | refine WC.scope ?_ | refine WX.scope_normal ?_ | refine WX.scope_ret ?_ | refine WX.scope_exit ?_ | refine WL.y rfl (Yld.add rfl rfl (by simp only [In]; omega)) ?_ | refine WL.y rfl (Yld.sub rfl rfl (by simp only [In]; omega)) ?_ | refine WL.y rfl (Yld.mul rfl rfl (by simp only [In]; omega)) ?_ | refine WL.y rfl (Yld.convB tab_ok rfl rfl rfl rfl) ?_ | refine WL.y rfl (Yld.conv tab_ok rfl rfl rfl (by simp only [In]; omega)) ?_ | refine WL.y rfl (Yld.quo rfl rfl (by omega) (by omega) (by simp only [In]; omega)) ?_ | refine WL.y rfl (Yld.rem rfl rfl (by omega) (by omega)) ?_ | refine WL.y rfl (Yld.shl rfl rfl (by omega)) ?_ | refine WL.y rfl (Yld.shr rfl rfl (by omega)) ?_ | refine WL.y rfl (Yld.pure tab_ok rfl) ?_ | refine WL.y rfl (Yld.fld flds_ok rfl rfl rfl) ?_ | refine WL.y rfl (Yld.max2 rfl rfl) ?_ | refine WL.y rfl (Yld.min2 rfl rfl) ?_ | refine WL.y rfl (Yld.pickV rfl rfl rfl) ?_ | refine WL.gno rfl rfl rfl rfl ?_ | refine WL.gyes rfl rfl rfl rfl (Yld.add rfl rfl (by simp only [In]; omega)) ?_ | refine WL.gyes rfl rfl rfl rfl (Yld.sub rfl rfl (by simp only [In]; omega)) ?_ | refine WL.gyes rfl rfl rfl rfl (Yld.mul rfl rfl (by simp only [In]; omega)) ?_ | refine WL.gyes rfl rfl rfl rfl (Yld.convB tab_ok rfl rfl rfl rfl) ?_ | refine WL.gyes rfl rfl rfl rfl (Yld.conv tab_ok rfl rfl rfl (by simp only [In]; omega)) ?_ | refine WL.gyes rfl rfl rfl rfl (Yld.quo rfl rfl (by omega) (by omega) (by simp only [In]; omega)) ?_ | refine WL.gyes rfl rfl rfl rfl (Yld.rem rfl rfl (by omega) (by omega)) ?_ | refine WL.gyes rfl rfl rfl rfl (Yld.shl rfl rfl (by omega)) ?_ | refine WL.gyes rfl rfl rfl rfl (Yld.shr rfl rfl (by omega)) ?_ | refine WL.gyes rfl rfl rfl rfl (Yld.pure tab_ok rfl) ?_ | refine WL.gyes rfl rfl rfl rfl (Yld.fld flds_ok rfl rfl rfl) ?_ | refine WL.gyes rfl rfl rfl rfl (Yld.max2 rfl rfl) ?_ | refine WL.gyes rfl rfl rfl rfl (Yld.min2 rfl rfl) ?_ | refine WL.gyes rfl rfl rfl rfl (Yld.pickV rfl rfl rfl) ?_)
      refine WC.cond rfl (fun _ => ?_) (fun h => by cases h)
      repeat (first | refine WC.seq ?_ | refine WC.block ?_ | refine WC.region ?_ | refine WL.nil ?_ | refine WX.then_normal ?_ | refine WC.skip ?_ | refine WC.exit ?_ | refine WC.ret ?_ | refine WX.then_exit ?_ | refine WX.then_ret ?_ | refine WX.block_normal ?_ | refine WX.block_ret ?_ | refine WX.block_same ?_ | refine WX.block_other rfl ?_ | refine WC.label ?_ | refine WC.scope ?_ | refine WX.scope_normal ?_ | refine WX.scope_ret ?_ | refine WX.scope_exit ?_ | refine WL.y rfl (Yld.add rfl rfl (by simp only [In]; omega)) ?_ | refine WL.y rfl (Yld.sub rfl rfl (by simp only [In]; omega)) ?_ | refine WL.y rfl (Yld.mul rfl rfl (by simp only [In]; omega)) ?_ | refine WL.y rfl (Yld.convB tab_ok rfl rfl rfl rfl) ?_ | refine WL.y rfl (Yld.conv tab_ok rfl rfl rfl (by simp only [In]; omega)) ?_ | refine WL.y rfl (Yld.quo rfl rfl (by omega) (by omega) (by simp only [In]; omega)) ?_ | refine WL.y rfl (Yld.rem rfl rfl (by omega) (by omega)) ?_ | refine WL.y rfl (Yld.shl rfl rfl (by omega)) ?_ | refine WL.y rfl (Yld.shr rfl rfl (by omega)) ?_ | refine WL.y rfl (Yld.pure tab_ok rfl) ?_ | refine WL.y rfl (Yld.fld flds_ok rfl rfl rfl) ?_ | refine WL.y rfl (Yld.max2 rfl rfl) ?_ | refine WL.y rfl (Yld.min2 rfl rfl) ?_ | refine WL.y rfl (Yld.pickV rfl rfl rfl) ?_ | refine WL.gno rfl rfl rfl rfl ?_ | refine WL.gyes rfl rfl rfl rfl (Yld.add rfl rfl (by simp only [In]; omega)) ?_ | refine WL.gyes rfl rfl rfl rfl (Yld.sub rfl rfl (by simp only [In]; omega)) ?_ | refine WL.gyes rfl rfl rfl rfl (Yld.mul rfl rfl (by simp only [In]; omega)) ?_ | refine WL.gyes rfl rfl rfl rfl (Yld.convB tab_ok rfl rfl rfl rfl) ?_ | refine WL.gyes rfl rfl rfl rfl (Yld.conv tab_ok rfl rfl rfl (by simp only [In]; omega)) ?_ | refine WL.gyes rfl rfl rfl rfl (Yld.quo rfl rfl (by omega) (by omega) (by simp only [In]; omega)) ?_ | refine WL.gyes rfl rfl rfl rfl (Yld.rem rfl rfl (by omega) (by omega)) ?_ | refine WL.gyes rfl rfl rfl rfl (Yld.shl rfl rfl (by omega)) ?_ | refine WL.gyes rfl rfl rfl rfl (Yld.shr rfl rfl (by omega)) ?_ | refine WL.gyes rfl rfl rfl rfl (Yld.pure tab_ok rfl) ?_ | refine WL.gyes rfl rfl rfl rfl (Yld.fld flds_ok rfl rfl rfl) ?_ | refine WL.gyes rfl rfl rfl rfl (Yld.max2 rfl rfl) ?_ | refine WL.gyes rfl rfl rfl rfl (Yld.min2 rfl rfl) ?_ | refine WL.gyes rfl rfl rfl rfl (Yld.pickV rfl rfl rfl) ?_)
      refine WC.chain (fun k => !(Nat.beq k 2)) (fun w' => w'.cell? ⟨0, 0, none⟩ = some E) mixed (by kernel_rfl) (fun w' h => (h.cell _).trans hEX) ?_
      refine WK.y rfl rfl (fun w' _ => Yld.zarr tab_ok rfl zero26) ?_
      refine WK.y rfl rfl (fun w' h => Yld.cell tab_ok h rfl rfl) ?_
      refine WK.eff rfl (Ef0.storeW tab_ok rfl rfl rfl (by intro u hu; rw [List.mem_replicate] at hu; rw [hu.2]; rfl) hB13 rfl rfl) (fun w' h => cell_grown h.2 hEX (by simp; omega)) ?_
      rintro w4 ⟨hB4, hg4⟩
      repeat (first | refine WK.y rfl rfl (fun _ _ => Yld.add rfl rfl (by simp only [In]; omega)) ?_ | refine WK.y rfl rfl (fun _ _ => Yld.sub rfl rfl (by simp only [In]; omega)) ?_ | refine WK.y rfl rfl (fun _ _ => Yld.mul rfl rfl (by simp only [In]; omega)) ?_ | refine WK.y rfl rfl (fun _ _ => Yld.convB tab_ok rfl rfl rfl rfl) ?_ | refine WK.y rfl rfl (fun _ _ => Yld.conv tab_ok rfl rfl rfl (by simp only [In]; omega)) ?_ | refine WK.y rfl rfl (fun _ _ => Yld.quo rfl rfl (by omega) (by omega) (by simp only [In]; omega)) ?_ | refine WK.y rfl rfl (fun _ _ => Yld.rem rfl rfl (by omega) (by omega)) ?_ | refine WK.y rfl rfl (fun _ _ => Yld.shl rfl rfl (by omega)) ?_ | refine WK.y rfl rfl (fun _ _ => Yld.shr rfl rfl (by omega)) ?_ | refine WK.y rfl rfl (fun _ _ => Yld.pure tab_ok rfl) ?_)
      refine WK.nil ?_
      repeat (first | refine WC.seq ?_ | refine WC.block ?_ | refine WC.region ?_ | refine WL.nil ?_ | refine WX.then_normal ?_ | refine WC.skip ?_ | refine WC.exit ?_ | refine WC.ret ?_ | refine WX.then_exit ?_ | refine WX.then_ret ?_ | refine WX.block_normal ?_ | refine WX.block_ret ?_ | refine WX.block_same ?_ | refine WX.block_other rfl ?_ | refine WC.label ?_ | refine WC.scope ?_ | refine WX.scope_normal ?_ | refine WX.scope_ret ?_ | refine WX.scope_exit ?_ | refine WL.y rfl (Yld.add rfl rfl (by simp only [In]; omega)) ?_ | refine WL.y rfl (Yld.sub rfl rfl (by simp only [In]; omega)) ?_ | refine WL.y rfl (Yld.mul rfl rfl (by simp only [In]; omega)) ?_ | refine WL.y rfl (Yld.convB tab_ok rfl rfl rfl rfl) ?_ | refine WL.y rfl (Yld.conv tab_ok rfl rfl rfl (by simp only [In]; omega)) ?_ | refine WL.y rfl (Yld.quo rfl rfl (by omega) (by omega) (by simp only [In]; omega)) ?_ | refine WL.y rfl (Yld.rem rfl rfl (by omega) (by omega)) ?_ | refine WL.y rfl (Yld.shl rfl rfl (by omega)) ?_ | refine WL.y rfl (Yld.shr rfl rfl (by omega)) ?_ | refine WL.y rfl (Yld.pure tab_ok rfl) ?_)
      exact WX.retct tab_ok rfl rfl rfl hB4 rfl rfl ⟨by rw [parR, hpar]; rfl, gr_new hgX hg4 hl1⟩
    | some a =>
      have ha := hla a rfl
      repeat (first | refine WC.seq ?_ | refine WC.block ?_ | refine WC.region ?_ | refine WL.nil ?_ | refine WX.then_normal ?_ | refine WC.skip ?_ | refine WC.exit ?_ | refine WC.ret ?_ | refine WX.then_exit ?_ | refine WX.then_ret ?_ | refine WX.block_normal ?_ | refine WX.block_ret ?_ | refine WX.block_same ?_ | refine WX.block_other rfl ?_ | refine WC.label ?_ | refine WC.scope ?_ | refine WX.scope_normal ?_ | refine WX.scope_ret ?_ | refine WX.scope_exit ?_ | refine WL.y rfl (Yld.add rfl rfl (by simp only [In]; omega)) ?_ | refine WL.y rfl (Yld.sub rfl rfl (by simp only [In]; omega)) ?_ | refine WL.y rfl (Yld.mul rfl rfl (by simp only [In]; omega)) ?_ | refine WL.y rfl (Yld.convB tab_ok rfl rfl rfl rfl) ?_ | refine WL.y rfl (Yld.conv tab_ok rfl rfl rfl (by simp only [In]; omega)) ?_ | refine WL.y rfl (Yld.quo rfl rfl (by omega) (by omega) (by simp only [In]; omega)) ?_ | refine WL.y rfl (Yld.rem rfl rfl (by omega) (by omega)) ?_ | refine WL.y rfl (Yld.shl rfl rfl (by omega)) ?_ | refine WL.y rfl (Yld.shr rfl rfl (by omega)) ?_ | refine WL.y rfl (Yld.pure tab_ok rfl) ?_ | refine WL.y rfl (Yld.fld flds_ok rfl rfl rfl) ?_ | refine WL.y rfl (Yld.max2 rfl rfl) ?_ | refine WL.y rfl (Yld.min2 rfl rfl) ?_ | refine WL.y rfl (Yld.pickV rfl rfl rfl) ?_ | refine WL.gno rfl rfl rfl rfl ?_ | refine WL.gyes rfl rfl rfl rfl (Yld.add rfl rfl (by simp only [In]; omega)) ?_ | refine WL.gyes rfl rfl rfl rfl (Yld.sub rfl rfl (by simp only [In]; omega)) ?_ | refine WL.gyes rfl rfl rfl rfl (Yld.mul rfl rfl (by simp only [In]; omega)) ?_ | refine WL.gyes rfl rfl rfl rfl (Yld.convB tab_ok rfl rfl rfl rfl) ?_ | refine WL.gyes rfl rfl rfl rfl (Yld.conv tab_ok rfl rfl rfl (by simp only [In]; omega)) ?_ | refine WL.gyes rfl rfl rfl rfl (Yld.quo rfl rfl (by omega) (by omega) (by simp only [In]; omega)) ?_ | refine WL.gyes rfl rfl rfl rfl (Yld.rem rfl rfl (by omega) (by omega)) ?_ | refine WL.gyes rfl rfl rfl rfl (Yld.shl rfl rfl (by omega)) ?_ | refine WL.gyes rfl rfl rfl rfl (Yld.shr rfl rfl (by omega)) ?_ | refine WL.gyes rfl rfl rfl rfl (Yld.pure tab_ok rfl) ?_ | refine WL.gyes rfl rfl rfl rfl (Yld.fld flds_ok rfl rfl rfl) ?_ | refine WL.gyes rfl rfl rfl rfl (Yld.max2 rfl rfl) ?_ | refine WL.gyes rfl rfl rfl rfl (Yld.min2 rfl rfl) ?_ | refine WL.gyes rfl rfl rfl rfl (Yld.pickV rfl rfl rfl) ?_)
      cases db with
      | none =>
        have hpar := hnone hstep
        repeat (first | refine WC.seq ?_ | refine WC.block ?_ | refine WC.region ?_ | refine WL.nil ?_ | refine WX.then_normal ?_ | refine WC.skip ?_ | refine WC.exit ?_ | refine WC.ret ?_ | refine WX.then_exit ?_ | refine WX.then_ret ?_ | refine WX.block_normal ?_ | refine WX.block_ret ?_ | refine WX.block_same ?_ | refine WX.block_other rfl ?_ | refine WC.label ?_ | refine WC.scope ?_ | refine WX.scope_normal ?_ | refine WX.scope_ret ?_ | refine WX.scope_exit ?_ | refine WL.y rfl (Yld.add rfl rfl (by simp only [In]; omega)) ?_ | refine WL.y rfl (Yld.sub rfl rfl (by simp only [In]; omega)) ?_ | refine WL.y rfl (Yld.mul rfl rfl (by simp only [In]; omega)) ?_ | refine WL.y rfl (Yld.convB tab_ok rfl rfl rfl rfl) ?_ | refine WL.y rfl (Yld.conv tab_ok rfl rfl rfl (by simp only [In]; omega)) ?_ | refine WL.y rfl (Yld.quo rfl rfl (by omega) (by omega) (by simp only [In]; omega)) ?_ | refine WL.y rfl (Yld.rem rfl rfl (by omega) (by omega)) ?_ | refine WL.y rfl (Yld.shl rfl rfl (by omega)) ?_ | refine WL.y rfl (Yld.shr rfl rfl (by omega)) ?_ | refine WL.y rfl (Yld.pure tab_ok rfl) ?_ | refine WL.y rfl (Yld.fld flds_ok rfl rfl rfl) ?_ | refine WL.y rfl (Yld.max2 rfl rfl) ?_ | refine WL.y rfl (Yld.min2 rfl rfl) ?_ | refine WL.y rfl (Yld.pickV rfl rfl rfl) ?_ | refine WL.gno rfl rfl rfl rfl ?_ | refine WL.gyes rfl rfl rfl rfl (Yld.add rfl rfl (by simp only [In]; omega)) ?_ | refine WL.gyes rfl rfl rfl rfl (Yld.sub rfl rfl (by simp only [In]; omega)) ?_ | refine WL.gyes rfl rfl rfl rfl (Yld.mul rfl rfl (by simp only [In]; omega)) ?_ | refine WL.gyes rfl rfl rfl rfl (Yld.convB tab_ok rfl rfl rfl rfl) ?_ | refine WL.gyes rfl rfl rfl rfl (Yld.conv tab_ok rfl rfl rfl (by simp only [In]; omega)) ?_ | refine WL.gyes rfl rfl rfl rfl (Yld.quo rfl rfl (by omega) (by omega) (by simp only [In]; omega)) ?_ | refine WL.gyes rfl rfl rfl rfl (Yld.rem rfl rfl (by omega) (by omega)) ?_ | refine WL.gyes rfl rfl rfl rfl (Yld.shl rfl rfl (by omega)) ?_ | refine WL.gyes rfl rfl rfl rfl (Yld.shr rfl rfl (by omega)) ?_ | refine WL.gyes rfl rfl rfl rfl (Yld.pure tab_ok rfl) ?_ | refine WL.gyes rfl rfl rfl rfl (Yld.fld flds_ok rfl rfl rfl) ?_ | refine WL.gyes rfl rfl rfl rfl (Yld.max2 rfl rfl) ?_ | refine WL.gyes rfl rfl rfl rfl (Yld.min2 rfl rfl) ?_ | refine WL.gyes rfl rfl rfl rfl (Yld.pickV rfl rfl rfl) ?_)
        refine WC.cond rfl (fun _ => ?_) (fun h => by cases h)
        repeat (first | refine WC.seq ?_ | refine WC.block ?_ | refine WC.region ?_ | refine WL.nil ?_ | refine WX.then_normal ?_ | refine WC.skip ?_ | refine WC.exit ?_ | refine WC.ret ?_ | refine WX.then_exit ?_ | refine WX.then_ret ?_ | refine WX.block_normal ?_ | refine WX.block_ret ?_ | refine WX.block_same ?_ | refine WX.block_other rfl ?_ | refine WC.label ?_ | refine WC.scope ?_ | refine WX.scope_normal ?_ | refine WX.scope_ret ?_ | refine WX.scope_exit ?_ | refine WL.y rfl (Yld.add rfl rfl (by simp only [In]; omega)) ?_ | refine WL.y rfl (Yld.sub rfl rfl (by simp only [In]; omega)) ?_ | refine WL.y rfl (Yld.mul rfl rfl (by simp only [In]; omega)) ?_ | refine WL.y rfl (Yld.convB tab_ok rfl rfl rfl rfl) ?_ | refine WL.y rfl (Yld.conv tab_ok rfl rfl rfl (by simp only [In]; omega)) ?_ | refine WL.y rfl (Yld.quo rfl rfl (by omega) (by omega) (by simp only [In]; omega)) ?_ | refine WL.y rfl (Yld.rem rfl rfl (by omega) (by omega)) ?_ | refine WL.y rfl (Yld.shl rfl rfl (by omega)) ?_ | refine WL.y rfl (Yld.shr rfl rfl (by omega)) ?_ | refine WL.y rfl (Yld.pure tab_ok rfl) ?_ | refine WL.y rfl (Yld.fld flds_ok rfl rfl rfl) ?_ | refine WL.y rfl (Yld.max2 rfl rfl) ?_ | refine WL.y rfl (Yld.min2 rfl rfl) ?_ | refine WL.y rfl (Yld.pickV rfl rfl rfl) ?_ | refine WL.gno rfl rfl rfl rfl ?_ | refine WL.gyes rfl rfl rfl rfl (Yld.add rfl rfl (by simp only [In]; omega)) ?_ | refine WL.gyes rfl rfl rfl rfl (Yld.sub rfl rfl (by simp only [In]; omega)) ?_ | refine WL.gyes rfl rfl rfl rfl (Yld.mul rfl rfl (by simp only [In]; omega)) ?_ | refine WL.gyes rfl rfl rfl rfl (Yld.convB tab_ok rfl rfl rfl rfl) ?_ | refine WL.gyes rfl rfl rfl rfl (Yld.conv tab_ok rfl rfl rfl (by simp only [In]; omega)) ?_ | refine WL.gyes rfl rfl rfl rfl (Yld.quo rfl rfl (by omega) (by omega) (by simp only [In]; omega)) ?_ | refine WL.gyes rfl rfl rfl rfl (Yld.rem rfl rfl (by omega) (by omega)) ?_ | refine WL.gyes rfl rfl rfl rfl (Yld.shl rfl rfl (by omega)) ?_ | refine WL.gyes rfl rfl rfl rfl (Yld.shr rfl rfl (by omega)) ?_ | refine WL.gyes rfl rfl rfl rfl (Yld.pure tab_ok rfl) ?_ | refine WL.gyes rfl rfl rfl rfl (Yld.fld flds_ok rfl rfl rfl) ?_ | refine WL.gyes rfl rfl rfl rfl (Yld.max2 rfl rfl) ?_ | refine WL.gyes rfl rfl rfl rfl (Yld.min2 rfl rfl) ?_ | refine WL.gyes rfl rfl rfl rfl (Yld.pickV rfl rfl rfl) ?_)
        refine WC.chain (fun k => !(Nat.beq k 2)) (fun w' => w'.cell? ⟨0, 0, none⟩ = some E) mixed (by kernel_rfl) (fun w' h => (h.cell _).trans hEX) ?_
        refine WK.y rfl rfl (fun w' _ => Yld.zarr tab_ok rfl zero26) ?_
        refine WK.y rfl rfl (fun w' h => Yld.cell tab_ok h rfl rfl) ?_
        refine WK.eff rfl (Ef0.storeW tab_ok rfl rfl rfl (by intro u hu; rw [List.mem_replicate] at hu; rw [hu.2]; rfl) hB13 rfl rfl) (fun w' h => cell_grown h.2 hEX (by simp; omega)) ?_
        rintro w4 ⟨hB4, hg4⟩
        repeat (first | refine WK.y rfl rfl (fun _ _ => Yld.add rfl rfl (by simp only [In]; omega)) ?_ | refine WK.y rfl rfl (fun _ _ => Yld.sub rfl rfl (by simp only [In]; omega)) ?_ | refine WK.y rfl rfl (fun _ _ => Yld.mul rfl rfl (by simp only [In]; omega)) ?_ | refine WK.y rfl rfl (fun _ _ => Yld.convB tab_ok rfl rfl rfl rfl) ?_ | refine WK.y rfl rfl (fun _ _ => Yld.conv tab_ok rfl rfl rfl (by simp only [In]; omega)) ?_ | refine WK.y rfl rfl (fun _ _ => Yld.quo rfl rfl (by omega) (by omega) (by simp only [In]; omega)) ?_ | refine WK.y rfl rfl (fun _ _ => Yld.rem rfl rfl (by omega) (by omega)) ?_ | refine WK.y rfl rfl (fun _ _ => Yld.shl rfl rfl (by omega)) ?_ | refine WK.y rfl rfl (fun _ _ => Yld.shr rfl rfl (by omega)) ?_ | refine WK.y rfl rfl (fun _ _ => Yld.pure tab_ok rfl) ?_)
        refine WK.nil ?_
        repeat (first | refine WC.seq ?_ | refine WC.block ?_ | refine WC.region ?_ | refine WL.nil ?_ | refine WX.then_normal ?_ | refine WC.skip ?_ | refine WC.exit ?_ | refine WC.ret ?_ | refine WX.then_exit ?_ | refine WX.then_ret ?_ | refine WX.block_normal ?_ | refine WX.block_ret ?_ | refine WX.block_same ?_ | refine WX.block_other rfl ?_ | refine WC.label ?_ | refine WC.scope ?_ | refine WX.scope_normal ?_ | refine WX.scope_ret ?_ | refine WX.scope_exit ?_ | refine WL.y rfl (Yld.add rfl rfl (by simp only [In]; omega)) ?_ | refine WL.y rfl (Yld.sub rfl rfl (by simp only [In]; omega)) ?_ | refine WL.y rfl (Yld.mul rfl rfl (by simp only [In]; omega)) ?_ | refine WL.y rfl (Yld.convB tab_ok rfl rfl rfl rfl) ?_ | refine WL.y rfl (Yld.conv tab_ok rfl rfl rfl (by simp only [In]; omega)) ?_ | refine WL.y rfl (Yld.quo rfl rfl (by omega) (by omega) (by simp only [In]; omega)) ?_ | refine WL.y rfl (Yld.rem rfl rfl (by omega) (by omega)) ?_ | refine WL.y rfl (Yld.shl rfl rfl (by omega)) ?_ | refine WL.y rfl (Yld.shr rfl rfl (by omega)) ?_ | refine WL.y rfl (Yld.pure tab_ok rfl) ?_)
        exact WX.retct tab_ok rfl rfl rfl hB4 rfl rfl ⟨by rw [parR, hpar]; rfl, gr_new hgX hg4 hl1⟩
      | some b =>
        have hb := hlb b rfl
        have hor := or_in ha hb
        repeat (first | refine WC.seq ?_ | refine WC.block ?_ | refine WC.region ?_ | refine WL.nil ?_ | refine WX.then_normal ?_ | refine WC.skip ?_ | refine WC.exit ?_ | refine WC.ret ?_ | refine WX.then_exit ?_ | refine WX.then_ret ?_ | refine WX.block_normal ?_ | refine WX.block_ret ?_ | refine WX.block_same ?_ | refine WX.block_other rfl ?_ | refine WC.label ?_ | refine WC.scope ?_ | refine WX.scope_normal ?_ | refine WX.scope_ret ?_ | refine WX.scope_exit ?_ | refine WL.y rfl (Yld.add rfl rfl (by simp only [In]; omega)) ?_ | refine WL.y rfl (Yld.sub rfl rfl (by simp only [In]; omega)) ?_ | refine WL.y rfl (Yld.mul rfl rfl (by simp only [In]; omega)) ?_ | refine WL.y rfl (Yld.convB tab_ok rfl rfl rfl rfl) ?_ | refine WL.y rfl (Yld.conv tab_ok rfl rfl rfl (by simp only [In]; omega)) ?_ | refine WL.y rfl (Yld.quo rfl rfl (by omega) (by omega) (by simp only [In]; omega)) ?_ | refine WL.y rfl (Yld.rem rfl rfl (by omega) (by omega)) ?_ | refine WL.y rfl (Yld.shl rfl rfl (by omega)) ?_ | refine WL.y rfl (Yld.shr rfl rfl (by omega)) ?_ | refine WL.y rfl (Yld.pure tab_ok rfl) ?_ | refine WL.y rfl (Yld.fld flds_ok rfl rfl rfl) ?_ | refine WL.y rfl (Yld.max2 rfl rfl) ?_ | refine WL.y rfl (Yld.min2 rfl rfl) ?_ | refine WL.y rfl (Yld.pickV rfl rfl rfl) ?_ | refine WL.gno rfl rfl rfl rfl ?_ | refine WL.gyes rfl rfl rfl rfl (Yld.add rfl rfl (by simp only [In]; omega)) ?_ | refine WL.gyes rfl rfl rfl rfl (Yld.sub rfl rfl (by simp only [In]; omega)) ?_ | refine WL.gyes rfl rfl rfl rfl (Yld.mul rfl rfl (by simp only [In]; omega)) ?_ | refine WL.gyes rfl rfl rfl rfl (Yld.convB tab_ok rfl rfl rfl rfl) ?_ | refine WL.gyes rfl rfl rfl rfl (Yld.conv tab_ok rfl rfl rfl (by simp only [In]; omega)) ?_ | refine WL.gyes rfl rfl rfl rfl (Yld.quo rfl rfl (by omega) (by omega) (by simp only [In]; omega)) ?_ | refine WL.gyes rfl rfl rfl rfl (Yld.rem rfl rfl (by omega) (by omega)) ?_ | refine WL.gyes rfl rfl rfl rfl (Yld.shl rfl rfl (by omega)) ?_ | refine WL.gyes rfl rfl rfl rfl (Yld.shr rfl rfl (by omega)) ?_ | refine WL.gyes rfl rfl rfl rfl (Yld.pure tab_ok rfl) ?_ | refine WL.gyes rfl rfl rfl rfl (Yld.fld flds_ok rfl rfl rfl) ?_ | refine WL.gyes rfl rfl rfl rfl (Yld.max2 rfl rfl) ?_ | refine WL.gyes rfl rfl rfl rfl (Yld.min2 rfl rfl) ?_ | refine WL.gyes rfl rfl rfl rfl (Yld.pickV rfl rfl rfl) ?_)
        refine WC.cond rfl (fun h => by cases h) (fun _ => ?_)
        repeat (first | refine WL.y rfl (Yld.aaddrN tab_ok rfl rfl rfl (by omega)) ?_ | refine WC.seq ?_ | refine WC.block ?_ | refine WC.region ?_ | refine WL.nil ?_ | refine WX.then_normal ?_ | refine WC.skip ?_ | refine WC.exit ?_ | refine WC.ret ?_ | refine WX.then_exit ?_ | refine WX.then_ret ?_ | refine WX.block_normal ?_ | refine WX.block_ret ?_ | refine WX.block_same ?_ | refine WX.block_other rfl ?_ | refine WC.label ?_ | refine WC.scope ?_ | refine WX.scope_normal ?_ | refine WX.scope_ret ?_ | refine WX.scope_exit ?_ | refine WL.y rfl (Yld.add rfl rfl (by simp only [In]; omega)) ?_ | refine WL.y rfl (Yld.sub rfl rfl (by simp only [In]; omega)) ?_ | refine WL.y rfl (Yld.mul rfl rfl (by simp only [In]; omega)) ?_ | refine WL.y rfl (Yld.convB tab_ok rfl rfl rfl rfl) ?_ | refine WL.y rfl (Yld.conv tab_ok rfl rfl rfl (by simp only [In]; omega)) ?_ | refine WL.y rfl (Yld.quo rfl rfl (by omega) (by omega) (by simp only [In]; omega)) ?_ | refine WL.y rfl (Yld.rem rfl rfl (by omega) (by omega)) ?_ | refine WL.y rfl (Yld.shl rfl rfl (by omega)) ?_ | refine WL.y rfl (Yld.shr rfl rfl (by omega)) ?_ | refine WL.y rfl (Yld.pure tab_ok rfl) ?_ | refine WL.y rfl (Yld.fld flds_ok rfl rfl rfl) ?_ | refine WL.y rfl (Yld.max2 rfl rfl) ?_ | refine WL.y rfl (Yld.min2 rfl rfl) ?_ | refine WL.y rfl (Yld.pickV rfl rfl rfl) ?_ | refine WL.gno rfl rfl rfl rfl ?_ | refine WL.gyes rfl rfl rfl rfl (Yld.add rfl rfl (by simp only [In]; omega)) ?_ | refine WL.gyes rfl rfl rfl rfl (Yld.sub rfl rfl (by simp only [In]; omega)) ?_ | refine WL.gyes rfl rfl rfl rfl (Yld.mul rfl rfl (by simp only [In]; omega)) ?_ | refine WL.gyes rfl rfl rfl rfl (Yld.convB tab_ok rfl rfl rfl rfl) ?_ | refine WL.gyes rfl rfl rfl rfl (Yld.conv tab_ok rfl rfl rfl (by simp only [In]; omega)) ?_ | refine WL.gyes rfl rfl rfl rfl (Yld.quo rfl rfl (by omega) (by omega) (by simp only [In]; omega)) ?_ | refine WL.gyes rfl rfl rfl rfl (Yld.rem rfl rfl (by omega) (by omega)) ?_ | refine WL.gyes rfl rfl rfl rfl (Yld.shl rfl rfl (by omega)) ?_ | refine WL.gyes rfl rfl rfl rfl (Yld.shr rfl rfl (by omega)) ?_ | refine WL.gyes rfl rfl rfl rfl (Yld.pure tab_ok rfl) ?_ | refine WL.gyes rfl rfl rfl rfl (Yld.fld flds_ok rfl rfl rfl) ?_ | refine WL.gyes rfl rfl rfl rfl (Yld.max2 rfl rfl) ?_ | refine WL.gyes rfl rfl rfl rfl (Yld.min2 rfl rfl) ?_ | refine WL.gyes rfl rfl rfl rfl (Yld.pickV rfl rfl rfl) ?_)
        refine WL.store1 (u := vb (u8v (bits .or .u8 (shlV .u8 (a : Int) 4) (b : Int)))) one5 rfl (by rw [vb, hor]; rfl) rfl hB23 (by simp; omega) (fun w4 hB4 hg4 => ?_)
        rw [show 0 + i * 1 = i by omega, fill_set l i 32 _ hll (by omega)] at hB4
        repeat (first | refine WC.seq ?_ | refine WC.block ?_ | refine WC.region ?_ | refine WL.nil ?_ | refine WX.then_normal ?_ | refine WC.skip ?_ | refine WC.exit ?_ | refine WC.ret ?_ | refine WX.then_exit ?_ | refine WX.then_ret ?_ | refine WX.block_normal ?_ | refine WX.block_ret ?_ | refine WX.block_same ?_ | refine WX.block_other rfl ?_ | refine WC.label ?_ | refine WC.scope ?_ | refine WX.scope_normal ?_ | refine WX.scope_ret ?_ | refine WX.scope_exit ?_ | refine WL.y rfl (Yld.add rfl rfl (by simp only [In]; omega)) ?_ | refine WL.y rfl (Yld.sub rfl rfl (by simp only [In]; omega)) ?_ | refine WL.y rfl (Yld.mul rfl rfl (by simp only [In]; omega)) ?_ | refine WL.y rfl (Yld.convB tab_ok rfl rfl rfl rfl) ?_ | refine WL.y rfl (Yld.conv tab_ok rfl rfl rfl (by simp only [In]; omega)) ?_ | refine WL.y rfl (Yld.quo rfl rfl (by omega) (by omega) (by simp only [In]; omega)) ?_ | refine WL.y rfl (Yld.rem rfl rfl (by omega) (by omega)) ?_ | refine WL.y rfl (Yld.shl rfl rfl (by omega)) ?_ | refine WL.y rfl (Yld.shr rfl rfl (by omega)) ?_ | refine WL.y rfl (Yld.pure tab_ok rfl) ?_ | refine WL.y rfl (Yld.fld flds_ok rfl rfl rfl) ?_ | refine WL.y rfl (Yld.max2 rfl rfl) ?_ | refine WL.y rfl (Yld.min2 rfl rfl) ?_ | refine WL.y rfl (Yld.pickV rfl rfl rfl) ?_ | refine WL.gno rfl rfl rfl rfl ?_ | refine WL.gyes rfl rfl rfl rfl (Yld.add rfl rfl (by simp only [In]; omega)) ?_ | refine WL.gyes rfl rfl rfl rfl (Yld.sub rfl rfl (by simp only [In]; omega)) ?_ | refine WL.gyes rfl rfl rfl rfl (Yld.mul rfl rfl (by simp only [In]; omega)) ?_ | refine WL.gyes rfl rfl rfl rfl (Yld.convB tab_ok rfl rfl rfl rfl) ?_ | refine WL.gyes rfl rfl rfl rfl (Yld.conv tab_ok rfl rfl rfl (by simp only [In]; omega)) ?_ | refine WL.gyes rfl rfl rfl rfl (Yld.quo rfl rfl (by omega) (by omega) (by simp only [In]; omega)) ?_ | refine WL.gyes rfl rfl rfl rfl (Yld.rem rfl rfl (by omega) (by omega)) ?_ | refine WL.gyes rfl rfl rfl rfl (Yld.shl rfl rfl (by omega)) ?_ | refine WL.gyes rfl rfl rfl rfl (Yld.shr rfl rfl (by omega)) ?_ | refine WL.gyes rfl rfl rfl rfl (Yld.pure tab_ok rfl) ?_ | refine WL.gyes rfl rfl rfl rfl (Yld.fld flds_ok rfl rfl rfl) ?_ | refine WL.gyes rfl rfl rfl rfl (Yld.max2 rfl rfl) ?_ | refine WL.gyes rfl rfl rfl rfl (Yld.min2 rfl rfl) ?_ | refine WL.gyes rfl rfl rfl rfl (Yld.pickV rfl rfl rfl) ?_)
        exact WX.round2 (i + 1) _ ⟨by omega, hstep, hB4, hB13.keep hg4 (by simp; omega), gr_trans hg23 hg4⟩ (by omega) (by repeat (first | exact Sub.nil | refine Sub.cons rfl ?_))
  · simp only [decide_eq_false_iff_not] at h
    obtain rfl : i = 32 := by omega
    have hpar : parS s = some l := by unfold parS; rw [if_pos hs64, hp]
    simp only [Nat.sub_self, List.replicate_zero, List.append_nil] at hB23
    repeat (first | refine WC.seq ?_ | refine WC.block ?_ | refine WC.region ?_ | refine WL.nil ?_ | refine WX.then_normal ?_ | refine WC.skip ?_ | refine WC.exit ?_ | refine WC.ret ?_ | refine WX.then_exit ?_ | refine WX.then_ret ?_ | refine WX.block_normal ?_ | refine WX.block_ret ?_ | refine WX.block_same ?_ | refine WX.block_other rfl ?_ | refine WC.label ?_ | refine WC.scope ?_ | refine WX.scope_normal ?_ | refine WX.scope_ret ?_ | refine WX.scope_exit ?_ | refine WL.y rfl (Yld.add rfl rfl (by simp only [In]; omega)) ?_ | refine WL.y rfl (Yld.sub rfl rfl (by simp only [In]; omega)) ?_ | refine WL.y rfl (Yld.mul rfl rfl (by simp only [In]; omega)) ?_ | refine WL.y rfl (Yld.convB tab_ok rfl rfl rfl rfl) ?_ | refine WL.y rfl (Yld.conv tab_ok rfl rfl rfl (by simp only [In]; omega)) ?_ | refine WL.y rfl (Yld.quo rfl rfl (by omega) (by omega) (by simp only [In]; omega)) ?_ | refine WL.y rfl (Yld.rem rfl rfl (by omega) (by omega)) ?_ | refine WL.y rfl (Yld.shl rfl rfl (by omega)) ?_ | refine WL.y rfl (Yld.shr rfl rfl (by omega)) ?_ | refine WL.y rfl (Yld.pure tab_ok rfl) ?_ | refine WL.y rfl (Yld.fld flds_ok rfl rfl rfl) ?_ | refine WL.y rfl (Yld.max2 rfl rfl) ?_ | refine WL.y rfl (Yld.min2 rfl rfl) ?_ | refine WL.y rfl (Yld.pickV rfl rfl rfl) ?_ | refine WL.gno rfl rfl rfl rfl ?_ | refine WL.gyes rfl rfl rfl rfl (Yld.add rfl rfl (by simp only [In]; omega)) ?_ | refine WL.gyes rfl rfl rfl rfl (Yld.sub rfl rfl (by simp only [In]; omega)) ?_ | refine WL.gyes rfl rfl rfl rfl (Yld.mul rfl rfl (by simp only [In]; omega)) ?_ | refine WL.gyes rfl rfl rfl rfl (Yld.convB tab_ok rfl rfl rfl rfl) ?_ | refine WL.gyes rfl rfl rfl rfl (Yld.conv tab_ok rfl rfl rfl (by simp only [In]; omega)) ?_ | refine WL.gyes rfl rfl rfl rfl (Yld.quo rfl rfl (by omega) (by omega) (by simp only [In]; omega)) ?_ | refine WL.gyes rfl rfl rfl rfl (Yld.rem rfl rfl (by omega) (by omega)) ?_ | refine WL.gyes rfl rfl rfl rfl (Yld.shl rfl rfl (by omega)) ?_ | refine WL.gyes rfl rfl rfl rfl (Yld.shr rfl rfl (by omega)) ?_ | refine WL.gyes rfl rfl rfl rfl (Yld.pure tab_ok rfl) ?_ | refine WL.gyes rfl rfl rfl rfl (Yld.fld flds_ok rfl rfl rfl) ?_ | refine WL.gyes rfl rfl rfl rfl (Yld.max2 rfl rfl) ?_ | refine WL.gyes rfl rfl rfl rfl (Yld.min2 rfl rfl) ?_ | refine WL.gyes rfl rfl rfl rfl (Yld.pickV rfl rfl rfl) ?_)
    refine WL.y rfl (Yld.bagg (vs := l.map vb) tab_ok hB23 rfl rfl (by rw [List.drop_zero]; exact List.take_of_length_le (by simp [hll])) (by simp [hll])) ?_
    refine WL.storeW tab_ok rfl rfl rfl (oneM One.b _) hB13 rfl (by rw [List.length_map]; exact hll) (fun w4 hB4 hg4 => ?_)
    repeat (first | refine WC.seq ?_ | refine WC.block ?_ | refine WC.region ?_ | refine WL.nil ?_ | refine WX.then_normal ?_ | refine WC.skip ?_ | refine WC.exit ?_ | refine WC.ret ?_ | refine WX.then_exit ?_ | refine WX.then_ret ?_ | refine WX.block_normal ?_ | refine WX.block_ret ?_ | refine WX.block_same ?_ | refine WX.block_other rfl ?_ | refine WC.label ?_ | refine WC.scope ?_ | refine WX.scope_normal ?_ | refine WX.scope_ret ?_ | refine WX.scope_exit ?_ | refine WL.y rfl (Yld.add rfl rfl (by simp only [In]; omega)) ?_ | refine WL.y rfl (Yld.sub rfl rfl (by simp only [In]; omega)) ?_ | refine WL.y rfl (Yld.mul rfl rfl (by simp only [In]; omega)) ?_ | refine WL.y rfl (Yld.convB tab_ok rfl rfl rfl rfl) ?_ | refine WL.y rfl (Yld.conv tab_ok rfl rfl rfl (by simp only [In]; omega)) ?_ | refine WL.y rfl (Yld.quo rfl rfl (by omega) (by omega) (by simp only [In]; omega)) ?_ | refine WL.y rfl (Yld.rem rfl rfl (by omega) (by omega)) ?_ | refine WL.y rfl (Yld.shl rfl rfl (by omega)) ?_ | refine WL.y rfl (Yld.shr rfl rfl (by omega)) ?_ | refine WL.y rfl (Yld.pure tab_ok rfl) ?_ | refine WL.y rfl (Yld.fld flds_ok rfl rfl rfl) ?_ | refine WL.y rfl (Yld.max2 rfl rfl) ?_ | refine WL.y rfl (Yld.min2 rfl rfl) ?_ | refine WL.y rfl (Yld.pickV rfl rfl rfl) ?_ | refine WL.gno rfl rfl rfl rfl ?_ | refine WL.gyes rfl rfl rfl rfl (Yld.add rfl rfl (by simp only [In]; omega)) ?_ | refine WL.gyes rfl rfl rfl rfl (Yld.sub rfl rfl (by simp only [In]; omega)) ?_ | refine WL.gyes rfl rfl rfl rfl (Yld.mul rfl rfl (by simp only [In]; omega)) ?_ | refine WL.gyes rfl rfl rfl rfl (Yld.convB tab_ok rfl rfl rfl rfl) ?_ | refine WL.gyes rfl rfl rfl rfl (Yld.conv tab_ok rfl rfl rfl (by simp only [In]; omega)) ?_ | refine WL.gyes rfl rfl rfl rfl (Yld.quo rfl rfl (by omega) (by omega) (by simp only [In]; omega)) ?_ | refine WL.gyes rfl rfl rfl rfl (Yld.rem rfl rfl (by omega) (by omega)) ?_ | refine WL.gyes rfl rfl rfl rfl (Yld.shl rfl rfl (by omega)) ?_ | refine WL.gyes rfl rfl rfl rfl (Yld.shr rfl rfl (by omega)) ?_ | refine WL.gyes rfl rfl rfl rfl (Yld.pure tab_ok rfl) ?_ | refine WL.gyes rfl rfl rfl rfl (Yld.fld flds_ok rfl rfl rfl) ?_ | refine WL.gyes rfl rfl rfl rfl (Yld.max2 rfl rfl) ?_ | refine WL.gyes rfl rfl rfl rfl (Yld.min2 rfl rfl) ?_ | refine WL.gyes rfl rfl rfl rfl (Yld.pickV rfl rfl rfl) ?_)
    exact WX.retct tab_ok rfl rfl rfl hB4 (by rw [List.length_map]; exact hll) rfl ⟨by rw [parR, hpar], gr_new hgX hg4 hl1⟩
end Go.Proofs.YtilphcippnfklaaDoor
 /- The program's digests and the library's Itoa in the generator's form. -/
namespace Go.Proofs.YtilphcippnfklaaDoor
open Go Go.RowKit
def M_sha_Of (b : List UInt8) (K : List UInt8 → Prop) : Prop := b.length ≤ 1000000 ∧ K (shaS b)
theorem W_sha_Of {w : World} {b : List UInt8} {A : Option Addr} {c n : Nat} {K : List UInt8 → Prop} (hR : Rd vb w A c b) (hn : n = b.length) (H : M_sha_Of b K) : Fn Tryd.prog 13 ⟨[.slice A n c]⟩ w (fun v w' => w.grownBy w' none ∧ ∃ r : List UInt8, v = .agg ⟨a32 r⟩ ∧ K r) := by
  subst hn
  exact (of_fn A c b w hR H.1).mono fun v w' ⟨hv, hg⟩ => ⟨hg, shaS b, by rw [hv, a32_map _ (shaS_len b)], H.2⟩
def M_sha_Many (l : List (List UInt8)) (K : List UInt8 → Prop) : Prop := l.length ≤ 100 ∧ (∀ x ∈ l, x.length ≤ 10000) ∧ K (manyS l)
theorem W_sha_Many {w : World} {l : List (List UInt8)} {A : Option Addr} {c n : Nat} {K : List UInt8 → Prop} (hR : Rd vs w A c l) (hn : n = l.length) (H : M_sha_Many l K) : Fn Tryd.prog 16 ⟨[.slice A n c]⟩ w (fun v w' => w.grownBy w' none ∧ ∃ r : List UInt8, v = .agg ⟨a32 r⟩ ∧ K r) := by
  subst hn
  exact (many_fn A c l w hR H.1 H.2.1).mono fun v w' ⟨hv, hg⟩ => ⟨hg, manyS l, by rw [hv, a32_map _ (manyS_len l)], H.2.2⟩
def M_sha_Text (s : List UInt8) (K : List UInt8 → Prop) : Prop := ∀ t : List UInt8, t.length = 32 → (∀ i, i < 32 → t.getD i 0 = s.getD i 0) → K (hexS t)
theorem W_sha_Text {w : World} {s : List UInt8} {K : List UInt8 → Prop} (H : M_sha_Text s K) : Fn Tryd.prog 12 ⟨[.agg ⟨a32 s⟩]⟩ w (fun v w' => w.grownBy w' none ∧ ∃ r : List UInt8, v = vs r ∧ K r) := by
  have hl : ((List.range 32).map fun i => s.getD i 0).length = 32 := by simp
  have e : a32 s = ((List.range 32).map fun i => s.getD i 0).map vb := by rw [a32_range, List.map_map]; rfl
  rw [e]
  exact (text_fn _ w hl).mono fun v w' ⟨hv, hg⟩ => ⟨hg, _, hv, H _ hl fun i hi => by simp [List.getD, hi]⟩
def M_smithylaw2_first (K : Bool → Prop) : Prop := K true
theorem W_smithylaw2_first {w : World} {K : Bool → Prop} (H : M_smithylaw2_first K) : Fn Tryd.prog 9 ⟨[]⟩ w (fun v w' => w.grownBy w' none ∧ ∃ r : Bool, v = .bool r ∧ K r) :=
  (sfirst_fn w).mono fun v w' ⟨hv, hg⟩ => ⟨hg, true, hv, H⟩
def M_sha_Parse (s : List UInt8) (K : List UInt8 → Er → Prop) : Prop := (∀ l, parS s = some l → K l .ok) ∧ (parS s = none → K (List.replicate 32 0) (.e 12))
theorem parS_len {s l : List UInt8} (h : parS s = some l) : l.length = 32 := by
  unfold parS at h
  split at h
  · exact parN_len s 32 l h
  · cases h
theorem W_sha_Parse {S : List Nat} {w : World} {s : List UInt8} {K : List UInt8 → Er → Prop} (hG : GOK S w) (h12 : 12 ∈ S) (H : M_sha_Parse s K) : Fn Tryd.prog 10 ⟨[vs s]⟩ w (fun v w' => w.grownBy w' none ∧ ∃ (r0 : List UInt8), ∃ (v_r1 : Value), ∃ (r1 : Er), v = .tuple #[.agg ⟨a32 r0⟩, v_r1] ∧ ErrR S w' v_r1 r1 ∧ K r0 r1) := by
  obtain ⟨E, hE, hE'⟩ := hG.get 12 0 h12 rfl rfl
  refine (parse_fn s E w hE).mono fun v w' ⟨hv, hg⟩ => ?_
  unfold parR at hv
  cases h : parS s with
  | some l =>
    rw [h] at hv
    exact ⟨hg, l, .nilIface, .ok, by rw [hv, a32_map _ (parS_len h)], rfl, H.1 l h⟩
  | none =>
    rw [h] at hv
    exact ⟨hg, _, E, .e 12, by rw [hv, a32_map _ (by simp)], hE'.grown hg, H.2 h⟩
end Go.Proofs.YtilphcippnfklaaDoor
 /- Printed by a program (wip/vg): elements of several cells. -/
namespace Go.Proofs.YtilphcippnfklaaDoor
open Go Go.RowKit

end Go.Proofs.YtilphcippnfklaaDoor
 /- Regions some of whose operations may come in several orders: the floats once, the others order by order, what stands behind once. -/
namespace Go.Proofs.YtilphcippnfklaaDoor
open Go Go.RowKit
section
variable {P : Program} {N : Nat} {ops : Array Oper} {fl : Nat → Bool} {D : World → Prop} {n g : Nat} {K : Act → World → Prop} {Q : Post} {L : Slots} {w : World} {f : Nat} {listed : Array Bool} {d : Nat} {op : Op} {ty : TypeId} {pos : String} {af : Array Edge} {gd : Option (Nat × Bool)}
structure HeadOk (ops : Array Oper) (n : Nat) : Prop where
  sel : Region.noSelect ops = true
  sink : Region.sinkB .any ops n = true
  chain : Region.chainB .any ops n = true
  lt : n < ops.size
def WA (P : Program) (N : Nat) (ops : Array Oper) (fl : Nat → Bool) (D : World → Prop) (n g : Nat) (K : Act → World → Prop) (f : Nat) (listed : Array Bool) (L : Slots) (w : World) : Prop :=
  HeadOk ops n → HeadInv .any ops n listed → ∀ a w1, Eqv w w1 → D w1 → Has N L a → anyT P .any ops fl D n (fun l' a' w' => Region.seqB .any ops g n l' = true ∧ K a' w') f listed a w1
def WI (P : Program) (N : Nat) (ops : Array Oper) (fl : Nat → Bool) (D : World → Prop) (n g : Nat) (K : Act → World → Prop) (f : Nat) (listed : Array Bool) (L : Slots) (w : World) (i : Nat) : Prop :=
  HeadOk ops n → HeadInv .any ops n (listed.setIfInBounds i true) → ∀ a w1, Eqv w w1 → D w1 → Has N L a → ∃ o, ops[i]? = some o ∧ fl i = false ∧ sRun P ops D o a w1 fun a' w' => anyT P .any ops fl D n (fun l' a' w' => Region.seqB .any ops g n l' = true ∧ K a' w') f (listed.setIfInBounds i true) a' w'
theorem WC.ordersK {i : Nat} {l : List Oper} (n : Nat) (fl : Nat → Bool) (D : World → Prop) (K : Act → World → Prop) (hm : P.follows .mixedOrders = true) (hB : (Region.noSelect l.toArray && (Region.sinkB .any l.toArray n && (Region.chainB .any l.toArray n && Nat.blt n l.length))) = true) (hE : ∀ w', Eqv w w' → D w')
    (h : WA P N l.toArray fl D n (l.length - n) K n (Array.replicate l.length false) L w)
    (ht : ∀ a w', K a w' → wpList P l.toArray Q (l.drop n) a w') : WC P N Q (.region i l.toArray true) L w := fun a wx e ha => by
  simp only [Bool.and_eq_true] at hB
  obtain ⟨hsel, hs, hc, hlt⟩ := hB
  have hn' : n < l.length := by simpa [Nat.blt_eq] using hlt
  refine wp_region_any hm ?_
  have inv0 : HeadInv .any l.toArray n (Array.replicate l.length false) :=
    ⟨by simp, fun j oj _ hl => (by rw [getD_replicate_false] at hl; cases hl), fun t _ ht => getD_in (by simpa using ht) (getD_replicate_false _ _)⟩
  have H := h ⟨hsel, hs, hc, by simpa using hn'⟩ inv0 a { wx with drawn := wx.drawn + 1 } (e.drawn _) (hE _ (e.drawn _)) ha
  have h2 := any_of_anyT (Q' := Q) (g := l.length - n) (fun listed a' w' _ hL => by
    obtain ⟨hq, hK⟩ := hL
    have := wpAny_of_seq (md := .any) (Q' := Q) (l.drop n) n listed a' w' (fun j => by simp [List.getElem?_drop]) (by rw [List.length_drop]; exact hq) (ht a' w' hK)
    rwa [List.length_drop] at this) _ _ _ _ (hE { wx with drawn := wx.drawn + 1 } (e.drawn _)) H
  rw [show n + (l.length - n) = l.length by omega] at h2
  simpa using h2
def Ends4 {S1 S2 S3 S4 : Type} (N : Nat) (Ls : S1 → S2 → S3 → S4 → Slots) (I : S1 → S2 → S3 → S4 → World → Prop) (a : Act) (w : World) : Prop := ∃ p q r s w0, I p q r s w0 ∧ Eqv w0 w ∧ Has N (Ls p q r s) a
theorem WC.orders4 {S1 S2 S3 S4 : Type} {i : Nat} {l : List Oper} (n : Nat) (fl : Nat → Bool) (D : World → Prop) (Ls : S1 → S2 → S3 → S4 → Slots) (I : S1 → S2 → S3 → S4 → World → Prop) (hm : P.follows .mixedOrders = true) (hB : (Region.noSelect l.toArray && (Region.sinkB .any l.toArray n && (Region.chainB .any l.toArray n && Nat.blt n l.length))) = true) (hE : ∀ w', Eqv w w' → D w')
    (h : WA P N l.toArray fl D n (l.length - n) (Ends4 N Ls I) n (Array.replicate l.length false) L w)
    (ht : ∀ p q r s w0, I p q r s w0 → WL P N l.toArray Q (l.drop n) (Ls p q r s) w0) : WC P N Q (.region i l.toArray true) L w :=
  WC.ordersK n fl D _ hm hB hE h fun a w' ⟨p, q, r, s, w0, hI, he, hh⟩ => ht p q r s w0 hI a w' he hh
theorem WA.done4 {S1 S2 S3 S4 : Type} {Ls : S1 → S2 → S3 → S4 → Slots} {I : S1 → S2 → S3 → S4 → World → Prop} (p : S1) (q : S2) (r : S3) (s : S4) (hq : Region.seqB .any ops g n listed = true) (hI : I p q r s w) (hs : Sub L (Ls p q r s)) : WA P N ops fl D n g (Ends4 N Ls I) 0 listed L w := fun _ _ _ _ e _ ha => ⟨hq, p, q, r, s, w, hI, e, ha.sub hs⟩
def EndsF (N : Nat) (F : Slots → World → Prop) (a : Act) (w : World) : Prop := ∃ L w0, F L w0 ∧ Eqv w0 w ∧ Has N L a
theorem WC.ordersF {i : Nat} {l : List Oper} (n : Nat) (fl : Nat → Bool) (D : World → Prop) (F : Slots → World → Prop) (hm : P.follows .mixedOrders = true) (hB : (Region.noSelect l.toArray && (Region.sinkB .any l.toArray n && (Region.chainB .any l.toArray n && Nat.blt n l.length))) = true) (hE : ∀ w', Eqv w w' → D w')
    (ht : ∀ L' w', F L' w' → WL P N l.toArray Q (l.drop n) L' w')
    (h : WA P N l.toArray fl D n (l.length - n) (EndsF N F) n (Array.replicate l.length false) L w) : WC P N Q (.region i l.toArray true) L w :=
  WC.ordersK n fl D _ hm hB hE h fun a w' ⟨L', w0, hI, he, hh⟩ => ht L' w0 hI a w' he hh
theorem WA.doneF {F : Slots → World → Prop} (L' : Slots) (hq : Region.seqB .any ops g n listed = true) (hI : F L' w) (hs : Sub L L') : WA P N ops fl D n g (EndsF N F) 0 listed L w := fun _ _ _ _ e _ ha => ⟨hq, L', w, hI, e, ha.sub hs⟩
theorem WA.y {v : Value} (k : Nat) (ho : ops[k]? = some ⟨some d, op, ty, pos, af, none⟩) (hf : (fl k && ((Region.ready .any ops listed).contains k && (Region.free .any ops listed k && Nat.blt k n))) = true) (hd : Nat.blt d N = true) (hy : ∀ w', D w' → Yld P N w' ⟨some d, op, ty, pos, af, none⟩ L v)
    (h : WA P N ops fl D n g K f (listed.setIfInBounds k true) ((d, v) :: L) w) : WA P N ops fl D n g K (f + 1) listed L w := fun ok inv a w1 e hw ha => by
  simp only [Bool.and_eq_true] at hf
  obtain ⟨hfl, hr, hfr, hkn⟩ := hf
  have hr' : k ∈ Region.ready .any ops listed := by simpa using hr
  have hkn' : k < n := by simpa [Nat.blt_eq] using hkn
  exact float_firstT ho hfl (Region.noSelect_spec ok.sel) ok.sink ok.chain ok.lt hkn' (fun _ _ _ hL => seqB_ready hL.1) f listed a w1 hw inv (Region.free_spec ho hfr) hr'
    (.inl ⟨by simp [Region.wanted], fun w' hw' => hy w' hw' a w' (Eqv.refl _) ha⟩) (h ok (inv.set hr' hkn') _ _ e hw (ha.put hd v))
def AllL {α : Type} (p : α → Prop) : List α → Prop
  | [] => True
  | [x] => p x
  | x :: y :: l => p x ∧ AllL p (y :: l)
theorem AllL.mem {α : Type} {p : α → Prop} : ∀ {l : List α}, AllL p l → ∀ x ∈ l, p x
  | [], _, x, h => by simp at h
  | [y], h, x, hx => by simp at hx; subst hx; exact h
  | y :: z :: l, h, x, hx => by
    rcases List.mem_cons.1 hx with rfl | hx
    · exact h.1
    · exact AllL.mem h.2 x hx
theorem WA.split (is : List Nat) (hr : Region.ready .any ops listed = is) (hc : (!is.isEmpty && is.all fun i => Nat.blt i n) = true) (h : AllL (WI P N ops fl D n g K f listed L w) is) : WA P N ops fl D n g K (f + 1) listed L w := fun ok inv a w1 e hw ha => by
  simp only [Bool.and_eq_true] at hc
  refine ⟨fun h0 => ?_, fun i hi => ?_⟩
  · rw [hr] at h0; subst h0; simp at hc
  · have hi' := hi
    rw [hr] at hi'
    have hin : i < n := by have := List.all_eq_true.1 hc.2 i hi'; simpa [Nat.blt_eq] using this
    obtain ⟨o, ho, hfl, hs⟩ := h.mem i hi' ok (inv.set hi hin) a w1 e hw ha
    exact ⟨hin, o, ho, .inr ⟨hfl, hs⟩⟩
theorem WI.put {i : Nat} {R : Value → World → Prop} (ho : ops[i]? = some ⟨some d, op, ty, pos, af, none⟩) (hf : fl i = false) (hd : Nat.blt d N = true) (hr : Eff P N w ⟨some d, op, ty, pos, af, none⟩ L R) (hD : ∀ v w', R v w' → D w')
    (hk : ∀ v w', R v w' → WA P N ops fl D n g K f (listed.setIfInBounds i true) ((d, v) :: L) w') : WI P N ops fl D n g K f listed L w i := fun ok inv a w1 e hw ha => by
  refine ⟨_, ho, hf, ?_⟩
  unfold sRun
  rw [if_pos (by simp [Region.wanted])]
  obtain ⟨v, w', h, hR⟩ := hr a w1 e ha
  rw [h]
  exact ⟨hD v w' hR, hk v w' hR ok inv _ w' (Eqv.refl _) (hD v w' hR) (ha.put hd v)⟩
theorem WI.eff {i : Nat} {R : World → Prop} (ho : ops[i]? = some ⟨none, op, ty, pos, af, none⟩) (hf : fl i = false) (hr : Ef0 P N w ⟨none, op, ty, pos, af, none⟩ L R) (hD : ∀ w', R w' → D w')
    (hk : ∀ w', R w' → WA P N ops fl D n g K f (listed.setIfInBounds i true) L w') : WI P N ops fl D n g K f listed L w i := fun ok inv a w1 e hw ha => by
  refine ⟨_, ho, hf, ?_⟩
  unfold sRun
  rw [if_pos (by simp [Region.wanted])]
  obtain ⟨w', h, hR⟩ := hr a w1 e ha
  rw [h]
  exact ⟨hD w' hR, hk w' hR ok inv _ w' (Eqv.refl _) (hD w' hR) ha⟩
theorem WI.call {i : Nat} {R : Value → World → Prop} {fn : FuncId} {as_ : List Operand} {ts : Array TypeId} {vs : List Value} (ho : ops[i]? = some ⟨some d, .call ⟨.value (.func fn), ⟨as_⟩, ts⟩, ty, pos, af, gd⟩) (hf : fl i = false) (hg : Wants N ops L gd) (hd : Nat.blt d N = true) (hv : opvs L as_ = some vs) (hc : Fn P fn ⟨vs⟩ w R) (hD : ∀ v w', R v w' → ∀ w2, Eqv w' w2 → D w2)
    (hk : ∀ v w', R v w' → WA P N ops fl D n g K f (listed.setIfInBounds i true) ((d, v) :: L) w') : WI P N ops fl D n g K f listed L w i := fun ok inv a w1 e hw ha => by
  refine ⟨_, ho, hf, ?_⟩
  unfold sRun
  rw [if_pos (Wants.wanted (o := ⟨some d, .call ⟨.value (.func fn), ⟨as_⟩, ts⟩, ty, pos, af, gd⟩) hg ha), run_enter ha hv hc.1]
  refine (hc.2 w1 e).mono ?_
  rintro en w' ⟨v, w0, rfl, h0, hR⟩
  exact ⟨v, rfl, hD v w0 hR w' h0, hk v w0 hR ok inv _ w' h0 (hD v w0 hR w' h0) (ha.put hd v)⟩
end
end Go.Proofs.YtilphcippnfklaaDoor
 /- Printed by a program (wip/vg): what the functions mean, plainly, and their walks. -/
namespace Go.Proofs.YtilphcippnfklaaDoor
open Go Go.RowKit
attribute [local irreducible] WL WC WX WQ WK WJ Yld Eff Ef0 Fn
def M_smithyref1_table (K : (List Int) → Prop) : Prop :=
 K ([(1116352408 : Int), (1899447441 : Int), (3049323471 : Int), (3921009573 : Int), (961987163 : Int), (1508970993 : Int), (2453635748 : Int), (2870763221 : Int), (3624381080 : Int), (310598401 : Int), (607225278 : Int), (1426881987 : Int), (1925078388 : Int), (2162078206 : Int), (2614888103 : Int), (3248222580 : Int), (3835390401 : Int), (4022224774 : Int), (264347078 : Int), (604807628 : Int), (770255983 : Int), (1249150122 : Int), (1555081692 : Int), (1996064986 : Int), (2554220882 : Int), (2821834349 : Int), (2952996808 : Int), (3210313671 : Int), (3336571891 : Int), (3584528711 : Int), (113926993 : Int), (338241895 : Int), (666307205 : Int), (773529912 : Int), (1294757372 : Int), (1396182291 : Int), (1695183700 : Int), (1986661051 : Int), (2177026350 : Int), (2456956037 : Int), (2730485921 : Int), (2820302411 : Int), (3259730800 : Int), (3345764771 : Int), (3516065817 : Int), (3600352804 : Int), (4094571909 : Int), (275423344 : Int), (430227734 : Int), (506948616 : Int), (659060556 : Int), (883997877 : Int), (958139571 : Int), (1322822218 : Int), (1537002063 : Int), (1747873779 : Int), (1955562222 : Int), (2024104815 : Int), (2227730452 : Int), (2361852424 : Int), (2428436474 : Int), (2756734187 : Int), (3204031479 : Int), (3329325298 : Int)] : List Int)

def M_smithyref1_turn (x : Int) (n : Int) (K : Int → Prop) : Prop :=
 (0 ≤ n) ∧
 (0 ≤ IntKind.wrap .u64 ((32 : Int) - n)) ∧
 K (bits .or .u32 (shrV .u32 x n.toNat) (shlV .u32 x (IntKind.wrap .u64 ((32 : Int) - n)).toNat))

def M_smithyref1_Sum (s : List UInt8) (K : (List UInt8) → Prop) : Prop :=
 M_smithyref1_table (fun (k : List Int) =>
 (In .i64 ((s.length : Int) + (72 : Int))) ∧
 (0 ≤ (s.length : Int) + (72 : Int) ∧ ((s.length : Int) + (72 : Int)) * 1 ≤ 140737488355328 ∧ (s.length : Int) + (72 : Int) ≤ 140737488355328) ∧
 (((([] : List UInt8)).length + s.length) * 1 ≤ 140737488355328) ∧
 (((([] : List UInt8) ++ s).length + (([128] : List UInt8)).length) * 1 ≤ 140737488355328) ∧
 Lp1 (fun (m : List UInt8) k_1 => (0 ≤ (m.length : Int) ∧ 0 < (64 : Int)) ∧
 ((¬ (((m.length : Int) % (64 : Int)) = (56 : Int)) → ((m.length + (([0] : List UInt8)).length) * 1 ≤ 140737488355328) ∧
 k_1 (m ++ ([0] : List UInt8))) ∧
 (((m.length : Int) % (64 : Int)) = (56 : Int) → Lp2 (fun (m2 : List UInt8) (i : Int) k_2 => (((0 : Int) ≤ i → (In .i64 ((8 : Int) * i)) ∧
 (0 ≤ IntKind.wrap .u64 ((8 : Int) * i)) ∧
 (0 ≤ IntKind.wrap .u8 (shrV .u64 (IntKind.wrap .u64 ((IntKind.wrap .u64 (s.length : Int)) * (8 : Int))) (IntKind.wrap .u64 ((8 : Int) * i)).toNat) ∧ IntKind.wrap .u8 (shrV .u64 (IntKind.wrap .u64 ((IntKind.wrap .u64 (s.length : Int)) * (8 : Int))) (IntKind.wrap .u64 ((8 : Int) * i)).toNat) ≤ 255) ∧
 ((m2.length + (([UInt8.ofNat (IntKind.wrap .u8 (shrV .u64 (IntKind.wrap .u64 ((IntKind.wrap .u64 (s.length : Int)) * (8 : Int))) (IntKind.wrap .u64 ((8 : Int) * i)).toNat)).toNat] : List UInt8)).length) * 1 ≤ 140737488355328) ∧
 (In .i64 (i - (1 : Int))) ∧
 k_2 (m2 ++ ([UInt8.ofNat (IntKind.wrap .u8 (shrV .u64 (IntKind.wrap .u64 ((IntKind.wrap .u64 (s.length : Int)) * (8 : Int))) (IntKind.wrap .u64 ((8 : Int) * i)).toNat)).toNat] : List UInt8)) (i - (1 : Int))) ∧
 (¬ ((0 : Int) ≤ i) → Lp2 (fun (at_ : Int) (h : List Int) k_3 => 8 = h.length → ((at_ < (m2.length : Int) → (0 ≤ (64 : Int) ∧ (64 : Int) * 4 ≤ 140737488355328 ∧ (64 : Int) ≤ 140737488355328) ∧
 Lp2 (fun (i2 : Int) (w_ : List Int) k_4 => 64 = w_.length → ((i2 < (16 : Int) → (In .i64 ((4 : Int) * i2)) ∧
 (In .i64 (at_ + ((4 : Int) * i2))) ∧
 (0 ≤ at_ + ((4 : Int) * i2) ∧ at_ + ((4 : Int) * i2) < (m2.length : Nat)) ∧
 (In .i64 ((4 : Int) * i2)) ∧
 (In .i64 (at_ + ((4 : Int) * i2))) ∧
 (In .i64 ((at_ + ((4 : Int) * i2)) + (1 : Int))) ∧
 (0 ≤ (at_ + ((4 : Int) * i2)) + (1 : Int) ∧ (at_ + ((4 : Int) * i2)) + (1 : Int) < (m2.length : Nat)) ∧
 (In .i64 ((4 : Int) * i2)) ∧
 (In .i64 (at_ + ((4 : Int) * i2))) ∧
 (In .i64 ((at_ + ((4 : Int) * i2)) + (2 : Int))) ∧
 (0 ≤ (at_ + ((4 : Int) * i2)) + (2 : Int) ∧ (at_ + ((4 : Int) * i2)) + (2 : Int) < (m2.length : Nat)) ∧
 (In .i64 ((4 : Int) * i2)) ∧
 (In .i64 (at_ + ((4 : Int) * i2))) ∧
 (In .i64 ((at_ + ((4 : Int) * i2)) + (3 : Int))) ∧
 (0 ≤ (at_ + ((4 : Int) * i2)) + (3 : Int) ∧ (at_ + ((4 : Int) * i2)) + (3 : Int) < (m2.length : Nat)) ∧
 (0 ≤ i2 ∧ i2 < (64 : Nat)) ∧
 (In .i64 (i2 + (1 : Int))) ∧
 k_4 (i2 + (1 : Int)) (w_.set i2.toNat (bits .or .u32 (bits .or .u32 (bits .or .u32 (shlV .u32 ((m2.getD ((at_ + ((4 : Int) * i2)).toNat) 0).toNat : Int) 24) (shlV .u32 ((m2.getD (((at_ + ((4 : Int) * i2)) + (1 : Int)).toNat) 0).toNat : Int) 16)) (shlV .u32 ((m2.getD (((at_ + ((4 : Int) * i2)) + (2 : Int)).toNat) 0).toNat : Int) 8)) ((m2.getD (((at_ + ((4 : Int) * i2)) + (3 : Int)).toNat) 0).toNat : Int)))) ∧
 (¬ (i2 < (16 : Int)) → Lp2 (fun (i3 : Int) (w_2 : List Int) k_5 => 64 = w_2.length → ((i3 < (64 : Int) → (In .i64 (i3 - (15 : Int))) ∧
 (0 ≤ i3 - (15 : Int) ∧ i3 - (15 : Int) < (64 : Nat)) ∧
 M_smithyref1_turn (w_2.getD ((i3 - (15 : Int)).toNat) 0) (7 : Int) (fun (t124 : Int) =>
 (In .i64 (i3 - (15 : Int))) ∧
 (0 ≤ i3 - (15 : Int) ∧ i3 - (15 : Int) < (64 : Nat)) ∧
 M_smithyref1_turn (w_2.getD ((i3 - (15 : Int)).toNat) 0) (18 : Int) (fun (t130 : Int) =>
 (In .i64 (i3 - (15 : Int))) ∧
 (0 ≤ i3 - (15 : Int) ∧ i3 - (15 : Int) < (64 : Nat)) ∧
 (In .i64 (i3 - (2 : Int))) ∧
 (0 ≤ i3 - (2 : Int) ∧ i3 - (2 : Int) < (64 : Nat)) ∧
 M_smithyref1_turn (w_2.getD ((i3 - (2 : Int)).toNat) 0) (17 : Int) (fun (t144 : Int) =>
 (In .i64 (i3 - (2 : Int))) ∧
 (0 ≤ i3 - (2 : Int) ∧ i3 - (2 : Int) < (64 : Nat)) ∧
 M_smithyref1_turn (w_2.getD ((i3 - (2 : Int)).toNat) 0) (19 : Int) (fun (t150 : Int) =>
 (In .i64 (i3 - (2 : Int))) ∧
 (0 ≤ i3 - (2 : Int) ∧ i3 - (2 : Int) < (64 : Nat)) ∧
 (In .i64 (i3 - (16 : Int))) ∧
 (0 ≤ i3 - (16 : Int) ∧ i3 - (16 : Int) < (64 : Nat)) ∧
 (In .i64 (i3 - (7 : Int))) ∧
 (0 ≤ i3 - (7 : Int) ∧ i3 - (7 : Int) < (64 : Nat)) ∧
 (0 ≤ i3 ∧ i3 < (64 : Nat)) ∧
 (In .i64 (i3 + (1 : Int))) ∧
 k_5 (i3 + (1 : Int)) (w_2.set i3.toNat (IntKind.wrap .u32 ((IntKind.wrap .u32 ((IntKind.wrap .u32 ((w_2.getD ((i3 - (16 : Int)).toNat) 0) + (bits .xor .u32 (bits .xor .u32 t124 t130) (shrV .u32 (w_2.getD ((i3 - (15 : Int)).toNat) 0) 3)))) + (w_2.getD ((i3 - (7 : Int)).toNat) 0))) + (bits .xor .u32 (bits .xor .u32 t144 t150) (shrV .u32 (w_2.getD ((i3 - (2 : Int)).toNat) 0) 10)))))))))) ∧
 (¬ (i3 < (64 : Int)) → (0 ≤ (8 : Int) ∧ (8 : Int) * 4 ≤ 140737488355328 ∧ (8 : Int) ≤ 140737488355328) ∧
 (((([] : List Int)).length + h.length) * 4 ≤ 140737488355328) ∧
 Lp2 (fun (v : List Int) (i4 : Int) k_6 => ((i4 < (64 : Int) → (0 ≤ (4 : Int) ∧ (4 : Int) < (v.length : Nat)) ∧
 M_smithyref1_turn (v.getD 4 0) (6 : Int) (fun (t187 : Int) =>
 (0 ≤ (4 : Int) ∧ (4 : Int) < (v.length : Nat)) ∧
 M_smithyref1_turn (v.getD 4 0) (11 : Int) (fun (t191 : Int) =>
 (0 ≤ (4 : Int) ∧ (4 : Int) < (v.length : Nat)) ∧
 M_smithyref1_turn (v.getD 4 0) (25 : Int) (fun (t196 : Int) =>
 (0 ≤ (4 : Int) ∧ (4 : Int) < (v.length : Nat)) ∧
 (0 ≤ (5 : Int) ∧ (5 : Int) < (v.length : Nat)) ∧
 (0 ≤ (4 : Int) ∧ (4 : Int) < (v.length : Nat)) ∧
 (0 ≤ (6 : Int) ∧ (6 : Int) < (v.length : Nat)) ∧
 (0 ≤ (7 : Int) ∧ (7 : Int) < (v.length : Nat)) ∧
 (0 ≤ i4 ∧ i4 < (k.length : Nat)) ∧
 (0 ≤ i4 ∧ i4 < (64 : Nat)) ∧
 (0 ≤ (0 : Int) ∧ (0 : Int) < (v.length : Nat)) ∧
 M_smithyref1_turn (v.getD 0 0) (2 : Int) (fun (t234 : Int) =>
 (0 ≤ (0 : Int) ∧ (0 : Int) < (v.length : Nat)) ∧
 M_smithyref1_turn (v.getD 0 0) (13 : Int) (fun (t238 : Int) =>
 (0 ≤ (0 : Int) ∧ (0 : Int) < (v.length : Nat)) ∧
 M_smithyref1_turn (v.getD 0 0) (22 : Int) (fun (t243 : Int) =>
 (0 ≤ (0 : Int) ∧ (0 : Int) < (v.length : Nat)) ∧
 (0 ≤ (1 : Int) ∧ (1 : Int) < (v.length : Nat)) ∧
 (0 ≤ (0 : Int) ∧ (0 : Int) < (v.length : Nat)) ∧
 (0 ≤ (2 : Int) ∧ (2 : Int) < (v.length : Nat)) ∧
 (0 ≤ (1 : Int) ∧ (1 : Int) < (v.length : Nat)) ∧
 (0 ≤ (2 : Int) ∧ (2 : Int) < (v.length : Nat)) ∧
 (0 ≤ (0 : Int) ∧ (0 : Int) < (v.length : Nat)) ∧
 (0 ≤ (1 : Int) ∧ (1 : Int) < (v.length : Nat)) ∧
 (0 ≤ (2 : Int) ∧ (2 : Int) < (v.length : Nat)) ∧
 (0 ≤ (3 : Int) ∧ (3 : Int) < (v.length : Nat)) ∧
 (0 ≤ (4 : Int) ∧ (4 : Int) < (v.length : Nat)) ∧
 (0 ≤ (5 : Int) ∧ (5 : Int) < (v.length : Nat)) ∧
 (0 ≤ (6 : Int) ∧ (6 : Int) < (v.length : Nat)) ∧
 (In .i64 (i4 + (1 : Int))) ∧
 k_6 ([IntKind.wrap .u32 ((IntKind.wrap .u32 ((IntKind.wrap .u32 ((IntKind.wrap .u32 ((IntKind.wrap .u32 ((IntKind.wrap .u32 ((v.getD 7 0) + (bits .xor .u32 (bits .xor .u32 t187 t191) t196))) + (bits .xor .u32 (bits .and .u32 (v.getD 4 0) (v.getD 5 0)) (bits .and .u32 (bits .xor .u32 (if IntKind.signed .u32 then -1 else IntKind.max .u32) (v.getD 4 0)) (v.getD 6 0))))) + (k.getD i4.toNat 0))) + (w_2.getD i4.toNat 0))) + (bits .xor .u32 (bits .xor .u32 t234 t238) t243))) + (bits .xor .u32 (bits .xor .u32 (bits .and .u32 (v.getD 0 0) (v.getD 1 0)) (bits .and .u32 (v.getD 0 0) (v.getD 2 0))) (bits .and .u32 (v.getD 1 0) (v.getD 2 0)))), v.getD 0 0, v.getD 1 0, v.getD 2 0, IntKind.wrap .u32 ((v.getD 3 0) + (IntKind.wrap .u32 ((IntKind.wrap .u32 ((IntKind.wrap .u32 ((IntKind.wrap .u32 ((v.getD 7 0) + (bits .xor .u32 (bits .xor .u32 t187 t191) t196))) + (bits .xor .u32 (bits .and .u32 (v.getD 4 0) (v.getD 5 0)) (bits .and .u32 (bits .xor .u32 (if IntKind.signed .u32 then -1 else IntKind.max .u32) (v.getD 4 0)) (v.getD 6 0))))) + (k.getD i4.toNat 0))) + (w_2.getD i4.toNat 0)))), v.getD 4 0, v.getD 5 0, v.getD 6 0] : List Int) (i4 + (1 : Int))))))))) ∧
 (¬ (i4 < (64 : Int)) → Lp2 (fun (i5 : Int) (h2 : List Int) k_7 => 8 = h2.length → ((i5 < (8 : Int) → (0 ≤ i5 ∧ i5 < (8 : Nat)) ∧
 (0 ≤ i5 ∧ i5 < (v.length : Nat)) ∧
 (0 ≤ i5 ∧ i5 < (8 : Nat)) ∧
 (In .i64 (i5 + (1 : Int))) ∧
 k_7 (i5 + (1 : Int)) (h2.set i5.toNat (IntKind.wrap .u32 ((h2.getD i5.toNat 0) + (v.getD i5.toNat 0))))) ∧
 (¬ (i5 < (8 : Int)) → (In .i64 (at_ + (64 : Int))) ∧
 k_3 (at_ + (64 : Int)) h2))) (0 : Int) h))) (([] : List Int) ++ h) (0 : Int)))) (16 : Int) w_))) (0 : Int) (List.replicate 64 0)) ∧
 (¬ (at_ < (m2.length : Int)) → Lp2 (fun (i6 : Int) (out0 : List UInt8) k_8 => ((i6 < (8 : Int) → Lp2 (fun (j : Int) (out02 : List UInt8) k_9 => ((j < (4 : Int) → (In .i64 ((4 : Int) * i6)) ∧
 (In .i64 (((4 : Int) * i6) + j)) ∧
 (0 ≤ i6 ∧ i6 < (8 : Nat)) ∧
 (In .i64 ((8 : Int) * j)) ∧
 (In .i64 ((24 : Int) - ((8 : Int) * j))) ∧
 (0 ≤ IntKind.wrap .u64 ((24 : Int) - ((8 : Int) * j))) ∧
 (0 ≤ ((4 : Int) * i6) + j ∧ ((4 : Int) * i6) + j < 32) ∧
 (0 ≤ IntKind.wrap .u8 (shrV .u32 (h.getD i6.toNat 0) (IntKind.wrap .u64 ((24 : Int) - ((8 : Int) * j))).toNat) ∧ IntKind.wrap .u8 (shrV .u32 (h.getD i6.toNat 0) (IntKind.wrap .u64 ((24 : Int) - ((8 : Int) * j))).toNat) ≤ 255) ∧
 (out02.length = 32) ∧
 (In .i64 (j + (1 : Int))) ∧
 k_9 (j + (1 : Int)) (out02.set ((((4 : Int) * i6) + j).toNat) (UInt8.ofNat (IntKind.wrap .u8 (shrV .u32 (h.getD i6.toNat 0) (IntKind.wrap .u64 ((24 : Int) - ((8 : Int) * j))).toNat)).toNat))) ∧
 (¬ (j < (4 : Int)) → (In .i64 (i6 + (1 : Int))) ∧
 k_8 (i6 + (1 : Int)) out02))) (0 : Int) out0) ∧
 (¬ (i6 < (8 : Int)) → K out0))) (0 : Int) (List.replicate 32 0 : List UInt8)))) (0 : Int) ([(1779033703 : Int), (3144134277 : Int), (1013904242 : Int), (2773480762 : Int), (1359893119 : Int), (2600822924 : Int), (528734635 : Int), (1541459225 : Int)] : List Int)))) m (7 : Int)))) ((([] : List UInt8) ++ s) ++ ([128] : List UInt8)))

def M_smithyref1_Many (l : List (List UInt8)) (K : (List UInt8) → Prop) : Prop :=
 (l.length ≤ maxLen →
 Lp2 (fun (m : List UInt8) (i : Int) k_1 => ((i < (l.length : Int) → (0 ≤ i ∧ i < (l.length : Nat)) ∧
 (0 ≤ IntKind.wrap .u8 (shrV .i64 ((l.getD i.toNat []).length : Int) 24) ∧ IntKind.wrap .u8 (shrV .i64 ((l.getD i.toNat []).length : Int) 24) ≤ 255) ∧
 (0 ≤ IntKind.wrap .u8 (shrV .i64 ((l.getD i.toNat []).length : Int) 16) ∧ IntKind.wrap .u8 (shrV .i64 ((l.getD i.toNat []).length : Int) 16) ≤ 255) ∧
 (0 ≤ IntKind.wrap .u8 (shrV .i64 ((l.getD i.toNat []).length : Int) 8) ∧ IntKind.wrap .u8 (shrV .i64 ((l.getD i.toNat []).length : Int) 8) ≤ 255) ∧
 (0 ≤ IntKind.wrap .u8 ((l.getD i.toNat []).length : Int) ∧ IntKind.wrap .u8 ((l.getD i.toNat []).length : Int) ≤ 255) ∧
 ((m.length + (([UInt8.ofNat (IntKind.wrap .u8 (shrV .i64 ((l.getD i.toNat []).length : Int) 24)).toNat, UInt8.ofNat (IntKind.wrap .u8 (shrV .i64 ((l.getD i.toNat []).length : Int) 16)).toNat, UInt8.ofNat (IntKind.wrap .u8 (shrV .i64 ((l.getD i.toNat []).length : Int) 8)).toNat, UInt8.ofNat (IntKind.wrap .u8 ((l.getD i.toNat []).length : Int)).toNat] : List UInt8)).length) * 1 ≤ 140737488355328) ∧
 (0 ≤ i ∧ i < (l.length : Nat)) ∧
 (((m ++ ([UInt8.ofNat (IntKind.wrap .u8 (shrV .i64 ((l.getD i.toNat []).length : Int) 24)).toNat, UInt8.ofNat (IntKind.wrap .u8 (shrV .i64 ((l.getD i.toNat []).length : Int) 16)).toNat, UInt8.ofNat (IntKind.wrap .u8 (shrV .i64 ((l.getD i.toNat []).length : Int) 8)).toNat, UInt8.ofNat (IntKind.wrap .u8 ((l.getD i.toNat []).length : Int)).toNat] : List UInt8)).length + (l.getD i.toNat []).length) * 1 ≤ 140737488355328) ∧
 (In .i64 (i + (1 : Int))) ∧
 k_1 ((m ++ ([UInt8.ofNat (IntKind.wrap .u8 (shrV .i64 ((l.getD i.toNat []).length : Int) 24)).toNat, UInt8.ofNat (IntKind.wrap .u8 (shrV .i64 ((l.getD i.toNat []).length : Int) 16)).toNat, UInt8.ofNat (IntKind.wrap .u8 (shrV .i64 ((l.getD i.toNat []).length : Int) 8)).toNat, UInt8.ofNat (IntKind.wrap .u8 ((l.getD i.toNat []).length : Int)).toNat] : List UInt8)) ++ (l.getD i.toNat [])) (i + (1 : Int))) ∧
 (¬ (i < (l.length : Int)) → M_smithyref1_Sum m (fun (t39 : List UInt8) =>
 K t39)))) [] (0 : Int))

def M_smithyref1_Hex (s : List UInt8) (K : (List UInt8) → Prop) : Prop :=
 (0 ≤ (64 : Int) ∧ (64 : Int) * 1 ≤ 140737488355328 ∧ (64 : Int) ≤ 140737488355328) ∧
 Lp2 (fun (out : List UInt8) (i : Int) k_1 => ((i < (32 : Int) → (0 ≤ i ∧ i < 32) ∧
 (0 ≤ shrV .u8 ((s.getD i.toNat 0).toNat : Int) 4 ∧ shrV .u8 ((s.getD i.toNat 0).toNat : Int) 4 < ([48, 49, 50, 51, 52, 53, 54, 55, 56, 57, 97, 98, 99, 100, 101, 102] : List UInt8).length) ∧
 (0 ≤ i ∧ i < 32) ∧
 (0 ≤ bits .and .u8 ((s.getD i.toNat 0).toNat : Int) (15 : Int) ∧ bits .and .u8 ((s.getD i.toNat 0).toNat : Int) (15 : Int) < ([48, 49, 50, 51, 52, 53, 54, 55, 56, 57, 97, 98, 99, 100, 101, 102] : List UInt8).length) ∧
 ((out.length + (([([48, 49, 50, 51, 52, 53, 54, 55, 56, 57, 97, 98, 99, 100, 101, 102] : List UInt8).getD (shrV .u8 ((s.getD i.toNat 0).toNat : Int) 4).toNat 0, ([48, 49, 50, 51, 52, 53, 54, 55, 56, 57, 97, 98, 99, 100, 101, 102] : List UInt8).getD (bits .and .u8 ((s.getD i.toNat 0).toNat : Int) (15 : Int)).toNat 0] : List UInt8)).length) * 1 ≤ 140737488355328) ∧
 (In .i64 (i + (1 : Int))) ∧
 k_1 (out ++ ([([48, 49, 50, 51, 52, 53, 54, 55, 56, 57, 97, 98, 99, 100, 101, 102] : List UInt8).getD (shrV .u8 ((s.getD i.toNat 0).toNat : Int) 4).toNat 0, ([48, 49, 50, 51, 52, 53, 54, 55, 56, 57, 97, 98, 99, 100, 101, 102] : List UInt8).getD (bits .and .u8 ((s.getD i.toNat 0).toNat : Int) (15 : Int)).toNat 0] : List UInt8)) (i + (1 : Int))) ∧
 (¬ (i < (32 : Int)) → K out))) ([] : List UInt8) (0 : Int)

def M_smithyref17_SameSum (a : List UInt8) (b : List UInt8) (K : Bool → Prop) : Prop :=
 M_smithyref1_Hex a (fun (t6 : List UInt8) =>
 M_smithyref1_Hex b (fun (t8 : List UInt8) =>
 K (decide (t6 = t8))))

def M_smithyref17_unhex (s : List UInt8) (K : (List UInt8) → Bool → Prop) : Prop :=
 ((¬ ((s.length : Int) = (64 : Int)) → K (List.replicate 32 0 : List UInt8) false) ∧
 ((s.length : Int) = (64 : Int) → Lp3 (fun (i : Int) (t20 : List UInt8) (out0 : List UInt8) k_1 => ((i < (64 : Int) → (0 ≤ i ∧ i < s.length) ∧
 ∃ J1 : Int → Prop, (((((decide ((48 : Int) ≤ ((s.getD i.toNat 0).toNat : Int))) && (decide (((s.getD i.toNat 0).toNat : Int) ≤ (57 : Int)))) = true → (In .u8 (((s.getD i.toNat 0).toNat : Int) - (48 : Int))) ∧
 J1 (((s.getD i.toNat 0).toNat : Int) - (48 : Int))) ∧
 (((decide ((48 : Int) ≤ ((s.getD i.toNat 0).toNat : Int))) && (decide (((s.getD i.toNat 0).toNat : Int) ≤ (57 : Int)))) = false → ((((decide ((97 : Int) ≤ ((s.getD i.toNat 0).toNat : Int))) && (decide (((s.getD i.toNat 0).toNat : Int) ≤ (102 : Int)))) = true → (In .u8 (((s.getD i.toNat 0).toNat : Int) - (97 : Int))) ∧
 (In .u8 ((((s.getD i.toNat 0).toNat : Int) - (97 : Int)) + (10 : Int))) ∧
 J1 ((((s.getD i.toNat 0).toNat : Int) - (97 : Int)) + (10 : Int))) ∧
 (((decide ((97 : Int) ≤ ((s.getD i.toNat 0).toNat : Int))) && (decide (((s.getD i.toNat 0).toNat : Int) ≤ (102 : Int)))) = false → K (List.replicate 32 0 : List UInt8) false))))) ∧
 (∀ d : Int, J1 d → (0 ≤ i ∧ 0 < (2 : Int) ∧ In .i64 i) ∧
 (0 ≤ i ∧ 0 < (2 : Int) ∧ In .i64 i) ∧
 (0 ≤ i / (2 : Int) ∧ i / (2 : Int) < 32) ∧
 (0 ≤ i / (2 : Int) ∧ i / (2 : Int) < 32) ∧
 (0 ≤ bits .or .u8 (shlV .u8 ((out0.getD ((i / (2 : Int)).toNat) 0).toNat : Int) 4) d ∧ bits .or .u8 (shlV .u8 ((out0.getD ((i / (2 : Int)).toNat) 0).toNat : Int) 4) d ≤ 255) ∧
 (out0.length = 32) ∧
 (In .i64 (i + (1 : Int))) ∧
 k_1 (i + (1 : Int)) t20 (out0.set ((i / (2 : Int)).toNat) (UInt8.ofNat (bits .or .u8 (shlV .u8 ((out0.getD ((i / (2 : Int)).toNat) 0).toNat : Int) 4) d).toNat)))) ∧
 (¬ (i < (64 : Int)) → K out0 true))) (0 : Int) (List.replicate 32 0 : List UInt8) (List.replicate 32 0 : List UInt8)))

def M_smithyref17_Digest (s : List UInt8) (K : (List UInt8) → Bool → Prop) : Prop :=
 M_smithyref17_unhex s (fun (t50 : List UInt8) (t51 : Bool) =>
 K t50 t51)

def M_smithylaw2_ShaSays (b : List UInt8) (l : List (List UInt8)) (s : List UInt8) (K : Bool → Prop) : Prop :=
 (b.length ≤ maxLen →
 (l.length ≤ maxLen →
 M_smithylaw2_first (fun (ok : Bool) =>
 (((!ok) = true → K false) ∧
 ((!ok) = false → ((((((decide ((1000 : Int) < (b.length : Int))) || (decide ((20 : Int) < (l.length : Int)))) || (decide ((100 : Int) < (s.length : Int)))) || (!ok)) = true → K ok) ∧
 (((((decide ((1000 : Int) < (b.length : Int))) || (decide ((20 : Int) < (l.length : Int)))) || (decide ((100 : Int) < (s.length : Int)))) || (!ok)) = false → Lp1 (fun (i : Int) k_1 => ((i < (l.length : Int) → (0 ≤ i ∧ i < (l.length : Nat)) ∧
 (((200 : Int) < ((l.getD i.toNat []).length : Int) → K true) ∧
 (¬ ((200 : Int) < ((l.getD i.toNat []).length : Int)) → (In .i64 (i + (1 : Int))) ∧
 k_1 (i + (1 : Int))))) ∧
 (¬ (i < (l.length : Int)) → M_sha_Parse s (fun (t490 : List UInt8) (t491 : Er) =>
 M_smithyref17_Digest s (fun (t540 : List UInt8) (t541 : Bool) =>
 ∃ J1 : Int → Prop, (((t541 = true → J1 (0 : Int)) ∧
 (t541 = false → J1 (113 : Int)))) ∧
 (∀ bad : Int, J1 bad → M_sha_Of b (fun (t59 : List UInt8) =>
 M_sha_Text t59 (fun (t60 : List UInt8) =>
 M_smithyref1_Sum b (fun (t63 : List UInt8) =>
 M_smithyref1_Hex t63 (fun (t64 : List UInt8) =>
 ∃ J2 : Bool → Prop, ((((decide (t60 = t64)) = true → M_sha_Many l (fun (t68 : List UInt8) =>
 M_sha_Text t68 (fun (t69 : List UInt8) =>
 M_smithyref1_Many l (fun (t71 : List UInt8) =>
 M_smithyref1_Hex t71 (fun (t72 : List UInt8) =>
 J2 (decide (t69 = t72))))))) ∧
 ((decide (t60 = t64)) = false → J2 false))) ∧
 (∀ q4 : Bool, J2 q4 → ∃ J3 : Bool → Prop, (((q4 = true → M_smithysee_Is t491 bad (fun (t78 : Bool) =>
 J3 t78)) ∧
 (q4 = false → J3 false))) ∧
 (∀ q5 : Bool, J3 q5 → ∃ J4 : Bool → Prop, (((q5 = true → M_smithyref17_SameSum t490 t540 (fun (t83 : Bool) =>
 J4 t83)) ∧
 (q5 = false → J4 false))) ∧
 (∀ q6 : Bool, J4 q6 → K q6))))))))))))) (0 : Int))))))))

set_option maxHeartbeats 8000000 in
theorem W_smithyref1_table {w : World} {K : (List Int) → Prop} (H : M_smithyref1_table  K) : Fn Tryd.prog 64 ⟨[]⟩ w (fun v w' => w.grownBy w' none ∧ ∃ (r : List Int), ∃ (A_r : Option Addr), ∃ (c_r : Nat), v = .slice A_r r.length c_r ∧ Own vu w' w.heap.size 98 A_r c_r r ∧ K r) := by
  unfold M_smithyref1_table at H
  refine Fn.enter (by kernel_rfl) Tryd.func64 rfl Tryd.ntmps64 rfl ?_
  refine WC.seq ?_
  refine WC.region ?_
  refine WL.y rfl (Yld.pure tab_ok rfl) ?_
  refine WL.nil (WX.then_normal ?_)
  refine WC.seq ?_
  refine WC.region ?_
  refine WL.lit tab_ok rfl rfl rfl (all1c rfl (all1c rfl (all1c rfl (all1c rfl (all1c rfl (all1c rfl (all1c rfl (all1c rfl (all1c rfl (all1c rfl (all1c rfl (all1c rfl (all1c rfl (all1c rfl (all1c rfl (all1c rfl (all1c rfl (all1c rfl (all1c rfl (all1c rfl (all1c rfl (all1c rfl (all1c rfl (all1c rfl (all1c rfl (all1c rfl (all1c rfl (all1c rfl (all1c rfl (all1c rfl (all1c rfl (all1c rfl (all1c rfl (all1c rfl (all1c rfl (all1c rfl (all1c rfl (all1c rfl (all1c rfl (all1c rfl (all1c rfl (all1c rfl (all1c rfl (all1c rfl (all1c rfl (all1c rfl (all1c rfl (all1c rfl (all1c rfl (all1c rfl (all1c rfl (all1c rfl (all1c rfl (all1c rfl (all1c rfl (all1c rfl (all1c rfl (all1c rfl (all1c rfl (all1c rfl (all1c rfl (all1c rfl (all1c rfl (all1c rfl all1n)))))))))))))))))))))))))))))))))))))))))))))))))))))))))))))))) rfl (by omega) (fun g1 w1 hB1 hg1 hl1 => ?_)
  have hO1 : Own vu w1 w.heap.size 98 (some ⟨g1, 0, none⟩) 64 ([(1116352408 : Int), (1899447441 : Int), (3049323471 : Int), (3921009573 : Int), (961987163 : Int), (1508970993 : Int), (2453635748 : Int), (2870763221 : Int), (3624381080 : Int), (310598401 : Int), (607225278 : Int), (1426881987 : Int), (1925078388 : Int), (2162078206 : Int), (2614888103 : Int), (3248222580 : Int), (3835390401 : Int), (4022224774 : Int), (264347078 : Int), (604807628 : Int), (770255983 : Int), (1249150122 : Int), (1555081692 : Int), (1996064986 : Int), (2554220882 : Int), (2821834349 : Int), (2952996808 : Int), (3210313671 : Int), (3336571891 : Int), (3584528711 : Int), (113926993 : Int), (338241895 : Int), (666307205 : Int), (773529912 : Int), (1294757372 : Int), (1396182291 : Int), (1695183700 : Int), (1986661051 : Int), (2177026350 : Int), (2456956037 : Int), (2730485921 : Int), (2820302411 : Int), (3259730800 : Int), (3345764771 : Int), (3516065817 : Int), (3600352804 : Int), (4094571909 : Int), (275423344 : Int), (430227734 : Int), (506948616 : Int), (659060556 : Int), (883997877 : Int), (958139571 : Int), (1322822218 : Int), (1537002063 : Int), (1747873779 : Int), (1955562222 : Int), (2024104815 : Int), (2227730452 : Int), (2361852424 : Int), (2428436474 : Int), (2756734187 : Int), (3204031479 : Int), (3329325298 : Int)] : List Int) := Own.ofBl hB1 (Nat.le_trans (Nat.le_refl _) hl1) (by simp [maxLen]) rfl
  have gr1 := hg1
  refine WL.y rfl (Yld.pure tab_ok rfl) ?_
  refine WL.nil (WX.then_normal ?_)
  refine WC.ret ?_
  exact WX.ret1 rfl rfl ⟨gr1, ([(1116352408 : Int), (1899447441 : Int), (3049323471 : Int), (3921009573 : Int), (961987163 : Int), (1508970993 : Int), (2453635748 : Int), (2870763221 : Int), (3624381080 : Int), (310598401 : Int), (607225278 : Int), (1426881987 : Int), (1925078388 : Int), (2162078206 : Int), (2614888103 : Int), (3248222580 : Int), (3835390401 : Int), (4022224774 : Int), (264347078 : Int), (604807628 : Int), (770255983 : Int), (1249150122 : Int), (1555081692 : Int), (1996064986 : Int), (2554220882 : Int), (2821834349 : Int), (2952996808 : Int), (3210313671 : Int), (3336571891 : Int), (3584528711 : Int), (113926993 : Int), (338241895 : Int), (666307205 : Int), (773529912 : Int), (1294757372 : Int), (1396182291 : Int), (1695183700 : Int), (1986661051 : Int), (2177026350 : Int), (2456956037 : Int), (2730485921 : Int), (2820302411 : Int), (3259730800 : Int), (3345764771 : Int), (3516065817 : Int), (3600352804 : Int), (4094571909 : Int), (275423344 : Int), (430227734 : Int), (506948616 : Int), (659060556 : Int), (883997877 : Int), (958139571 : Int), (1322822218 : Int), (1537002063 : Int), (1747873779 : Int), (1955562222 : Int), (2024104815 : Int), (2227730452 : Int), (2361852424 : Int), (2428436474 : Int), (2756734187 : Int), (3204031479 : Int), (3329325298 : Int)] : List Int), (some ⟨g1, 0, none⟩), 64, rfl, hO1, H⟩

set_option maxHeartbeats 8000000 in
theorem W_smithyref1_turn {w : World} {x : Int} {n : Int} {K : Int → Prop} (H : M_smithyref1_turn x n K) : Fn Tryd.prog 65 ⟨[.int .u32 x, .int .u64 n]⟩ w (fun v w' => w = w' ∧ ∃ (r : Int), v = .int .u32 r ∧ K r) := by
  unfold M_smithyref1_turn at H
  refine Fn.enter (by kernel_rfl) Tryd.func65 rfl Tryd.ntmps65 rfl ?_
  refine WC.seq ?_
  refine WC.region ?_
  refine WL.y rfl (Yld.pure tab_ok rfl) ?_
  refine WL.nil (WX.then_normal ?_)
  refine WC.seq ?_
  refine WC.region ?_
  refine WL.y rfl (Yld.pure tab_ok rfl) ?_
  refine WL.y rfl (Yld.pure tab_ok rfl) ?_
  obtain ⟨h1, H⟩ := H
  refine WL.y rfl (Yld.shr rfl rfl h1) ?_
  refine WL.y rfl (Yld.pure tab_ok rfl) ?_
  refine WL.y rfl (Yld.pure tab_ok rfl) ?_
  refine WL.y rfl (Yld.pure tab_ok rfl) ?_
  obtain ⟨h2, H⟩ := H
  refine WL.y rfl (Yld.shl rfl rfl h2) ?_
  refine WL.y rfl (Yld.pure tab_ok rfl) ?_
  refine WL.y rfl (Yld.pure tab_ok rfl) ?_
  refine WL.nil (WX.then_normal ?_)
  refine WC.ret ?_
  exact WX.ret1 rfl rfl ⟨rfl, bits .or .u32 (shrV .u32 x n.toNat) (shlV .u32 x (IntKind.wrap .u64 ((32 : Int) - n)).toNat), rfl, H⟩

set_option maxHeartbeats 8000000 in
theorem W_smithyref1_Sum {w : World} {s : List UInt8} {K : (List UInt8) → Prop} (H : M_smithyref1_Sum s K) : Fn Tryd.prog 15 ⟨[vs s]⟩ w (fun v w' => w.grownBy w' none ∧ ∃ (r : List UInt8), v = .agg ⟨a32 r⟩ ∧ K r) := by
  unfold M_smithyref1_Sum at H
  refine Fn.enter (by kernel_rfl) Tryd.func15 rfl Tryd.ntmps15 rfl ?_
  refine WC.seq ?_
  refine WC.region ?_
  refine WL.alloc rfl zero25 (fun g1 w1 hB1 hg1 hl1 => ?_)
  rw [a32_zero] at hB1
  have gr1 := hg1
  refine WL.nil (WX.then_normal ?_)
  refine WC.seq ?_
  refine WC.region ?_
  refine WL.call rfl rfl (W_smithyref1_table H) ?_
  rintro _ w2 ⟨hg2, k, A_k, c_k, rfl, hk, H⟩
  have hb1 := hk.ge'
  have k1 := hk.base (fun g hg => Nat.le_trans (size_le gr1) (hb1 g hg))
  have gr2 := gr_trans gr1 hg2
  have k2 := hB1.g0 hg2
  refine WL.y rfl (Yld.pure tab_ok rfl) ?_
  refine WL.nil (WX.then_normal ?_)
  refine WC.seq ?_
  refine WC.region ?_
  refine WL.lit tab_ok rfl rfl rfl (all1c rfl (all1c rfl (all1c rfl (all1c rfl (all1c rfl (all1c rfl (all1c rfl (all1c rfl all1n)))))))) rfl (by omega) (fun g2 w3 hB2 hg3 hl2 => ?_)
  have hO1 : Own vu w3 w.heap.size 98 (some ⟨g2, 0, none⟩) 8 ([(1779033703 : Int), (3144134277 : Int), (1013904242 : Int), (2773480762 : Int), (1359893119 : Int), (2600822924 : Int), (528734635 : Int), (1541459225 : Int)] : List Int) := Own.ofBl hB2 (Nat.le_trans (size_le gr2) hl2) (by simp [maxLen]) rfl
  have gr3 := gr_trans gr2 hg3
  have k3 := k2.g0 hg3
  have k4 := k1.grown hg3
  refine WL.y rfl (Yld.pure tab_ok rfl) ?_
  refine WL.nil (WX.then_normal ?_)
  refine WC.seq ?_
  refine WC.region ?_
  refine WL.y rfl (Yld.pure tab_ok rfl) ?_
  refine WL.y rfl (Yld.pure tab_ok rfl) ?_
  obtain ⟨h1, H⟩ := H
  refine WL.y rfl (Yld.add rfl rfl h1) ?_
  obtain ⟨h2, H⟩ := H
  refine WL.makeCI (f := vb) (B := w.heap.size) tab_ok rfl rfl rfl rfl h2.1 h2.2.1 h2.2.2 (size_le gr3) (fun g3 w4 hO2 hg4 hl3 => ?_)
  have gr4 := gr_trans gr3 hg4
  have k5 := k3.g0 hg4
  have k6 := k4.grown hg4
  have k7 := hO1.grown hg4
  refine WL.y rfl (Yld.pure tab_ok rfl) ?_
  obtain ⟨h3, H⟩ := H
  refine WL.appendS tab_ok rfl rfl rfl hO2 rfl rfl rfl h3 (applen h3) (size_le gr4) (fun A_m c_m w5 hO3 hg5 hk1 => ?_)
  have gr5 := gr_mod gr4 hg5 hO2.ge'
  have k8 := k5.go hg5 (Dj.new k3.lt' (Ge.box hl3))
  have k9 := k6.go hg5 (Dj.new k4.lt' (Ge.box hl3))
  have k10 := k7.go hg5 (Dj.new hO1.lt' (Ge.box hl3))
  refine WL.y rfl (Yld.pure tab_ok rfl) ?_
  refine WL.nil (WX.then_normal ?_)
  refine WC.seq ?_
  refine WC.region ?_
  refine WL.y rfl (Yld.pure tab_ok rfl) ?_
  refine WL.lit tab_ok rfl rfl rfl (all1c rfl all1n) rfl (by omega) (fun g4 w6 hB3 hg6 hl4 => ?_)
  have hO4 : Own vb w6 w.heap.size 5 (some ⟨g4, 0, none⟩) 1 ([128] : List UInt8) := Own.ofBl hB3 (Nat.le_trans (size_le gr5) hl4) (by simp [maxLen]) rfl
  have gr6 := gr_trans gr5 hg6
  have k11 := k8.g0 hg6
  have k12 := k9.grown hg6
  have k13 := k10.grown hg6
  have k14 := hO3.grown hg6
  obtain ⟨h4, H⟩ := H
  refine WL.append tab_ok rfl rfl One.b k14 rfl rfl hO4.rd rfl rfl h4 (applen h4) (size_le gr6) (fun A_m2 c_m2 w7 hO5 hg7 hk2 => ?_)
  have gr7 := gr_mod gr6 hg7 k14.ge'
  have k15 := k11.go hg7 ((Dj.app (Dj.new k3.lt' (Ge.box hl3)).symm k5.lt' hk1).symm)
  have k16 := k12.go hg7 ((Dj.app (Dj.new k4.lt' (Ge.box hl3)).symm k6.lt' hk1).symm)
  have k17 := k13.go hg7 ((Dj.app (Dj.new hO1.lt' (Ge.box hl3)).symm k7.lt' hk1).symm)
  refine WL.y rfl (Yld.pure tab_ok rfl) ?_
  refine WL.nil (WX.then_normal ?_)
  refine WC.seq ?_
  refine WC.block ?_
  obtain ⟨I1, mu1, h0_1, HR1⟩ := H
  refine WC.loopF (fun n' L' w' => ∃ (m : List UInt8), ∃ (A_m3 : Option Addr), ∃ (c_m3 : Nat), ∃ (n_m : Nat), n' = mu1 m ∧ L' = [(0, vs s), (2, .pointer (some ⟨g1, 0, none⟩)), (3, .slice A_k k.length c_k), (4, .slice (some ⟨g2, 0, none⟩) 8 8), (5, .slice A_m3 n_m c_m3)] ∧ I1 m ∧ n_m = m.length ∧ w.grownBy w' none ∧ Bl w' g1 25 (a32 (List.replicate 32 0 : List UInt8)) ∧ Own vu w' w.heap.size 98 A_k c_k k ∧ Own vu w' w.heap.size 98 (some ⟨g2, 0, none⟩) 8 ([(1779033703 : Int), (3144134277 : Int), (1013904242 : Int), (2773480762 : Int), (1359893119 : Int), (2600822924 : Int), (528734635 : Int), (1541459225 : Int)] : List Int) ∧ Own vb w' w.heap.size 5 A_m3 c_m3 m ∧ Dj (some g1) (blk A_k) ∧ Dj (some g1) (blk (some ⟨g2, 0, none⟩)) ∧ Dj (some g1) (blk A_m3) ∧ Dj (blk A_k) (blk (some ⟨g2, 0, none⟩)) ∧ Dj (blk A_k) (blk A_m3) ∧ Dj (blk (some ⟨g2, 0, none⟩)) (blk A_m3)) _ _ ⟨(([] : List UInt8) ++ s) ++ ([128] : List UInt8), A_m2, c_m2, ((([] : List UInt8) ++ s) ++ ([128] : List UInt8)).length, rfl, rfl, h0_1, rfl, gr7, k15, k16, k17, hO5, (Dj.new hB1.lt' hb1), (Dj.new k2.lt' (Ge.box hl2)), (Dj.app (Dj.app (Dj.new k3.lt' (Ge.box hl3)).symm k5.lt' hk1) k11.lt' hk2).symm, (Dj.new k1.lt' (Ge.box hl2)), (Dj.app (Dj.app (Dj.new k4.lt' (Ge.box hl3)).symm k6.lt' hk1) k12.lt' hk2).symm, (Dj.app (Dj.app (Dj.new hO1.lt' (Ge.box hl3)).symm k7.lt' hk1) k13.lt' hk2).symm⟩ (by repeat (first | exact Sub.nil | refine Sub.cons rfl ?_)) ?_
  clear h0_1
  rintro _ _ w8 ⟨m, A_m3, c_m3, n_m, rfl, rfl, hI1, rfl, gr8, k18, k19, k20, k21, dj1, dj2, dj3, dj4, dj5, dj6⟩
  have H := HR1 m hI1
  refine WC.seq ?_
  refine WC.seq ?_
  refine WC.region ?_
  refine WL.y rfl (Yld.pure tab_ok rfl) ?_
  refine WL.y rfl (Yld.pure tab_ok rfl) ?_
  obtain ⟨h5, H⟩ := H
  refine WL.y rfl (Yld.rem rfl rfl h5.1 h5.2) ?_
  refine WL.y rfl (Yld.pure tab_ok rfl) ?_
  refine WL.nil (WX.then_normal ?_)
  refine WC.cond rfl (fun b1 => ?_) (fun b1 => ?_)
  · replace H := H.1 (nd_true b1)
    refine WC.skip (WX.then_normal ?_)
    refine WC.block ?_
    refine WC.region ?_
    refine WL.y rfl (Yld.pure tab_ok rfl) ?_
    refine WL.lit tab_ok rfl rfl rfl (all1c rfl all1n) rfl (by omega) (fun g5 w9 hB4 hg8 hl5 => ?_)
    have hO6 : Own vb w9 w.heap.size 5 (some ⟨g5, 0, none⟩) 1 ([0] : List UInt8) := Own.ofBl hB4 (Nat.le_trans (size_le gr8) hl5) (by simp [maxLen]) rfl
    have gr9 := gr_trans gr8 hg8
    have k22 := k18.g0 hg8
    have k23 := k19.grown hg8
    have k24 := k20.grown hg8
    have k25 := k21.grown hg8
    obtain ⟨h6, H⟩ := H
    refine WL.append tab_ok rfl rfl One.b k25 rfl rfl hO6.rd rfl rfl h6 (applen h6) (size_le gr9) (fun A_m4 c_m4 w10 hO7 hg9 hk3 => ?_)
    have gr10 := gr_mod gr9 hg9 k25.ge'
    have k26 := k22.go hg9 dj3
    have k27 := k23.go hg9 dj5
    have k28 := k24.go hg9 dj6
    refine WL.y rfl (Yld.pure tab_ok rfl) ?_
    refine WL.nil (WX.block_normal ?_)
    exact WX.roundF _ ⟨m ++ ([0] : List UInt8), A_m4, c_m4, (m ++ ([0] : List UInt8)).length, rfl, rfl, H.1, rfl, gr10, k26, k27, k28, hO7, dj1, dj2, (Dj.app dj3.symm k22.lt' hk3).symm, dj4, (Dj.app dj5.symm k23.lt' hk3).symm, (Dj.app dj6.symm k24.lt' hk3).symm⟩ (by repeat (first | exact Sub.nil | refine Sub.cons rfl ?_)) H.2
  · replace H := H.2 (nd_false b1)
    refine WC.exit (WX.then_exit (WX.then_exit (WX.block_same (WX.then_normal ?_))))
    refine WC.seq ?_
    refine WC.region ?_
    refine WL.y rfl (Yld.pure tab_ok rfl) ?_
    refine WL.y rfl (Yld.pure tab_ok rfl) ?_
    refine WL.y rfl (Yld.pure tab_ok rfl) ?_
    refine WL.y rfl (Yld.pure tab_ok rfl) ?_
    refine WL.y rfl (Yld.pure tab_ok rfl) ?_
    refine WL.nil (WX.then_normal ?_)
    refine WC.seq ?_
    refine WC.seq ?_
    refine WC.region ?_
    refine WL.y rfl (Yld.pure tab_ok rfl) ?_
    refine WL.nil (WX.then_normal ?_)
    refine WC.block ?_
    obtain ⟨I2, mu2, h0_2, HR2⟩ := H
    refine WC.loopF (fun n' L' w' => ∃ (m2 : List UInt8), ∃ (A_m5 : Option Addr), ∃ (c_m5 : Nat), ∃ (n_m2 : Nat), ∃ (i : Int), n' = mu2 m2 i ∧ L' = [(2, .pointer (some ⟨g1, 0, none⟩)), (3, .slice A_k k.length c_k), (4, .slice (some ⟨g2, 0, none⟩) 8 8), (5, .slice A_m5 n_m2 c_m5), (6, .int .u64 (IntKind.wrap .u64 ((IntKind.wrap .u64 (s.length : Int)) * (8 : Int)))), (7, .int .i64 i)] ∧ I2 m2 i ∧ n_m2 = m2.length ∧ w.grownBy w' none ∧ Bl w' g1 25 (a32 (List.replicate 32 0 : List UInt8)) ∧ Own vu w' w.heap.size 98 A_k c_k k ∧ Own vu w' w.heap.size 98 (some ⟨g2, 0, none⟩) 8 ([(1779033703 : Int), (3144134277 : Int), (1013904242 : Int), (2773480762 : Int), (1359893119 : Int), (2600822924 : Int), (528734635 : Int), (1541459225 : Int)] : List Int) ∧ Own vb w' w.heap.size 5 A_m5 c_m5 m2 ∧ Dj (some g1) (blk A_k) ∧ Dj (some g1) (blk (some ⟨g2, 0, none⟩)) ∧ Dj (some g1) (blk A_m5) ∧ Dj (blk A_k) (blk (some ⟨g2, 0, none⟩)) ∧ Dj (blk A_k) (blk A_m5) ∧ Dj (blk (some ⟨g2, 0, none⟩)) (blk A_m5)) _ _ ⟨m, A_m3, c_m3, m.length, (7 : Int), rfl, rfl, h0_2, rfl, gr8, k18, k19, k20, k21, dj1, dj2, dj3, dj4, dj5, dj6⟩ (by repeat (first | exact Sub.nil | refine Sub.cons rfl ?_)) ?_
    clear h0_2
    rintro _ _ w11 ⟨m2, A_m5, c_m5, n_m2, i, rfl, rfl, hI2, rfl, gr11, k29, k30, k31, k32, dj7, dj8, dj9, dj10, dj11, dj12⟩
    have H := HR2 m2 i hI2
    refine WC.seq ?_
    refine WC.seq ?_
    refine WC.region ?_
    refine WL.y rfl (Yld.pure tab_ok rfl) ?_
    refine WL.y rfl (Yld.pure tab_ok rfl) ?_
    refine WL.nil (WX.then_normal ?_)
    refine WC.cond rfl (fun b2 => ?_) (fun b2 => ?_)
    · replace H := H.1 (of_decide_eq_true b2)
      refine WC.skip (WX.then_normal ?_)
      refine WC.seq ?_
      refine WC.block ?_
      refine WC.region ?_
      refine WL.y rfl (Yld.pure tab_ok rfl) ?_
      refine WL.y rfl (Yld.pure tab_ok rfl) ?_
      refine WL.y rfl (Yld.pure tab_ok rfl) ?_
      obtain ⟨h7, H⟩ := H
      refine WL.y rfl (Yld.mul rfl rfl h7) ?_
      refine WL.y rfl (Yld.pure tab_ok rfl) ?_
      obtain ⟨h8, H⟩ := H
      refine WL.y rfl (Yld.shr rfl rfl h8) ?_
      refine WL.y rfl (Yld.pure tab_ok rfl) ?_
      obtain ⟨h9, H⟩ := H
      refine WL.lit tab_ok rfl rfl rfl (all1c rfl all1n) rfl (by omega) (fun g6 w12 hB5 hg10 hl6 => ?_)
      replace hB5 : Bl w12 g6 5 (([UInt8.ofNat (IntKind.wrap .u8 (shrV .u64 (IntKind.wrap .u64 ((IntKind.wrap .u64 (s.length : Int)) * (8 : Int))) (IntKind.wrap .u64 ((8 : Int) * i)).toNat)).toNat] : List UInt8).map vb) := Bl.cast (lcons (byte_eq' h9) lnil) hB5
      have hO8 : Own vb w12 w.heap.size 5 (some ⟨g6, 0, none⟩) 1 ([UInt8.ofNat (IntKind.wrap .u8 (shrV .u64 (IntKind.wrap .u64 ((IntKind.wrap .u64 (s.length : Int)) * (8 : Int))) (IntKind.wrap .u64 ((8 : Int) * i)).toNat)).toNat] : List UInt8) := Own.ofBl hB5 (Nat.le_trans (size_le gr11) hl6) (by simp [maxLen]) rfl
      have gr12 := gr_trans gr11 hg10
      have k33 := k29.g0 hg10
      have k34 := k30.grown hg10
      have k35 := k31.grown hg10
      have k36 := k32.grown hg10
      obtain ⟨h10, H⟩ := H
      refine WL.append tab_ok rfl rfl One.b k36 rfl rfl hO8.rd rfl rfl h10 (applen h10) (size_le gr12) (fun A_m6 c_m6 w13 hO9 hg11 hk4 => ?_)
      have gr13 := gr_mod gr12 hg11 k36.ge'
      have k37 := k33.go hg11 dj9
      have k38 := k34.go hg11 dj11
      have k39 := k35.go hg11 dj12
      refine WL.y rfl (Yld.pure tab_ok rfl) ?_
      refine WL.nil (WX.block_normal (WX.then_normal ?_))
      refine WC.region ?_
      refine WL.y rfl (Yld.pure tab_ok rfl) ?_
      obtain ⟨h11, H⟩ := H
      refine WL.y rfl (Yld.sub rfl rfl h11) ?_
      refine WL.y rfl (Yld.pure tab_ok rfl) ?_
      refine WL.nil ?_
      exact WX.roundF _ ⟨m2 ++ ([UInt8.ofNat (IntKind.wrap .u8 (shrV .u64 (IntKind.wrap .u64 ((IntKind.wrap .u64 (s.length : Int)) * (8 : Int))) (IntKind.wrap .u64 ((8 : Int) * i)).toNat)).toNat] : List UInt8), A_m6, c_m6, (m2 ++ ([UInt8.ofNat (IntKind.wrap .u8 (shrV .u64 (IntKind.wrap .u64 ((IntKind.wrap .u64 (s.length : Int)) * (8 : Int))) (IntKind.wrap .u64 ((8 : Int) * i)).toNat)).toNat] : List UInt8)).length, i - (1 : Int), rfl, rfl, H.1, rfl, gr13, k37, k38, k39, hO9, dj7, dj8, (Dj.app dj9.symm k33.lt' hk4).symm, dj10, (Dj.app dj11.symm k34.lt' hk4).symm, (Dj.app dj12.symm k35.lt' hk4).symm⟩ (by repeat (first | exact Sub.nil | refine Sub.cons rfl ?_)) H.2
    · replace H := H.2 (of_decide_eq_false b2)
      refine WC.exit (WX.then_exit (WX.then_exit (WX.block_same (WX.then_normal ?_))))
      refine WC.seq ?_
      refine WC.seq ?_
      refine WC.region ?_
      refine WL.y rfl (Yld.pure tab_ok rfl) ?_
      refine WL.nil (WX.then_normal ?_)
      refine WC.block ?_
      obtain ⟨I3, mu3, h0_3, HR3⟩ := H
      refine WC.loopF (fun n' L' w' => ∃ (at_ : Int), ∃ (h : List Int), n' = mu3 at_ h ∧ L' = [(2, .pointer (some ⟨g1, 0, none⟩)), (3, .slice A_k k.length c_k), (4, .slice (some ⟨g2, 0, none⟩) 8 8), (5, .slice A_m5 m2.length c_m5), (8, .int .i64 at_)] ∧ I3 at_ h ∧ 8 = h.length ∧ w.grownBy w' none ∧ Bl w' g1 25 (a32 (List.replicate 32 0 : List UInt8)) ∧ Own vu w' w.heap.size 98 A_k c_k k ∧ Own vu w' w.heap.size 98 (some ⟨g2, 0, none⟩) 8 h ∧ Own vb w' w.heap.size 5 A_m5 c_m5 m2 ∧ Dj (some g1) (blk A_k) ∧ Dj (some g1) (blk (some ⟨g2, 0, none⟩)) ∧ Dj (some g1) (blk A_m5) ∧ Dj (blk A_k) (blk (some ⟨g2, 0, none⟩)) ∧ Dj (blk A_k) (blk A_m5) ∧ Dj (blk (some ⟨g2, 0, none⟩)) (blk A_m5)) _ _ ⟨(0 : Int), ([(1779033703 : Int), (3144134277 : Int), (1013904242 : Int), (2773480762 : Int), (1359893119 : Int), (2600822924 : Int), (528734635 : Int), (1541459225 : Int)] : List Int), rfl, rfl, h0_3, rfl, gr11, k29, k30, k31, k32, dj7, dj8, dj9, dj10, dj11, dj12⟩ (by repeat (first | exact Sub.nil | refine Sub.cons rfl ?_)) ?_
      clear h0_3
      rintro _ _ w14 ⟨at_, h, rfl, rfl, hI3, hn_h, gr14, k40, k41, k42, k43, dj13, dj14, dj15, dj16, dj17, dj18⟩
      have H := HR3 at_ h hI3
      replace H := H hn_h
      refine WC.seq ?_
      refine WC.seq ?_
      refine WC.region ?_
      refine WL.y rfl (Yld.pure tab_ok rfl) ?_
      refine WL.y rfl (Yld.pure tab_ok rfl) ?_
      refine WL.y rfl (Yld.pure tab_ok rfl) ?_
      refine WL.y rfl (Yld.pure tab_ok rfl) ?_
      refine WL.nil (WX.then_normal ?_)
      refine WC.cond rfl (fun b3 => ?_) (fun b3 => ?_)
      · replace H := H.1 (of_decide_eq_true b3)
        refine WC.skip (WX.then_normal ?_)
        refine WC.seq ?_
        refine WC.block ?_
        refine WC.seq ?_
        refine WC.region ?_
        obtain ⟨h12, H⟩ := H
        refine WL.makeZI (f := vu) (z := 0) (B := w.heap.size) tab_ok rfl rfl zero98 rfl rfl h12.1 h12.2.1 h12.2.2 (size_le gr14) (fun g7 w15 hO10 hg12 hl7 => ?_)
        have gr15 := gr_trans gr14 hg12
        have k44 := k40.g0 hg12
        have k45 := k41.grown hg12
        have k46 := k42.grown hg12
        have k47 := k43.grown hg12
        refine WL.y rfl (Yld.pure tab_ok rfl) ?_
        refine WL.nil (WX.then_normal ?_)
        refine WC.seq ?_
        refine WC.seq ?_
        refine WC.region ?_
        refine WL.y rfl (Yld.pure tab_ok rfl) ?_
        refine WL.nil (WX.then_normal ?_)
        refine WC.block ?_
        obtain ⟨I4, mu4, h0_4, HR4⟩ := H
        refine WC.loopF (fun n' L' w' => ∃ (i2 : Int), ∃ (w_ : List Int), n' = mu4 i2 w_ ∧ L' = [(2, .pointer (some ⟨g1, 0, none⟩)), (3, .slice A_k k.length c_k), (4, .slice (some ⟨g2, 0, none⟩) 8 8), (5, .slice A_m5 m2.length c_m5), (8, .int .i64 at_), (9, .slice (some ⟨g7, 0, none⟩) 64 64), (10, .int .i64 i2)] ∧ I4 i2 w_ ∧ 64 = w_.length ∧ w.grownBy w' none ∧ Bl w' g1 25 (a32 (List.replicate 32 0 : List UInt8)) ∧ Own vu w' w.heap.size 98 A_k c_k k ∧ Own vu w' w.heap.size 98 (some ⟨g2, 0, none⟩) 8 h ∧ Own vb w' w.heap.size 5 A_m5 c_m5 m2 ∧ Own vu w' w.heap.size 98 (some ⟨g7, 0, none⟩) 64 w_ ∧ Dj (some g1) (blk A_k) ∧ Dj (some g1) (blk (some ⟨g2, 0, none⟩)) ∧ Dj (some g1) (blk A_m5) ∧ Dj (some g1) (blk (some ⟨g7, 0, none⟩)) ∧ Dj (blk A_k) (blk (some ⟨g2, 0, none⟩)) ∧ Dj (blk A_k) (blk A_m5) ∧ Dj (blk A_k) (blk (some ⟨g7, 0, none⟩)) ∧ Dj (blk (some ⟨g2, 0, none⟩)) (blk A_m5) ∧ Dj (blk (some ⟨g2, 0, none⟩)) (blk (some ⟨g7, 0, none⟩)) ∧ Dj (blk A_m5) (blk (some ⟨g7, 0, none⟩))) _ _ ⟨(0 : Int), (List.replicate 64 0), rfl, rfl, h0_4, (List.length_replicate).symm, gr15, k44, k45, k46, k47, hO10, dj13, dj14, dj15, (Dj.new k40.lt' (Ge.box hl7)), dj16, dj17, (Dj.new k41.lt' (Ge.box hl7)), dj18, (Dj.new k42.lt' (Ge.box hl7)), (Dj.new k43.lt' (Ge.box hl7))⟩ (by repeat (first | exact Sub.nil | refine Sub.cons rfl ?_)) ?_
        clear h0_4
        rintro _ _ w16 ⟨i2, w_, rfl, rfl, hI4, hn_w_, gr16, k48, k49, k50, k51, k52, dj19, dj20, dj21, dj22, dj23, dj24, dj25, dj26, dj27, dj28⟩
        have H := HR4 i2 w_ hI4
        replace H := H hn_w_
        refine WC.seq ?_
        refine WC.seq ?_
        refine WC.region ?_
        refine WL.y rfl (Yld.pure tab_ok rfl) ?_
        refine WL.y rfl (Yld.pure tab_ok rfl) ?_
        refine WL.nil (WX.then_normal ?_)
        refine WC.cond rfl (fun b4 => ?_) (fun b4 => ?_)
        · replace H := H.1 (of_decide_eq_true b4)
          refine WC.skip (WX.then_normal ?_)
          refine WC.seq ?_
          refine WC.block ?_
          refine WC.chainF (fun k => !(Nat.beq k 44)) (LD [8, 18, 29, 40] (fun w' => Rd vb w' A_m5 c_m5 m2)) mixed (by kernel_rfl) (fun k w' h _ => (rd_eqv h k51.rd)) ?_
          refine WJ.y rfl rfl (fun w' hw' => Yld.pure tab_ok rfl) ?_
          refine WJ.y rfl rfl (fun w' hw' => Yld.pure tab_ok rfl) ?_
          refine WJ.y rfl rfl (fun w' hw' => Yld.pure tab_ok rfl) ?_
          refine WJ.y rfl rfl (fun w' hw' => Yld.pure tab_ok rfl) ?_
          refine WJ.y rfl rfl (fun w' hw' => Yld.pure tab_ok rfl) ?_
          obtain ⟨h13, H⟩ := H
          refine WJ.y rfl rfl (fun w' hw' => Yld.mul rfl rfl h13) ?_
          obtain ⟨h14, H⟩ := H
          refine WJ.y rfl rfl (fun w' hw' => Yld.add rfl rfl h14) ?_
          obtain ⟨h15, H⟩ := H
          refine WJ.y rfl rfl (fun w' hw' => Yld.iaddrW tab_ok k51.rd rfl rfl rfl rfl h15.1 h15.2) ?_
          refine WJ.y rfl rfl (fun w' hw' => Yld.iload 0 tab_ok (hw' rfl) rfl rfl (iltN h15 rfl)) ?_
          refine WJ.y rfl rfl (fun w' hw' => Yld.convB tab_ok rfl rfl rfl rfl) ?_
          refine WJ.y rfl rfl (fun w' hw' => Yld.shl rfl rfl (by omega)) ?_
          refine WJ.y rfl rfl (fun w' hw' => Yld.pure tab_ok rfl) ?_
          refine WJ.y rfl rfl (fun w' hw' => Yld.pure tab_ok rfl) ?_
          refine WJ.y rfl rfl (fun w' hw' => Yld.pure tab_ok rfl) ?_
          obtain ⟨h16, H⟩ := H
          refine WJ.y rfl rfl (fun w' hw' => Yld.mul rfl rfl h16) ?_
          obtain ⟨h17, H⟩ := H
          refine WJ.y rfl rfl (fun w' hw' => Yld.add rfl rfl h17) ?_
          obtain ⟨h18, H⟩ := H
          refine WJ.y rfl rfl (fun w' hw' => Yld.add rfl rfl h18) ?_
          obtain ⟨h19, H⟩ := H
          refine WJ.y rfl rfl (fun w' hw' => Yld.iaddrW tab_ok k51.rd rfl rfl rfl rfl h19.1 h19.2) ?_
          refine WJ.y rfl rfl (fun w' hw' => Yld.iload 0 tab_ok (hw' rfl) rfl rfl (iltN h19 rfl)) ?_
          refine WJ.y rfl rfl (fun w' hw' => Yld.convB tab_ok rfl rfl rfl rfl) ?_
          refine WJ.y rfl rfl (fun w' hw' => Yld.shl rfl rfl (by omega)) ?_
          refine WJ.y rfl rfl (fun w' hw' => Yld.pure tab_ok rfl) ?_
          refine WJ.y rfl rfl (fun w' hw' => Yld.pure tab_ok rfl) ?_
          refine WJ.y rfl rfl (fun w' hw' => Yld.pure tab_ok rfl) ?_
          refine WJ.y rfl rfl (fun w' hw' => Yld.pure tab_ok rfl) ?_
          obtain ⟨h20, H⟩ := H
          refine WJ.y rfl rfl (fun w' hw' => Yld.mul rfl rfl h20) ?_
          obtain ⟨h21, H⟩ := H
          refine WJ.y rfl rfl (fun w' hw' => Yld.add rfl rfl h21) ?_
          obtain ⟨h22, H⟩ := H
          refine WJ.y rfl rfl (fun w' hw' => Yld.add rfl rfl h22) ?_
          obtain ⟨h23, H⟩ := H
          refine WJ.y rfl rfl (fun w' hw' => Yld.iaddrW tab_ok k51.rd rfl rfl rfl rfl h23.1 h23.2) ?_
          refine WJ.y rfl rfl (fun w' hw' => Yld.iload 0 tab_ok (hw' rfl) rfl rfl (iltN h23 rfl)) ?_
          refine WJ.y rfl rfl (fun w' hw' => Yld.convB tab_ok rfl rfl rfl rfl) ?_
          refine WJ.y rfl rfl (fun w' hw' => Yld.shl rfl rfl (by omega)) ?_
          refine WJ.y rfl rfl (fun w' hw' => Yld.pure tab_ok rfl) ?_
          refine WJ.y rfl rfl (fun w' hw' => Yld.pure tab_ok rfl) ?_
          refine WJ.y rfl rfl (fun w' hw' => Yld.pure tab_ok rfl) ?_
          refine WJ.y rfl rfl (fun w' hw' => Yld.pure tab_ok rfl) ?_
          obtain ⟨h24, H⟩ := H
          refine WJ.y rfl rfl (fun w' hw' => Yld.mul rfl rfl h24) ?_
          obtain ⟨h25, H⟩ := H
          refine WJ.y rfl rfl (fun w' hw' => Yld.add rfl rfl h25) ?_
          obtain ⟨h26, H⟩ := H
          refine WJ.y rfl rfl (fun w' hw' => Yld.add rfl rfl h26) ?_
          obtain ⟨h27, H⟩ := H
          refine WJ.y rfl rfl (fun w' hw' => Yld.iaddrW tab_ok k51.rd rfl rfl rfl rfl h27.1 h27.2) ?_
          refine WJ.y rfl rfl (fun w' hw' => Yld.iload 0 tab_ok (hw' rfl) rfl rfl (iltN h27 rfl)) ?_
          refine WJ.y rfl rfl (fun w' hw' => Yld.convB tab_ok rfl rfl rfl rfl) ?_
          refine WJ.y rfl rfl (fun w' hw' => Yld.pure tab_ok rfl) ?_
          obtain ⟨h28, H⟩ := H
          refine WJ.y rfl rfl (fun w' hw' => Yld.iaddrW tab_ok k52.rd rfl rfl hn_w_ rfl h28.1 h28.2) ?_
          refine WJ.eff rfl (Ef0.ostore (v := bits .or .u32 (bits .or .u32 (bits .or .u32 (shlV .u32 ((m2.getD ((at_ + ((4 : Int) * i2)).toNat) 0).toNat : Int) 24) (shlV .u32 ((m2.getD (((at_ + ((4 : Int) * i2)) + (1 : Int)).toNat) 0).toNat : Int) 16)) (shlV .u32 ((m2.getD (((at_ + ((4 : Int) * i2)) + (2 : Int)).toNat) 0).toNat : Int) 8)) ((m2.getD (((at_ + ((4 : Int) * i2)) + (3 : Int)).toNat) 0).toNat : Int)) one98 One.u k52 rfl rfl (iltN h28 hn_w_)) (fun w' h => DD.keep (Rd.go k51.rd (gr_eqv h.2 (Eqv.refl _)) (Dn.of dj28))) ?_
          rintro w17 ⟨hO11, hg13⟩
          have gr17 := gr_mod gr16 hg13 k52.ge'
          have k53 := k48.go hg13 dj22
          have k54 := k49.go hg13 dj25
          have k55 := k50.go hg13 dj27
          have k56 := k51.go hg13 dj28
          refine WJ.nil (WX.block_normal (WX.then_normal ?_))
          refine WC.region ?_
          refine WL.y rfl (Yld.pure tab_ok rfl) ?_
          obtain ⟨h29, H⟩ := H
          refine WL.y rfl (Yld.add rfl rfl h29) ?_
          refine WL.y rfl (Yld.pure tab_ok rfl) ?_
          refine WL.nil ?_
          exact WX.roundF _ ⟨i2 + (1 : Int), w_.set i2.toNat (bits .or .u32 (bits .or .u32 (bits .or .u32 (shlV .u32 ((m2.getD ((at_ + ((4 : Int) * i2)).toNat) 0).toNat : Int) 24) (shlV .u32 ((m2.getD (((at_ + ((4 : Int) * i2)) + (1 : Int)).toNat) 0).toNat : Int) 16)) (shlV .u32 ((m2.getD (((at_ + ((4 : Int) * i2)) + (2 : Int)).toNat) 0).toNat : Int) 8)) ((m2.getD (((at_ + ((4 : Int) * i2)) + (3 : Int)).toNat) 0).toNat : Int)), rfl, rfl, H.1, (hn_w_.trans List.length_set.symm), gr17, k53, k54, k55, k56, hO11, dj19, dj20, dj21, dj22, dj23, dj24, dj25, dj26, dj27, dj28⟩ (by repeat (first | exact Sub.nil | refine Sub.cons rfl ?_)) H.2
        · replace H := H.2 (of_decide_eq_false b4)
          refine WC.exit (WX.then_exit (WX.then_exit (WX.block_same (WX.then_normal ?_))))
          refine WC.seq ?_
          refine WC.seq ?_
          refine WC.region ?_
          refine WL.y rfl (Yld.pure tab_ok rfl) ?_
          refine WL.nil (WX.then_normal ?_)
          refine WC.block ?_
          obtain ⟨I5, mu5, h0_5, HR5⟩ := H
          refine WC.loopF (fun n' L' w' => ∃ (i3 : Int), ∃ (w_2 : List Int), n' = mu5 i3 w_2 ∧ L' = [(2, .pointer (some ⟨g1, 0, none⟩)), (3, .slice A_k k.length c_k), (4, .slice (some ⟨g2, 0, none⟩) 8 8), (5, .slice A_m5 m2.length c_m5), (8, .int .i64 at_), (9, .slice (some ⟨g7, 0, none⟩) 64 64), (11, .int .i64 i3)] ∧ I5 i3 w_2 ∧ 64 = w_2.length ∧ w.grownBy w' none ∧ Bl w' g1 25 (a32 (List.replicate 32 0 : List UInt8)) ∧ Own vu w' w.heap.size 98 A_k c_k k ∧ Own vu w' w.heap.size 98 (some ⟨g2, 0, none⟩) 8 h ∧ Own vb w' w.heap.size 5 A_m5 c_m5 m2 ∧ Own vu w' w.heap.size 98 (some ⟨g7, 0, none⟩) 64 w_2 ∧ Dj (some g1) (blk A_k) ∧ Dj (some g1) (blk (some ⟨g2, 0, none⟩)) ∧ Dj (some g1) (blk A_m5) ∧ Dj (some g1) (blk (some ⟨g7, 0, none⟩)) ∧ Dj (blk A_k) (blk (some ⟨g2, 0, none⟩)) ∧ Dj (blk A_k) (blk A_m5) ∧ Dj (blk A_k) (blk (some ⟨g7, 0, none⟩)) ∧ Dj (blk (some ⟨g2, 0, none⟩)) (blk A_m5) ∧ Dj (blk (some ⟨g2, 0, none⟩)) (blk (some ⟨g7, 0, none⟩)) ∧ Dj (blk A_m5) (blk (some ⟨g7, 0, none⟩))) _ _ ⟨(16 : Int), w_, rfl, rfl, h0_5, hn_w_, gr16, k48, k49, k50, k51, k52, dj19, dj20, dj21, dj22, dj23, dj24, dj25, dj26, dj27, dj28⟩ (by repeat (first | exact Sub.nil | refine Sub.cons rfl ?_)) ?_
          clear h0_5
          rintro _ _ w18 ⟨i3, w_2, rfl, rfl, hI5, hn_w_2, gr18, k57, k58, k59, k60, k61, dj29, dj30, dj31, dj32, dj33, dj34, dj35, dj36, dj37, dj38⟩
          have H := HR5 i3 w_2 hI5
          replace H := H hn_w_2
          refine WC.seq ?_
          refine WC.seq ?_
          refine WC.region ?_
          refine WL.y rfl (Yld.pure tab_ok rfl) ?_
          refine WL.y rfl (Yld.pure tab_ok rfl) ?_
          refine WL.nil (WX.then_normal ?_)
          refine WC.cond rfl (fun b5 => ?_) (fun b5 => ?_)
          · replace H := H.1 (of_decide_eq_true b5)
            refine WC.skip (WX.then_normal ?_)
            refine WC.seq ?_
            refine WC.block ?_
            refine WC.seq ?_
            refine WC.chainF (fun k => !(Nat.beq k 5 || Nat.beq k 11)) (LD [4, 10, 17] (fun w' => Rd vu w' (some ⟨g7, 0, none⟩) 64 w_2)) mixed (by kernel_rfl) (fun k w' h _ => (rd_eqv h k61.rd)) ?_
            refine WJ.y rfl rfl (fun w' hw' => Yld.pure tab_ok rfl) ?_
            refine WJ.y rfl rfl (fun w' hw' => Yld.pure tab_ok rfl) ?_
            obtain ⟨h30, H⟩ := H
            refine WJ.y rfl rfl (fun w' hw' => Yld.sub rfl rfl h30) ?_
            obtain ⟨h31, H⟩ := H
            refine WJ.y rfl rfl (fun w' hw' => Yld.iaddrW tab_ok k61.rd rfl rfl hn_w_2 rfl h31.1 h31.2) ?_
            refine WJ.y rfl rfl (fun w' hw' => Yld.iload 0 tab_ok (hw' rfl) rfl rfl (iltN h31 hn_w_2)) ?_
            refine WJ.call rfl (wants_none) rfl rfl (W_smithyref1_turn H) (fun v w' h w2 e => DD.keep (rd_eqv (eqvL h.1 e) k61.rd)) ?_
            rintro _ _ ⟨rfl, t124, rfl, H⟩
            refine WJ.y rfl rfl (fun w' hw' => Yld.pure tab_ok rfl) ?_
            refine WJ.y rfl rfl (fun w' hw' => Yld.pure tab_ok rfl) ?_
            obtain ⟨h32, H⟩ := H
            refine WJ.y rfl rfl (fun w' hw' => Yld.sub rfl rfl h32) ?_
            obtain ⟨h33, H⟩ := H
            refine WJ.y rfl rfl (fun w' hw' => Yld.iaddrW tab_ok k61.rd rfl rfl hn_w_2 rfl h33.1 h33.2) ?_
            refine WJ.y rfl rfl (fun w' hw' => Yld.iload 0 tab_ok (hw' rfl) rfl rfl (iltN h33 hn_w_2)) ?_
            refine WJ.call rfl (wants_none) rfl rfl (W_smithyref1_turn H) (fun v w' h w2 e => DD.keep (rd_eqv (eqvL h.1 e) k61.rd)) ?_
            rintro _ _ ⟨rfl, t130, rfl, H⟩
            refine WJ.y rfl rfl (fun w' hw' => Yld.pure tab_ok rfl) ?_
            refine WJ.y rfl rfl (fun w' hw' => Yld.pure tab_ok rfl) ?_
            refine WJ.y rfl rfl (fun w' hw' => Yld.pure tab_ok rfl) ?_
            obtain ⟨h34, H⟩ := H
            refine WJ.y rfl rfl (fun w' hw' => Yld.sub rfl rfl h34) ?_
            obtain ⟨h35, H⟩ := H
            refine WJ.y rfl rfl (fun w' hw' => Yld.iaddrW tab_ok k61.rd rfl rfl hn_w_2 rfl h35.1 h35.2) ?_
            refine WJ.y rfl rfl (fun w' hw' => Yld.iload 0 tab_ok (hw' rfl) rfl rfl (iltN h35 hn_w_2)) ?_
            refine WJ.y rfl rfl (fun w' hw' => Yld.shr rfl rfl (by omega)) ?_
            refine WJ.y rfl rfl (fun w' hw' => Yld.pure tab_ok rfl) ?_
            refine WJ.y rfl rfl (fun w' hw' => Yld.pure tab_ok rfl) ?_
            refine WJ.nil (WX.then_normal ?_)
            refine WC.seq ?_
            refine WC.chainF (fun k => !(Nat.beq k 5 || Nat.beq k 11)) (LD [4, 10, 17] (fun w' => Rd vu w' (some ⟨g7, 0, none⟩) 64 w_2)) mixed (by kernel_rfl) (fun k w' h _ => (rd_eqv h k61.rd)) ?_
            refine WJ.y rfl rfl (fun w' hw' => Yld.pure tab_ok rfl) ?_
            refine WJ.y rfl rfl (fun w' hw' => Yld.pure tab_ok rfl) ?_
            obtain ⟨h36, H⟩ := H
            refine WJ.y rfl rfl (fun w' hw' => Yld.sub rfl rfl h36) ?_
            obtain ⟨h37, H⟩ := H
            refine WJ.y rfl rfl (fun w' hw' => Yld.iaddrW tab_ok k61.rd rfl rfl hn_w_2 rfl h37.1 h37.2) ?_
            refine WJ.y rfl rfl (fun w' hw' => Yld.iload 0 tab_ok (hw' rfl) rfl rfl (iltN h37 hn_w_2)) ?_
            refine WJ.call rfl (wants_none) rfl rfl (W_smithyref1_turn H) (fun v w' h w2 e => DD.keep (rd_eqv (eqvL h.1 e) k61.rd)) ?_
            rintro _ _ ⟨rfl, t144, rfl, H⟩
            refine WJ.y rfl rfl (fun w' hw' => Yld.pure tab_ok rfl) ?_
            refine WJ.y rfl rfl (fun w' hw' => Yld.pure tab_ok rfl) ?_
            obtain ⟨h38, H⟩ := H
            refine WJ.y rfl rfl (fun w' hw' => Yld.sub rfl rfl h38) ?_
            obtain ⟨h39, H⟩ := H
            refine WJ.y rfl rfl (fun w' hw' => Yld.iaddrW tab_ok k61.rd rfl rfl hn_w_2 rfl h39.1 h39.2) ?_
            refine WJ.y rfl rfl (fun w' hw' => Yld.iload 0 tab_ok (hw' rfl) rfl rfl (iltN h39 hn_w_2)) ?_
            refine WJ.call rfl (wants_none) rfl rfl (W_smithyref1_turn H) (fun v w' h w2 e => DD.keep (rd_eqv (eqvL h.1 e) k61.rd)) ?_
            rintro _ _ ⟨rfl, t150, rfl, H⟩
            refine WJ.y rfl rfl (fun w' hw' => Yld.pure tab_ok rfl) ?_
            refine WJ.y rfl rfl (fun w' hw' => Yld.pure tab_ok rfl) ?_
            refine WJ.y rfl rfl (fun w' hw' => Yld.pure tab_ok rfl) ?_
            obtain ⟨h40, H⟩ := H
            refine WJ.y rfl rfl (fun w' hw' => Yld.sub rfl rfl h40) ?_
            obtain ⟨h41, H⟩ := H
            refine WJ.y rfl rfl (fun w' hw' => Yld.iaddrW tab_ok k61.rd rfl rfl hn_w_2 rfl h41.1 h41.2) ?_
            refine WJ.y rfl rfl (fun w' hw' => Yld.iload 0 tab_ok (hw' rfl) rfl rfl (iltN h41 hn_w_2)) ?_
            refine WJ.y rfl rfl (fun w' hw' => Yld.shr rfl rfl (by omega)) ?_
            refine WJ.y rfl rfl (fun w' hw' => Yld.pure tab_ok rfl) ?_
            refine WJ.y rfl rfl (fun w' hw' => Yld.pure tab_ok rfl) ?_
            refine WJ.nil (WX.then_normal ?_)
            refine WC.chainF (fun k => !(Nat.beq k 18)) (LD [6, 13] (fun w' => Rd vu w' (some ⟨g7, 0, none⟩) 64 w_2)) mixed (by kernel_rfl) (fun k w' h _ => (rd_eqv h k61.rd)) ?_
            refine WJ.y rfl rfl (fun w' hw' => Yld.pure tab_ok rfl) ?_
            refine WJ.y rfl rfl (fun w' hw' => Yld.pure tab_ok rfl) ?_
            refine WJ.y rfl rfl (fun w' hw' => Yld.pure tab_ok rfl) ?_
            refine WJ.y rfl rfl (fun w' hw' => Yld.pure tab_ok rfl) ?_
            obtain ⟨h42, H⟩ := H
            refine WJ.y rfl rfl (fun w' hw' => Yld.sub rfl rfl h42) ?_
            obtain ⟨h43, H⟩ := H
            refine WJ.y rfl rfl (fun w' hw' => Yld.iaddrW tab_ok k61.rd rfl rfl hn_w_2 rfl h43.1 h43.2) ?_
            refine WJ.y rfl rfl (fun w' hw' => Yld.iload 0 tab_ok (hw' rfl) rfl rfl (iltN h43 hn_w_2)) ?_
            refine WJ.y rfl rfl (fun w' hw' => Yld.pure tab_ok rfl) ?_
            refine WJ.y rfl rfl (fun w' hw' => Yld.pure tab_ok rfl) ?_
            refine WJ.y rfl rfl (fun w' hw' => Yld.pure tab_ok rfl) ?_
            refine WJ.y rfl rfl (fun w' hw' => Yld.pure tab_ok rfl) ?_
            obtain ⟨h44, H⟩ := H
            refine WJ.y rfl rfl (fun w' hw' => Yld.sub rfl rfl h44) ?_
            obtain ⟨h45, H⟩ := H
            refine WJ.y rfl rfl (fun w' hw' => Yld.iaddrW tab_ok k61.rd rfl rfl hn_w_2 rfl h45.1 h45.2) ?_
            refine WJ.y rfl rfl (fun w' hw' => Yld.iload 0 tab_ok (hw' rfl) rfl rfl (iltN h45 hn_w_2)) ?_
            refine WJ.y rfl rfl (fun w' hw' => Yld.pure tab_ok rfl) ?_
            refine WJ.y rfl rfl (fun w' hw' => Yld.pure tab_ok rfl) ?_
            refine WJ.y rfl rfl (fun w' hw' => Yld.pure tab_ok rfl) ?_
            obtain ⟨h46, H⟩ := H
            refine WJ.y rfl rfl (fun w' hw' => Yld.iaddrW tab_ok k61.rd rfl rfl hn_w_2 rfl h46.1 h46.2) ?_
            refine WJ.eff rfl (Ef0.ostore (v := IntKind.wrap .u32 ((IntKind.wrap .u32 ((IntKind.wrap .u32 ((w_2.getD ((i3 - (16 : Int)).toNat) 0) + (bits .xor .u32 (bits .xor .u32 t124 t130) (shrV .u32 (w_2.getD ((i3 - (15 : Int)).toNat) 0) 3)))) + (w_2.getD ((i3 - (7 : Int)).toNat) 0))) + (bits .xor .u32 (bits .xor .u32 t144 t150) (shrV .u32 (w_2.getD ((i3 - (2 : Int)).toNat) 0) 10)))) one98 One.u k61 rfl rfl (iltN h46 hn_w_2)) (fun w' h => DD.past (by kernel_rfl)) ?_
            rintro w19 ⟨hO12, hg14⟩
            have gr19 := gr_mod gr18 hg14 k61.ge'
            have k62 := k57.go hg14 dj32
            have k63 := k58.go hg14 dj35
            have k64 := k59.go hg14 dj37
            have k65 := k60.go hg14 dj38
            refine WJ.nil (WX.block_normal (WX.then_normal ?_))
            refine WC.region ?_
            refine WL.y rfl (Yld.pure tab_ok rfl) ?_
            obtain ⟨h47, H⟩ := H
            refine WL.y rfl (Yld.add rfl rfl h47) ?_
            refine WL.y rfl (Yld.pure tab_ok rfl) ?_
            refine WL.nil ?_
            exact WX.roundF _ ⟨i3 + (1 : Int), w_2.set i3.toNat (IntKind.wrap .u32 ((IntKind.wrap .u32 ((IntKind.wrap .u32 ((w_2.getD ((i3 - (16 : Int)).toNat) 0) + (bits .xor .u32 (bits .xor .u32 t124 t130) (shrV .u32 (w_2.getD ((i3 - (15 : Int)).toNat) 0) 3)))) + (w_2.getD ((i3 - (7 : Int)).toNat) 0))) + (bits .xor .u32 (bits .xor .u32 t144 t150) (shrV .u32 (w_2.getD ((i3 - (2 : Int)).toNat) 0) 10)))), rfl, rfl, H.1, (hn_w_2.trans List.length_set.symm), gr19, k62, k63, k64, k65, hO12, dj29, dj30, dj31, dj32, dj33, dj34, dj35, dj36, dj37, dj38⟩ (by repeat (first | exact Sub.nil | refine Sub.cons rfl ?_)) H.2
          · replace H := H.2 (of_decide_eq_false b5)
            refine WC.exit (WX.then_exit (WX.then_exit (WX.block_same (WX.then_normal ?_))))
            refine WC.seq ?_
            refine WC.region ?_
            obtain ⟨h48, H⟩ := H
            refine WL.makeCI (f := vu) (B := w.heap.size) tab_ok rfl rfl rfl rfl h48.1 h48.2.1 h48.2.2 (size_le gr18) (fun g8 w20 hO13 hg15 hl8 => ?_)
            have gr20 := gr_trans gr18 hg15
            have k66 := k57.g0 hg15
            have k67 := k58.grown hg15
            have k68 := k59.grown hg15
            have k69 := k60.grown hg15
            have k70 := k61.grown hg15
            refine WL.y rfl (Yld.pure tab_ok rfl) ?_
            obtain ⟨h49, H⟩ := H
            refine WL.append tab_ok rfl rfl One.u hO13 rfl rfl k68.rd rfl hn_h h49 (applen h49) (size_le gr20) (fun A_v c_v w21 hO14 hg16 hk5 => ?_)
            have gr21 := gr_mod gr20 hg16 hO13.ge'
            have k71 := k66.go hg16 (Dj.new k57.lt' (Ge.box hl8))
            have k72 := k67.go hg16 (Dj.new k58.lt' (Ge.box hl8))
            have k73 := k68.go hg16 (Dj.new k59.lt' (Ge.box hl8))
            have k74 := k69.go hg16 (Dj.new k60.lt' (Ge.box hl8))
            have k75 := k70.go hg16 (Dj.new k61.lt' (Ge.box hl8))
            refine WL.y rfl (Yld.pure tab_ok rfl) ?_
            refine WL.nil (WX.then_normal ?_)
            refine WC.seq ?_
            refine WC.seq ?_
            refine WC.region ?_
            refine WL.y rfl (Yld.pure tab_ok rfl) ?_
            refine WL.nil (WX.then_normal ?_)
            refine WC.block ?_
            obtain ⟨I6, mu6, h0_6, HR6⟩ := H
            refine WC.loopF (fun n' L' w' => ∃ (v : List Int), ∃ (A_v2 : Option Addr), ∃ (c_v2 : Nat), ∃ (n_v : Nat), ∃ (i4 : Int), n' = mu6 v i4 ∧ L' = [(2, .pointer (some ⟨g1, 0, none⟩)), (3, .slice A_k k.length c_k), (4, .slice (some ⟨g2, 0, none⟩) 8 8), (5, .slice A_m5 m2.length c_m5), (8, .int .i64 at_), (9, .slice (some ⟨g7, 0, none⟩) 64 64), (14, .slice A_v2 n_v c_v2), (15, .int .i64 i4)] ∧ I6 v i4 ∧ n_v = v.length ∧ w.grownBy w' none ∧ Bl w' g1 25 (a32 (List.replicate 32 0 : List UInt8)) ∧ Own vu w' w.heap.size 98 A_k c_k k ∧ Own vu w' w.heap.size 98 (some ⟨g2, 0, none⟩) 8 h ∧ Own vb w' w.heap.size 5 A_m5 c_m5 m2 ∧ Own vu w' w.heap.size 98 (some ⟨g7, 0, none⟩) 64 w_2 ∧ Own vu w' w.heap.size 98 A_v2 c_v2 v ∧ Dj (some g1) (blk A_k) ∧ Dj (some g1) (blk (some ⟨g2, 0, none⟩)) ∧ Dj (some g1) (blk A_m5) ∧ Dj (some g1) (blk (some ⟨g7, 0, none⟩)) ∧ Dj (some g1) (blk A_v2) ∧ Dj (blk A_k) (blk (some ⟨g2, 0, none⟩)) ∧ Dj (blk A_k) (blk A_m5) ∧ Dj (blk A_k) (blk (some ⟨g7, 0, none⟩)) ∧ Dj (blk A_k) (blk A_v2) ∧ Dj (blk (some ⟨g2, 0, none⟩)) (blk A_m5) ∧ Dj (blk (some ⟨g2, 0, none⟩)) (blk (some ⟨g7, 0, none⟩)) ∧ Dj (blk (some ⟨g2, 0, none⟩)) (blk A_v2) ∧ Dj (blk A_m5) (blk (some ⟨g7, 0, none⟩)) ∧ Dj (blk A_m5) (blk A_v2) ∧ Dj (blk (some ⟨g7, 0, none⟩)) (blk A_v2)) _ _ ⟨([] : List Int) ++ h, A_v, c_v, (([] : List Int) ++ h).length, (0 : Int), rfl, rfl, h0_6, rfl, gr21, k71, k72, k73, k74, k75, hO14, dj29, dj30, dj31, dj32, (Dj.app (Dj.new k57.lt' (Ge.box hl8)).symm k66.lt' hk5).symm, dj33, dj34, dj35, (Dj.app (Dj.new k58.lt' (Ge.box hl8)).symm k67.lt' hk5).symm, dj36, dj37, (Dj.app (Dj.new k59.lt' (Ge.box hl8)).symm k68.lt' hk5).symm, dj38, (Dj.app (Dj.new k60.lt' (Ge.box hl8)).symm k69.lt' hk5).symm, (Dj.app (Dj.new k61.lt' (Ge.box hl8)).symm k70.lt' hk5).symm⟩ (by repeat (first | exact Sub.nil | refine Sub.cons rfl ?_)) ?_
            clear h0_6
            rintro _ _ w22 ⟨v, A_v2, c_v2, n_v, i4, rfl, rfl, hI6, rfl, gr22, k76, k77, k78, k79, k80, k81, dj39, dj40, dj41, dj42, dj43, dj44, dj45, dj46, dj47, dj48, dj49, dj50, dj51, dj52, dj53⟩
            have H := HR6 v i4 hI6
            refine WC.seq ?_
            refine WC.seq ?_
            refine WC.region ?_
            refine WL.y rfl (Yld.pure tab_ok rfl) ?_
            refine WL.y rfl (Yld.pure tab_ok rfl) ?_
            refine WL.nil (WX.then_normal ?_)
            refine WC.cond rfl (fun b6 => ?_) (fun b6 => ?_)
            · replace H := H.1 (of_decide_eq_true b6)
              refine WC.skip (WX.then_normal ?_)
              refine WC.seq ?_
              refine WC.block ?_
              refine WC.seq ?_
              refine WC.chainF (fun k => !(Nat.beq k 3 || Nat.beq k 7 || Nat.beq k 12)) (LD [2, 6, 11] (fun w' => Rd vu w' A_v2 c_v2 v)) mixed (by kernel_rfl) (fun k w' h _ => (rd_eqv h k81.rd)) ?_
              refine WJ.y rfl rfl (fun w' hw' => Yld.pure tab_ok rfl) ?_
              obtain ⟨h50, H⟩ := H
              refine WJ.y rfl rfl (fun w' hw' => Yld.iaddrW tab_ok k81.rd rfl rfl rfl rfl h50.1 h50.2) ?_
              refine WJ.y rfl rfl (fun w' hw' => Yld.iload 0 tab_ok (hw' rfl) rfl rfl (iltN h50 rfl)) ?_
              refine WJ.call rfl (wants_none) rfl rfl (W_smithyref1_turn H) (fun v w' h w2 e => DD.keep (rd_eqv (eqvL h.1 e) k81.rd)) ?_
              rintro _ _ ⟨rfl, t187, rfl, H⟩
              refine WJ.y rfl rfl (fun w' hw' => Yld.pure tab_ok rfl) ?_
              obtain ⟨h51, H⟩ := H
              refine WJ.y rfl rfl (fun w' hw' => Yld.iaddrW tab_ok k81.rd rfl rfl rfl rfl h51.1 h51.2) ?_
              refine WJ.y rfl rfl (fun w' hw' => Yld.iload 0 tab_ok (hw' rfl) rfl rfl (iltN h51 rfl)) ?_
              refine WJ.call rfl (wants_none) rfl rfl (W_smithyref1_turn H) (fun v w' h w2 e => DD.keep (rd_eqv (eqvL h.1 e) k81.rd)) ?_
              rintro _ _ ⟨rfl, t191, rfl, H⟩
              refine WJ.y rfl rfl (fun w' hw' => Yld.pure tab_ok rfl) ?_
              refine WJ.y rfl rfl (fun w' hw' => Yld.pure tab_ok rfl) ?_
              obtain ⟨h52, H⟩ := H
              refine WJ.y rfl rfl (fun w' hw' => Yld.iaddrW tab_ok k81.rd rfl rfl rfl rfl h52.1 h52.2) ?_
              refine WJ.y rfl rfl (fun w' hw' => Yld.iload 0 tab_ok (hw' rfl) rfl rfl (iltN h52 rfl)) ?_
              refine WJ.call rfl (wants_none) rfl rfl (W_smithyref1_turn H) (fun v w' h w2 e => DD.keep (rd_eqv (eqvL h.1 e) k81.rd)) ?_
              rintro _ _ ⟨rfl, t196, rfl, H⟩
              refine WJ.y rfl rfl (fun w' hw' => Yld.pure tab_ok rfl) ?_
              refine WJ.y rfl rfl (fun w' hw' => Yld.pure tab_ok rfl) ?_
              refine WJ.nil (WX.then_normal ?_)
              refine WC.seq ?_
              refine WC.quiet mixed (by kernel_rfl) ?_
              refine WQ.y rfl (Yld.pure tab_ok rfl) ?_
              obtain ⟨h53, H⟩ := H
              refine WQ.y rfl (Yld.iaddrW tab_ok k81.rd rfl rfl rfl rfl h53.1 h53.2) ?_
              refine WQ.y rfl (Yld.iload 0 tab_ok k81.rd rfl rfl (iltN h53 rfl)) ?_
              refine WQ.y rfl (Yld.pure tab_ok rfl) ?_
              obtain ⟨h54, H⟩ := H
              refine WQ.y rfl (Yld.iaddrW tab_ok k81.rd rfl rfl rfl rfl h54.1 h54.2) ?_
              refine WQ.y rfl (Yld.iload 0 tab_ok k81.rd rfl rfl (iltN h54 rfl)) ?_
              refine WQ.y rfl (Yld.pure tab_ok rfl) ?_
              refine WQ.y rfl (Yld.pure tab_ok rfl) ?_
              obtain ⟨h55, H⟩ := H
              refine WQ.y rfl (Yld.iaddrW tab_ok k81.rd rfl rfl rfl rfl h55.1 h55.2) ?_
              refine WQ.y rfl (Yld.iload 0 tab_ok k81.rd rfl rfl (iltN h55 rfl)) ?_
              refine WQ.y rfl (Yld.pure tab_ok rfl) ?_
              refine WQ.y rfl (Yld.pure tab_ok rfl) ?_
              obtain ⟨h56, H⟩ := H
              refine WQ.y rfl (Yld.iaddrW tab_ok k81.rd rfl rfl rfl rfl h56.1 h56.2) ?_
              refine WQ.y rfl (Yld.iload 0 tab_ok k81.rd rfl rfl (iltN h56 rfl)) ?_
              refine WQ.y rfl (Yld.pure tab_ok rfl) ?_
              refine WQ.y rfl (Yld.pure tab_ok rfl) ?_
              refine WQ.y rfl (Yld.pure tab_ok rfl) ?_
              refine WQ.nil (WX.then_normal ?_)
              refine WC.seq ?_
              refine WC.quiet mixed (by kernel_rfl) ?_
              refine WQ.y rfl (Yld.pure tab_ok rfl) ?_
              obtain ⟨h57, H⟩ := H
              refine WQ.y rfl (Yld.iaddrW tab_ok k81.rd rfl rfl rfl rfl h57.1 h57.2) ?_
              refine WQ.y rfl (Yld.iload 0 tab_ok k81.rd rfl rfl (iltN h57 rfl)) ?_
              refine WQ.y rfl (Yld.pure tab_ok rfl) ?_
              refine WQ.y rfl (Yld.pure tab_ok rfl) ?_
              refine WQ.y rfl (Yld.pure tab_ok rfl) ?_
              refine WQ.y rfl (Yld.pure tab_ok rfl) ?_
              refine WQ.y rfl (Yld.pure tab_ok rfl) ?_
              refine WQ.y rfl (Yld.pure tab_ok rfl) ?_
              obtain ⟨h58, H⟩ := H
              refine WQ.y rfl (Yld.iaddrW tab_ok k77.rd rfl rfl rfl rfl h58.1 h58.2) ?_
              refine WQ.y rfl (Yld.iload 0 tab_ok k77.rd rfl rfl (iltN h58 rfl)) ?_
              refine WQ.y rfl (Yld.pure tab_ok rfl) ?_
              refine WQ.y rfl (Yld.pure tab_ok rfl) ?_
              refine WQ.y rfl (Yld.pure tab_ok rfl) ?_
              obtain ⟨h59, H⟩ := H
              refine WQ.y rfl (Yld.iaddrW tab_ok k80.rd rfl rfl hn_w_2 rfl h59.1 h59.2) ?_
              refine WQ.y rfl (Yld.iload 0 tab_ok k80.rd rfl rfl (iltN h59 hn_w_2)) ?_
              refine WQ.y rfl (Yld.pure tab_ok rfl) ?_
              refine WQ.y rfl (Yld.pure tab_ok rfl) ?_
              refine WQ.nil (WX.then_normal ?_)
              refine WC.seq ?_
              refine WC.chainF (fun k => !(Nat.beq k 3 || Nat.beq k 7 || Nat.beq k 12)) (LD [2, 6, 11] (fun w' => Rd vu w' A_v2 c_v2 v)) mixed (by kernel_rfl) (fun k w' h _ => (rd_eqv h k81.rd)) ?_
              refine WJ.y rfl rfl (fun w' hw' => Yld.pure tab_ok rfl) ?_
              obtain ⟨h60, H⟩ := H
              refine WJ.y rfl rfl (fun w' hw' => Yld.iaddrW tab_ok k81.rd rfl rfl rfl rfl h60.1 h60.2) ?_
              refine WJ.y rfl rfl (fun w' hw' => Yld.iload 0 tab_ok (hw' rfl) rfl rfl (iltN h60 rfl)) ?_
              refine WJ.call rfl (wants_none) rfl rfl (W_smithyref1_turn H) (fun v w' h w2 e => DD.keep (rd_eqv (eqvL h.1 e) k81.rd)) ?_
              rintro _ _ ⟨rfl, t234, rfl, H⟩
              refine WJ.y rfl rfl (fun w' hw' => Yld.pure tab_ok rfl) ?_
              obtain ⟨h61, H⟩ := H
              refine WJ.y rfl rfl (fun w' hw' => Yld.iaddrW tab_ok k81.rd rfl rfl rfl rfl h61.1 h61.2) ?_
              refine WJ.y rfl rfl (fun w' hw' => Yld.iload 0 tab_ok (hw' rfl) rfl rfl (iltN h61 rfl)) ?_
              refine WJ.call rfl (wants_none) rfl rfl (W_smithyref1_turn H) (fun v w' h w2 e => DD.keep (rd_eqv (eqvL h.1 e) k81.rd)) ?_
              rintro _ _ ⟨rfl, t238, rfl, H⟩
              refine WJ.y rfl rfl (fun w' hw' => Yld.pure tab_ok rfl) ?_
              refine WJ.y rfl rfl (fun w' hw' => Yld.pure tab_ok rfl) ?_
              obtain ⟨h62, H⟩ := H
              refine WJ.y rfl rfl (fun w' hw' => Yld.iaddrW tab_ok k81.rd rfl rfl rfl rfl h62.1 h62.2) ?_
              refine WJ.y rfl rfl (fun w' hw' => Yld.iload 0 tab_ok (hw' rfl) rfl rfl (iltN h62 rfl)) ?_
              refine WJ.call rfl (wants_none) rfl rfl (W_smithyref1_turn H) (fun v w' h w2 e => DD.keep (rd_eqv (eqvL h.1 e) k81.rd)) ?_
              rintro _ _ ⟨rfl, t243, rfl, H⟩
              refine WJ.y rfl rfl (fun w' hw' => Yld.pure tab_ok rfl) ?_
              refine WJ.y rfl rfl (fun w' hw' => Yld.pure tab_ok rfl) ?_
              refine WJ.nil (WX.then_normal ?_)
              refine WC.seq ?_
              refine WC.quiet mixed (by kernel_rfl) ?_
              refine WQ.y rfl (Yld.pure tab_ok rfl) ?_
              obtain ⟨h63, H⟩ := H
              refine WQ.y rfl (Yld.iaddrW tab_ok k81.rd rfl rfl rfl rfl h63.1 h63.2) ?_
              refine WQ.y rfl (Yld.iload 0 tab_ok k81.rd rfl rfl (iltN h63 rfl)) ?_
              refine WQ.y rfl (Yld.pure tab_ok rfl) ?_
              obtain ⟨h64, H⟩ := H
              refine WQ.y rfl (Yld.iaddrW tab_ok k81.rd rfl rfl rfl rfl h64.1 h64.2) ?_
              refine WQ.y rfl (Yld.iload 0 tab_ok k81.rd rfl rfl (iltN h64 rfl)) ?_
              refine WQ.y rfl (Yld.pure tab_ok rfl) ?_
              refine WQ.y rfl (Yld.pure tab_ok rfl) ?_
              obtain ⟨h65, H⟩ := H
              refine WQ.y rfl (Yld.iaddrW tab_ok k81.rd rfl rfl rfl rfl h65.1 h65.2) ?_
              refine WQ.y rfl (Yld.iload 0 tab_ok k81.rd rfl rfl (iltN h65 rfl)) ?_
              refine WQ.y rfl (Yld.pure tab_ok rfl) ?_
              obtain ⟨h66, H⟩ := H
              refine WQ.y rfl (Yld.iaddrW tab_ok k81.rd rfl rfl rfl rfl h66.1 h66.2) ?_
              refine WQ.y rfl (Yld.iload 0 tab_ok k81.rd rfl rfl (iltN h66 rfl)) ?_
              refine WQ.y rfl (Yld.pure tab_ok rfl) ?_
              refine WQ.y rfl (Yld.pure tab_ok rfl) ?_
              refine WQ.y rfl (Yld.pure tab_ok rfl) ?_
              obtain ⟨h67, H⟩ := H
              refine WQ.y rfl (Yld.iaddrW tab_ok k81.rd rfl rfl rfl rfl h67.1 h67.2) ?_
              refine WQ.y rfl (Yld.iload 0 tab_ok k81.rd rfl rfl (iltN h67 rfl)) ?_
              refine WQ.y rfl (Yld.pure tab_ok rfl) ?_
              obtain ⟨h68, H⟩ := H
              refine WQ.y rfl (Yld.iaddrW tab_ok k81.rd rfl rfl rfl rfl h68.1 h68.2) ?_
              refine WQ.y rfl (Yld.iload 0 tab_ok k81.rd rfl rfl (iltN h68 rfl)) ?_
              refine WQ.y rfl (Yld.pure tab_ok rfl) ?_
              refine WQ.y rfl (Yld.pure tab_ok rfl) ?_
              refine WQ.y rfl (Yld.pure tab_ok rfl) ?_
              refine WQ.nil (WX.then_normal ?_)
              refine WC.chainF (fun k => !(Nat.beq k 28)) (LD [7, 10, 13, 16, 21, 24, 27] (fun w' => Rd vu w' A_v2 c_v2 v)) mixed (by kernel_rfl) (fun k w' h _ => (rd_eqv h k81.rd)) ?_
              refine WJ.y rfl rfl (fun w' hw' => Yld.pure tab_ok rfl) ?_
              refine WJ.y rfl rfl (fun w' hw' => Yld.pure tab_ok rfl) ?_
              refine WJ.y rfl rfl (fun w' hw' => Yld.pure tab_ok rfl) ?_
              refine WJ.y rfl rfl (fun w' hw' => Yld.pure tab_ok rfl) ?_
              refine WJ.y rfl rfl (fun w' hw' => Yld.pure tab_ok rfl) ?_
              refine WJ.y rfl rfl (fun w' hw' => Yld.pure tab_ok rfl) ?_
              obtain ⟨h69, H⟩ := H
              refine WJ.y rfl rfl (fun w' hw' => Yld.iaddrW tab_ok k81.rd rfl rfl rfl rfl h69.1 h69.2) ?_
              refine WJ.y rfl rfl (fun w' hw' => Yld.iload 0 tab_ok (hw' rfl) rfl rfl (iltN h69 rfl)) ?_
              refine WJ.y rfl rfl (fun w' hw' => Yld.pure tab_ok rfl) ?_
              obtain ⟨h70, H⟩ := H
              refine WJ.y rfl rfl (fun w' hw' => Yld.iaddrW tab_ok k81.rd rfl rfl rfl rfl h70.1 h70.2) ?_
              refine WJ.y rfl rfl (fun w' hw' => Yld.iload 0 tab_ok (hw' rfl) rfl rfl (iltN h70 rfl)) ?_
              refine WJ.y rfl rfl (fun w' hw' => Yld.pure tab_ok rfl) ?_
              obtain ⟨h71, H⟩ := H
              refine WJ.y rfl rfl (fun w' hw' => Yld.iaddrW tab_ok k81.rd rfl rfl rfl rfl h71.1 h71.2) ?_
              refine WJ.y rfl rfl (fun w' hw' => Yld.iload 0 tab_ok (hw' rfl) rfl rfl (iltN h71 rfl)) ?_
              refine WJ.y rfl rfl (fun w' hw' => Yld.pure tab_ok rfl) ?_
              obtain ⟨h72, H⟩ := H
              refine WJ.y rfl rfl (fun w' hw' => Yld.iaddrW tab_ok k81.rd rfl rfl rfl rfl h72.1 h72.2) ?_
              refine WJ.y rfl rfl (fun w' hw' => Yld.iload 0 tab_ok (hw' rfl) rfl rfl (iltN h72 rfl)) ?_
              refine WJ.y rfl rfl (fun w' hw' => Yld.pure tab_ok rfl) ?_
              refine WJ.y rfl rfl (fun w' hw' => Yld.pure tab_ok rfl) ?_
              refine WJ.y rfl rfl (fun w' hw' => Yld.pure tab_ok rfl) ?_
              obtain ⟨h73, H⟩ := H
              refine WJ.y rfl rfl (fun w' hw' => Yld.iaddrW tab_ok k81.rd rfl rfl rfl rfl h73.1 h73.2) ?_
              refine WJ.y rfl rfl (fun w' hw' => Yld.iload 0 tab_ok (hw' rfl) rfl rfl (iltN h73 rfl)) ?_
              refine WJ.y rfl rfl (fun w' hw' => Yld.pure tab_ok rfl) ?_
              obtain ⟨h74, H⟩ := H
              refine WJ.y rfl rfl (fun w' hw' => Yld.iaddrW tab_ok k81.rd rfl rfl rfl rfl h74.1 h74.2) ?_
              refine WJ.y rfl rfl (fun w' hw' => Yld.iload 0 tab_ok (hw' rfl) rfl rfl (iltN h74 rfl)) ?_
              refine WJ.y rfl rfl (fun w' hw' => Yld.pure tab_ok rfl) ?_
              obtain ⟨h75, H⟩ := H
              refine WJ.y rfl rfl (fun w' hw' => Yld.iaddrW tab_ok k81.rd rfl rfl rfl rfl h75.1 h75.2) ?_
              refine WJ.y rfl rfl (fun w' hw' => Yld.iload 0 tab_ok (hw' rfl) rfl rfl (iltN h75 rfl)) ?_
              refine WJ.putw rfl (wants_none) rfl (Eff.lit tab_ok rfl rfl (all1c rfl (all1c rfl (all1c rfl (all1c rfl (all1c rfl (all1c rfl (all1c rfl (all1c rfl all1n)))))))) rfl (by omega)) (fun v w' ⟨_, _, h⟩ => DD.keep (Rd.grown k81.rd (gr_eqv h (Eqv.refl _)))) ?_
              rintro _ w23 ⟨rfl, hB6, hg17⟩
              obtain ⟨g_v, hl9⟩ : ∃ g, g = w22.heap.size := ⟨_, rfl⟩
              rw [← hl9] at hB6
              rw [← hl9]
              have hO15 : Own vu w23 w.heap.size 98 (some ⟨g_v, 0, none⟩) 8 ([IntKind.wrap .u32 ((IntKind.wrap .u32 ((IntKind.wrap .u32 ((IntKind.wrap .u32 ((IntKind.wrap .u32 ((IntKind.wrap .u32 ((v.getD 7 0) + (bits .xor .u32 (bits .xor .u32 t187 t191) t196))) + (bits .xor .u32 (bits .and .u32 (v.getD 4 0) (v.getD 5 0)) (bits .and .u32 (bits .xor .u32 (if IntKind.signed .u32 then -1 else IntKind.max .u32) (v.getD 4 0)) (v.getD 6 0))))) + (k.getD i4.toNat 0))) + (w_2.getD i4.toNat 0))) + (bits .xor .u32 (bits .xor .u32 t234 t238) t243))) + (bits .xor .u32 (bits .xor .u32 (bits .and .u32 (v.getD 0 0) (v.getD 1 0)) (bits .and .u32 (v.getD 0 0) (v.getD 2 0))) (bits .and .u32 (v.getD 1 0) (v.getD 2 0)))), v.getD 0 0, v.getD 1 0, v.getD 2 0, IntKind.wrap .u32 ((v.getD 3 0) + (IntKind.wrap .u32 ((IntKind.wrap .u32 ((IntKind.wrap .u32 ((IntKind.wrap .u32 ((v.getD 7 0) + (bits .xor .u32 (bits .xor .u32 t187 t191) t196))) + (bits .xor .u32 (bits .and .u32 (v.getD 4 0) (v.getD 5 0)) (bits .and .u32 (bits .xor .u32 (if IntKind.signed .u32 then -1 else IntKind.max .u32) (v.getD 4 0)) (v.getD 6 0))))) + (k.getD i4.toNat 0))) + (w_2.getD i4.toNat 0)))), v.getD 4 0, v.getD 5 0, v.getD 6 0] : List Int) := Own.ofBl hB6 (Nat.le_trans (size_le gr22) (Nat.le_of_eq hl9.symm)) (by simp [maxLen]) rfl
              have gr23 := gr_trans gr22 hg17
              have k82 := k76.g0 hg17
              have k83 := k77.grown hg17
              have k84 := k78.grown hg17
              have k85 := k79.grown hg17
              have k86 := k80.grown hg17
              have k87 := k81.grown hg17
              refine WJ.y rfl rfl (fun w' hw' => Yld.pure tab_ok rfl) ?_
              refine WJ.nil (WX.block_normal (WX.then_normal ?_))
              refine WC.region ?_
              refine WL.y rfl (Yld.pure tab_ok rfl) ?_
              obtain ⟨h76, H⟩ := H
              refine WL.y rfl (Yld.add rfl rfl h76) ?_
              refine WL.y rfl (Yld.pure tab_ok rfl) ?_
              refine WL.nil ?_
              exact WX.roundF _ ⟨([IntKind.wrap .u32 ((IntKind.wrap .u32 ((IntKind.wrap .u32 ((IntKind.wrap .u32 ((IntKind.wrap .u32 ((IntKind.wrap .u32 ((v.getD 7 0) + (bits .xor .u32 (bits .xor .u32 t187 t191) t196))) + (bits .xor .u32 (bits .and .u32 (v.getD 4 0) (v.getD 5 0)) (bits .and .u32 (bits .xor .u32 (if IntKind.signed .u32 then -1 else IntKind.max .u32) (v.getD 4 0)) (v.getD 6 0))))) + (k.getD i4.toNat 0))) + (w_2.getD i4.toNat 0))) + (bits .xor .u32 (bits .xor .u32 t234 t238) t243))) + (bits .xor .u32 (bits .xor .u32 (bits .and .u32 (v.getD 0 0) (v.getD 1 0)) (bits .and .u32 (v.getD 0 0) (v.getD 2 0))) (bits .and .u32 (v.getD 1 0) (v.getD 2 0)))), v.getD 0 0, v.getD 1 0, v.getD 2 0, IntKind.wrap .u32 ((v.getD 3 0) + (IntKind.wrap .u32 ((IntKind.wrap .u32 ((IntKind.wrap .u32 ((IntKind.wrap .u32 ((v.getD 7 0) + (bits .xor .u32 (bits .xor .u32 t187 t191) t196))) + (bits .xor .u32 (bits .and .u32 (v.getD 4 0) (v.getD 5 0)) (bits .and .u32 (bits .xor .u32 (if IntKind.signed .u32 then -1 else IntKind.max .u32) (v.getD 4 0)) (v.getD 6 0))))) + (k.getD i4.toNat 0))) + (w_2.getD i4.toNat 0)))), v.getD 4 0, v.getD 5 0, v.getD 6 0] : List Int), (some ⟨g_v, 0, none⟩), 8, 8, i4 + (1 : Int), rfl, rfl, H.1, rfl, gr23, k82, k83, k84, k85, k86, hO15, dj39, dj40, dj41, dj42, (Dj.new k76.lt' (Ge.box (Nat.le_of_eq hl9.symm))), dj44, dj45, dj46, (Dj.new k77.lt' (Ge.box (Nat.le_of_eq hl9.symm))), dj48, dj49, (Dj.new k78.lt' (Ge.box (Nat.le_of_eq hl9.symm))), dj51, (Dj.new k79.lt' (Ge.box (Nat.le_of_eq hl9.symm))), (Dj.new k80.lt' (Ge.box (Nat.le_of_eq hl9.symm)))⟩ (by repeat (first | exact Sub.nil | refine Sub.cons rfl ?_)) H.2
            · replace H := H.2 (of_decide_eq_false b6)
              refine WC.exit (WX.then_exit (WX.then_exit (WX.block_same (WX.then_normal ?_))))
              refine WC.seq ?_
              refine WC.region ?_
              refine WL.y rfl (Yld.pure tab_ok rfl) ?_
              refine WL.nil (WX.then_normal ?_)
              refine WC.block ?_
              obtain ⟨I7, mu7, h0_7, HR7⟩ := H
              refine WC.loopF (fun n' L' w' => ∃ (i5 : Int), ∃ (h2 : List Int), n' = mu7 i5 h2 ∧ L' = [(2, .pointer (some ⟨g1, 0, none⟩)), (3, .slice A_k k.length c_k), (4, .slice (some ⟨g2, 0, none⟩) 8 8), (5, .slice A_m5 m2.length c_m5), (8, .int .i64 at_), (14, .slice A_v2 v.length c_v2), (21, .int .i64 i5)] ∧ I7 i5 h2 ∧ 8 = h2.length ∧ w.grownBy w' none ∧ Bl w' g1 25 (a32 (List.replicate 32 0 : List UInt8)) ∧ Own vu w' w.heap.size 98 A_k c_k k ∧ Own vu w' w.heap.size 98 (some ⟨g2, 0, none⟩) 8 h2 ∧ Own vb w' w.heap.size 5 A_m5 c_m5 m2 ∧ Own vu w' w.heap.size 98 A_v2 c_v2 v ∧ Dj (some g1) (blk A_k) ∧ Dj (some g1) (blk (some ⟨g2, 0, none⟩)) ∧ Dj (some g1) (blk A_m5) ∧ Dj (some g1) (blk A_v2) ∧ Dj (blk A_k) (blk (some ⟨g2, 0, none⟩)) ∧ Dj (blk A_k) (blk A_m5) ∧ Dj (blk A_k) (blk A_v2) ∧ Dj (blk (some ⟨g2, 0, none⟩)) (blk A_m5) ∧ Dj (blk (some ⟨g2, 0, none⟩)) (blk A_v2) ∧ Dj (blk A_m5) (blk A_v2)) _ _ ⟨(0 : Int), h, rfl, rfl, h0_7, hn_h, gr22, k76, k77, k78, k79, k81, dj39, dj40, dj41, dj43, dj44, dj45, dj47, dj48, dj50, dj52⟩ (by repeat (first | exact Sub.nil | refine Sub.cons rfl ?_)) ?_
              clear h0_7
              rintro _ _ w24 ⟨i5, h2, rfl, rfl, hI7, hn_h2, gr24, k88, k89, k90, k91, k92, dj54, dj55, dj56, dj57, dj58, dj59, dj60, dj61, dj62, dj63⟩
              have H := HR7 i5 h2 hI7
              replace H := H hn_h2
              refine WC.seq ?_
              refine WC.seq ?_
              refine WC.region ?_
              refine WL.y rfl (Yld.pure tab_ok rfl) ?_
              refine WL.y rfl (Yld.pure tab_ok rfl) ?_
              refine WL.nil (WX.then_normal ?_)
              refine WC.cond rfl (fun b7 => ?_) (fun b7 => ?_)
              · replace H := H.1 (of_decide_eq_true b7)
                refine WC.skip (WX.then_normal ?_)
                refine WC.seq ?_
                refine WC.block ?_
                refine WC.chainF (fun k => !(Nat.beq k 12)) (LD [5, 9] (fun w' => Rd vu w' (some ⟨g2, 0, none⟩) 8 h2 ∧ Rd vu w' A_v2 c_v2 v)) mixed (by kernel_rfl) (fun k w' h _ => ⟨(rd_eqv h k90.rd), (rd_eqv h k92.rd)⟩) ?_
                refine WJ.y rfl rfl (fun w' hw' => Yld.pure tab_ok rfl) ?_
                refine WJ.y rfl rfl (fun w' hw' => Yld.pure tab_ok rfl) ?_
                refine WJ.y rfl rfl (fun w' hw' => Yld.pure tab_ok rfl) ?_
                refine WJ.y rfl rfl (fun w' hw' => Yld.pure tab_ok rfl) ?_
                obtain ⟨h77, H⟩ := H
                refine WJ.y rfl rfl (fun w' hw' => Yld.iaddrW tab_ok k90.rd rfl rfl hn_h2 rfl h77.1 h77.2) ?_
                refine WJ.y rfl rfl (fun w' hw' => Yld.iload 0 tab_ok (hw' rfl).1 rfl rfl (iltN h77 hn_h2)) ?_
                refine WJ.y rfl rfl (fun w' hw' => Yld.pure tab_ok rfl) ?_
                refine WJ.y rfl rfl (fun w' hw' => Yld.pure tab_ok rfl) ?_
                obtain ⟨h78, H⟩ := H
                refine WJ.y rfl rfl (fun w' hw' => Yld.iaddrW tab_ok k92.rd rfl rfl rfl rfl h78.1 h78.2) ?_
                refine WJ.y rfl rfl (fun w' hw' => Yld.iload 0 tab_ok (hw' rfl).2 rfl rfl (iltN h78 rfl)) ?_
                refine WJ.y rfl rfl (fun w' hw' => Yld.pure tab_ok rfl) ?_
                obtain ⟨h79, H⟩ := H
                refine WJ.y rfl rfl (fun w' hw' => Yld.iaddrW tab_ok k90.rd rfl rfl hn_h2 rfl h79.1 h79.2) ?_
                refine WJ.eff rfl (Ef0.ostore (v := IntKind.wrap .u32 ((h2.getD i5.toNat 0) + (v.getD i5.toNat 0))) one98 One.u k90 rfl rfl (iltN h79 hn_h2)) (fun w' h => DD.past (by kernel_rfl)) ?_
                rintro w25 ⟨hO16, hg18⟩
                have gr25 := gr_mod gr24 hg18 k90.ge'
                have k93 := k88.go hg18 dj55
                have k94 := k89.go hg18 dj58
                have k95 := k91.go hg18 dj61.symm
                have k96 := k92.go hg18 dj62.symm
                refine WJ.nil (WX.block_normal (WX.then_normal ?_))
                refine WC.region ?_
                refine WL.y rfl (Yld.pure tab_ok rfl) ?_
                obtain ⟨h80, H⟩ := H
                refine WL.y rfl (Yld.add rfl rfl h80) ?_
                refine WL.y rfl (Yld.pure tab_ok rfl) ?_
                refine WL.nil ?_
                exact WX.roundF _ ⟨i5 + (1 : Int), h2.set i5.toNat (IntKind.wrap .u32 ((h2.getD i5.toNat 0) + (v.getD i5.toNat 0))), rfl, rfl, H.1, (hn_h2.trans List.length_set.symm), gr25, k93, k94, hO16, k95, k96, dj54, dj55, dj56, dj57, dj58, dj59, dj60, dj61, dj62, dj63⟩ (by repeat (first | exact Sub.nil | refine Sub.cons rfl ?_)) H.2
              · replace H := H.2 (of_decide_eq_false b7)
                refine WC.exit (WX.then_exit (WX.then_exit (WX.block_same (WX.block_normal (WX.then_normal ?_)))))
                refine WC.region ?_
                refine WL.y rfl (Yld.pure tab_ok rfl) ?_
                obtain ⟨h81, H⟩ := H
                refine WL.y rfl (Yld.add rfl rfl h81) ?_
                refine WL.y rfl (Yld.pure tab_ok rfl) ?_
                refine WL.nil ?_
                exact WX.roundF _ ⟨at_ + (64 : Int), h2, rfl, rfl, H.1, hn_h2, gr24, k88, k89, k90, k91, dj54, dj55, dj56, dj58, dj59, dj61⟩ (by repeat (first | exact Sub.nil | refine Sub.cons rfl ?_)) H.2
      · replace H := H.2 (of_decide_eq_false b3)
        refine WC.exit (WX.then_exit (WX.then_exit (WX.block_same (WX.then_normal ?_))))
        refine WC.seq ?_
        refine WC.region ?_
        refine WL.alloc rfl zero25 (fun g9 w26 hB7 hg19 hl10 => ?_)
        rw [a32_zero] at hB7
        have gr26 := gr_trans gr14 hg19
        have k97 := k40.g0 hg19
        have k98 := k42.grown hg19
        refine WL.nil (WX.then_normal ?_)
        refine WC.seq ?_
        refine WC.seq ?_
        refine WC.region ?_
        refine WL.y rfl (Yld.pure tab_ok rfl) ?_
        refine WL.nil (WX.then_normal ?_)
        refine WC.block ?_
        obtain ⟨I8, mu8, h0_8, HR8⟩ := H
        refine WC.loopF (fun n' L' w' => ∃ (i6 : Int), ∃ (out0 : List UInt8), n' = mu8 i6 out0 ∧ L' = [(2, .pointer (some ⟨g1, 0, none⟩)), (4, .slice (some ⟨g2, 0, none⟩) 8 8), (22, .pointer (some ⟨g9, 0, none⟩)), (23, .int .i64 i6)] ∧ I8 i6 out0 ∧ w.grownBy w' none ∧ Bl w' g1 25 (a32 (List.replicate 32 0 : List UInt8)) ∧ Own vu w' w.heap.size 98 (some ⟨g2, 0, none⟩) 8 h ∧ Bl w' g9 25 (a32 out0) ∧ Dj (some g1) (blk (some ⟨g2, 0, none⟩)) ∧ Dj (some g1) (some g9) ∧ Dj (blk (some ⟨g2, 0, none⟩)) (some g9)) _ _ ⟨(0 : Int), (List.replicate 32 0 : List UInt8), rfl, rfl, h0_8, gr26, k97, k98, hB7, dj14, (Dj.new k40.lt' (Ge.box hl10)), (Dj.new k42.lt' (Ge.box hl10))⟩ (by repeat (first | exact Sub.nil | refine Sub.cons rfl ?_)) ?_
        clear h0_8
        rintro _ _ w27 ⟨i6, out0, rfl, rfl, hI8, gr27, k99, k100, k101, dj64, dj65, dj66⟩
        have H := HR8 i6 out0 hI8
        refine WC.seq ?_
        refine WC.seq ?_
        refine WC.region ?_
        refine WL.y rfl (Yld.pure tab_ok rfl) ?_
        refine WL.y rfl (Yld.pure tab_ok rfl) ?_
        refine WL.nil (WX.then_normal ?_)
        refine WC.cond rfl (fun b8 => ?_) (fun b8 => ?_)
        · replace H := H.1 (of_decide_eq_true b8)
          refine WC.skip (WX.then_normal ?_)
          refine WC.seq ?_
          refine WC.block ?_
          refine WC.seq ?_
          refine WC.region ?_
          refine WL.y rfl (Yld.pure tab_ok rfl) ?_
          refine WL.nil (WX.then_normal ?_)
          refine WC.block ?_
          obtain ⟨I9, mu9, h0_9, HR9⟩ := H
          refine WC.loopF (fun n' L' w' => ∃ (j : Int), ∃ (out02 : List UInt8), n' = mu9 j out02 ∧ L' = [(2, .pointer (some ⟨g1, 0, none⟩)), (4, .slice (some ⟨g2, 0, none⟩) 8 8), (22, .pointer (some ⟨g9, 0, none⟩)), (23, .int .i64 i6), (24, .int .i64 j)] ∧ I9 j out02 ∧ w.grownBy w' none ∧ Bl w' g1 25 (a32 (List.replicate 32 0 : List UInt8)) ∧ Own vu w' w.heap.size 98 (some ⟨g2, 0, none⟩) 8 h ∧ Bl w' g9 25 (a32 out02) ∧ Dj (some g1) (blk (some ⟨g2, 0, none⟩)) ∧ Dj (some g1) (some g9) ∧ Dj (blk (some ⟨g2, 0, none⟩)) (some g9)) _ _ ⟨(0 : Int), out0, rfl, rfl, h0_9, gr27, k99, k100, k101, dj64, dj65, dj66⟩ (by repeat (first | exact Sub.nil | refine Sub.cons rfl ?_)) ?_
          clear h0_9
          rintro _ _ w28 ⟨j, out02, rfl, rfl, hI9, gr28, k102, k103, k104, dj67, dj68, dj69⟩
          have H := HR9 j out02 hI9
          refine WC.seq ?_
          refine WC.seq ?_
          refine WC.region ?_
          refine WL.y rfl (Yld.pure tab_ok rfl) ?_
          refine WL.y rfl (Yld.pure tab_ok rfl) ?_
          refine WL.nil (WX.then_normal ?_)
          refine WC.cond rfl (fun b9 => ?_) (fun b9 => ?_)
          · replace H := H.1 (of_decide_eq_true b9)
            refine WC.skip (WX.then_normal ?_)
            refine WC.seq ?_
            refine WC.block ?_
            refine WC.region ?_
            refine WL.y rfl (Yld.pure tab_ok rfl) ?_
            obtain ⟨h82, H⟩ := H
            refine WL.y rfl (Yld.mul rfl rfl h82) ?_
            refine WL.y rfl (Yld.pure tab_ok rfl) ?_
            obtain ⟨h83, H⟩ := H
            refine WL.y rfl (Yld.add rfl rfl h83) ?_
            refine WL.y rfl (Yld.pure tab_ok rfl) ?_
            refine WL.y rfl (Yld.pure tab_ok rfl) ?_
            obtain ⟨h84, H⟩ := H
            refine WL.y rfl (Yld.iaddrW tab_ok k103.rd rfl rfl hn_h rfl h84.1 h84.2) ?_
            refine WL.y rfl (Yld.iload 0 tab_ok k103.rd rfl rfl (iltN h84 hn_h)) ?_
            refine WL.y rfl (Yld.pure tab_ok rfl) ?_
            obtain ⟨h85, H⟩ := H
            refine WL.y rfl (Yld.mul rfl rfl h85) ?_
            obtain ⟨h86, H⟩ := H
            refine WL.y rfl (Yld.sub rfl rfl h86) ?_
            refine WL.y rfl (Yld.pure tab_ok rfl) ?_
            obtain ⟨h87, H⟩ := H
            refine WL.y rfl (Yld.shr rfl rfl h87) ?_
            refine WL.y rfl (Yld.pure tab_ok rfl) ?_
            obtain ⟨h88, H⟩ := H
            refine WL.y rfl (Yld.aaddr tab_ok rfl rfl rfl h88.1 h88.2) ?_
            obtain ⟨h89, H⟩ := H
            obtain ⟨h90, H⟩ := H
            refine WL.store1 (u := vb (UInt8.ofNat (IntKind.wrap .u8 (shrV .u32 (h.getD i6.toNat 0) (IntKind.wrap .u64 ((24 : Int) - ((8 : Int) * j))).toNat)).toNat)) one5 rfl (byte_eq h89) rfl k104 (a32_lt (lt32 h88)) (fun w29 hB8 hg20 => ?_)
            have hB9 : Bl w29 g9 25 (a32 (out02.set ((((4 : Int) * i6) + j).toNat) (UInt8.ofNat (IntKind.wrap .u8 (shrV .u32 (h.getD i6.toNat 0) (IntKind.wrap .u64 ((24 : Int) - ((8 : Int) * j))).toNat)).toNat))) := a32_setO h90 ▸ hB8
            have gr29 := gr_mod gr28 hg20 (Ge.le (Ge.box hl10) (size_le gr14))
            have k105 := k102.go hg20 dj68
            have k106 := k103.go hg20 dj69
            refine WL.nil (WX.block_normal (WX.then_normal ?_))
            refine WC.region ?_
            refine WL.y rfl (Yld.pure tab_ok rfl) ?_
            obtain ⟨h91, H⟩ := H
            refine WL.y rfl (Yld.add rfl rfl h91) ?_
            refine WL.y rfl (Yld.pure tab_ok rfl) ?_
            refine WL.nil ?_
            exact WX.roundF _ ⟨j + (1 : Int), out02.set ((((4 : Int) * i6) + j).toNat) (UInt8.ofNat (IntKind.wrap .u8 (shrV .u32 (h.getD i6.toNat 0) (IntKind.wrap .u64 ((24 : Int) - ((8 : Int) * j))).toNat)).toNat), rfl, rfl, H.1, gr29, k105, k106, hB9, dj67, dj68, dj69⟩ (by repeat (first | exact Sub.nil | refine Sub.cons rfl ?_)) H.2
          · replace H := H.2 (of_decide_eq_false b9)
            refine WC.exit (WX.then_exit (WX.then_exit (WX.block_same (WX.block_normal (WX.then_normal ?_)))))
            refine WC.region ?_
            refine WL.y rfl (Yld.pure tab_ok rfl) ?_
            obtain ⟨h92, H⟩ := H
            refine WL.y rfl (Yld.add rfl rfl h92) ?_
            refine WL.y rfl (Yld.pure tab_ok rfl) ?_
            refine WL.nil ?_
            exact WX.roundF _ ⟨i6 + (1 : Int), out02, rfl, rfl, H.1, gr28, k102, k103, k104, dj67, dj68, dj69⟩ (by repeat (first | exact Sub.nil | refine Sub.cons rfl ?_)) H.2
        · replace H := H.2 (of_decide_eq_false b8)
          refine WC.exit (WX.then_exit (WX.then_exit (WX.block_same (WX.then_normal ?_))))
          refine WC.seq ?_
          refine WC.region ?_
          refine WL.y rfl (Yld.bagg (vs := (a32 out0)) tab_ok k101 rfl rfl rfl rfl) ?_
          refine WL.storeW (vs := (a32 out0)) tab_ok rfl rfl rfl (all1a (a32_one _) all1n) k99 rfl rfl (fun w30 hB10 hg21 => ?_)
          have gr30 := gr_mod gr27 hg21 (Ge.le (Ge.box hl1) (Nat.le_refl _))
          refine WL.nil (WX.then_normal ?_)
          refine WC.ret ?_
          exact WX.retc tab_ok rfl rfl rfl hB10 rfl ⟨gr30, out0, rfl, H⟩

set_option maxHeartbeats 8000000 in
theorem W_smithyref1_Many {w : World} {l : List (List UInt8)} {A_l : Option Addr} {c_l : Nat} {n_l : Nat} {K : (List UInt8) → Prop} (hl : Rd vs w A_l c_l l) (hn_l : n_l = l.length) (H : M_smithyref1_Many l K) : Fn Tryd.prog 17 ⟨[.slice A_l n_l c_l]⟩ w (fun v w' => w.grownBy w' none ∧ ∃ (r : List UInt8), v = .agg ⟨a32 r⟩ ∧ K r) := by
  subst hn_l
  unfold M_smithyref1_Many at H
  refine Fn.enter (by kernel_rfl) Tryd.func17 rfl Tryd.ntmps17 rfl ?_
  replace H := H (Nat.le_trans hl.cap hl.max)
  refine WC.seq ?_
  refine WC.region ?_
  refine WL.alloc rfl zero25 (fun g1 w1 hB1 hg1 hl1 => ?_)
  rw [a32_zero] at hB1
  have gr1 := hg1
  refine WL.nil (WX.then_normal ?_)
  refine WC.seq ?_
  refine WC.region ?_
  refine WL.y rfl (Yld.pure tab_ok rfl) ?_
  refine WL.nil (WX.then_normal ?_)
  refine WC.seq ?_
  refine WC.seq ?_
  refine WC.region ?_
  refine WL.y rfl (Yld.pure tab_ok rfl) ?_
  refine WL.nil (WX.then_normal ?_)
  refine WC.block ?_
  obtain ⟨I1, mu1, h0_1, HR1⟩ := H
  refine WC.loopF (fun n' L' w' => ∃ (m : List UInt8), ∃ (A_m : Option Addr), ∃ (c_m : Nat), ∃ (n_m : Nat), ∃ (i : Int), n' = mu1 m i ∧ L' = [(0, .slice A_l l.length c_l), (2, .pointer (some ⟨g1, 0, none⟩)), (3, .slice A_m n_m c_m), (4, .int .i64 i)] ∧ I1 m i ∧ n_m = m.length ∧ w.grownBy w' none ∧ Bl w' g1 25 (a32 (List.replicate 32 0 : List UInt8)) ∧ Own vb w' w.heap.size 5 A_m c_m m ∧ Dj (some g1) (blk A_m)) _ _ ⟨[], none, 0, 0, (0 : Int), rfl, rfl, h0_1, rfl, gr1, hB1, (Own.nil vb w1 w.heap.size 5), Dj.nr⟩ (by repeat (first | exact Sub.nil | refine Sub.cons rfl ?_)) ?_
  clear h0_1
  rintro _ _ w2 ⟨m, A_m, c_m, n_m, i, rfl, rfl, hI1, rfl, gr2, k1, k2, dj1⟩
  have H := HR1 m i hI1
  refine WC.seq ?_
  refine WC.seq ?_
  refine WC.region ?_
  refine WL.y rfl (Yld.pure tab_ok rfl) ?_
  refine WL.y rfl (Yld.pure tab_ok rfl) ?_
  refine WL.y rfl (Yld.pure tab_ok rfl) ?_
  refine WL.y rfl (Yld.pure tab_ok rfl) ?_
  refine WL.nil (WX.then_normal ?_)
  refine WC.cond rfl (fun b1 => ?_) (fun b1 => ?_)
  · replace H := H.1 (of_decide_eq_true b1)
    refine WC.skip (WX.then_normal ?_)
    refine WC.seq ?_
    refine WC.block ?_
    refine WC.seq ?_
    refine WC.region ?_
    refine WL.y rfl (Yld.pure tab_ok rfl) ?_
    refine WL.y rfl (Yld.pure tab_ok rfl) ?_
    obtain ⟨h1, H⟩ := H
    refine WL.y rfl (Yld.iaddrW tab_ok (hl.grown gr2) rfl rfl rfl rfl h1.1 h1.2) ?_
    refine WL.y rfl (Yld.iload [] tab_ok (hl.grown gr2) rfl rfl (iltN h1 rfl)) ?_
    refine WL.y rfl (Yld.pure tab_ok rfl) ?_
    refine WL.y rfl (Yld.pure tab_ok rfl) ?_
    refine WL.nil (WX.then_normal ?_)
    refine WC.seq ?_
    refine WC.region ?_
    refine WL.y rfl (Yld.pure tab_ok rfl) ?_
    refine WL.y rfl (Yld.pure tab_ok rfl) ?_
    refine WL.y rfl (Yld.shr rfl rfl (by omega)) ?_
    refine WL.y rfl (Yld.pure tab_ok rfl) ?_
    refine WL.y rfl (Yld.pure tab_ok rfl) ?_
    refine WL.y rfl (Yld.shr rfl rfl (by omega)) ?_
    refine WL.y rfl (Yld.pure tab_ok rfl) ?_
    refine WL.y rfl (Yld.pure tab_ok rfl) ?_
    refine WL.y rfl (Yld.shr rfl rfl (by omega)) ?_
    refine WL.y rfl (Yld.pure tab_ok rfl) ?_
    refine WL.y rfl (Yld.pure tab_ok rfl) ?_
    refine WL.y rfl (Yld.pure tab_ok rfl) ?_
    obtain ⟨h2, H⟩ := H
    obtain ⟨h3, H⟩ := H
    obtain ⟨h4, H⟩ := H
    obtain ⟨h5, H⟩ := H
    refine WL.lit tab_ok rfl rfl rfl (all1c rfl (all1c rfl (all1c rfl (all1c rfl all1n)))) rfl (by omega) (fun g2 w3 hB2 hg2 hl2 => ?_)
    replace hB2 : Bl w3 g2 5 (([UInt8.ofNat (IntKind.wrap .u8 (shrV .i64 ((l.getD i.toNat []).length : Int) 24)).toNat, UInt8.ofNat (IntKind.wrap .u8 (shrV .i64 ((l.getD i.toNat []).length : Int) 16)).toNat, UInt8.ofNat (IntKind.wrap .u8 (shrV .i64 ((l.getD i.toNat []).length : Int) 8)).toNat, UInt8.ofNat (IntKind.wrap .u8 ((l.getD i.toNat []).length : Int)).toNat] : List UInt8).map vb) := Bl.cast (lcons (byte_eq' h2) (lcons (byte_eq' h3) (lcons (byte_eq' h4) (lcons (byte_eq' h5) lnil)))) hB2
    have hO1 : Own vb w3 w.heap.size 5 (some ⟨g2, 0, none⟩) 4 ([UInt8.ofNat (IntKind.wrap .u8 (shrV .i64 ((l.getD i.toNat []).length : Int) 24)).toNat, UInt8.ofNat (IntKind.wrap .u8 (shrV .i64 ((l.getD i.toNat []).length : Int) 16)).toNat, UInt8.ofNat (IntKind.wrap .u8 (shrV .i64 ((l.getD i.toNat []).length : Int) 8)).toNat, UInt8.ofNat (IntKind.wrap .u8 ((l.getD i.toNat []).length : Int)).toNat] : List UInt8) := Own.ofBl hB2 (Nat.le_trans (size_le gr2) hl2) (by simp [maxLen]) rfl
    have gr3 := gr_trans gr2 hg2
    have k3 := k1.g0 hg2
    have k4 := k2.grown hg2
    obtain ⟨h6, H⟩ := H
    refine WL.append tab_ok rfl rfl One.b k4 rfl rfl hO1.rd rfl rfl h6 (applen h6) (size_le gr3) (fun A_m2 c_m2 w4 hO2 hg3 hk1 => ?_)
    have gr4 := gr_mod gr3 hg3 k4.ge'
    have k5 := k3.go hg3 dj1
    refine WL.y rfl (Yld.pure tab_ok rfl) ?_
    refine WL.nil (WX.then_normal ?_)
    refine WC.region ?_
    refine WL.y rfl (Yld.pure tab_ok rfl) ?_
    refine WL.y rfl (Yld.pure tab_ok rfl) ?_
    refine WL.y rfl (Yld.pure tab_ok rfl) ?_
    obtain ⟨h7, H⟩ := H
    refine WL.y rfl (Yld.iaddrW tab_ok (hl.grown gr4) rfl rfl rfl rfl h7.1 h7.2) ?_
    refine WL.y rfl (Yld.iload [] tab_ok (hl.grown gr4) rfl rfl (iltN h7 rfl)) ?_
    obtain ⟨h8, H⟩ := H
    refine WL.appendS tab_ok rfl rfl rfl hO2 rfl rfl rfl h8 (applen h8) (size_le gr4) (fun A_m3 c_m3 w5 hO3 hg4 hk2 => ?_)
    have gr5 := gr_mod gr4 hg4 hO2.ge'
    have k6 := k5.go hg4 ((Dj.app dj1.symm k3.lt' hk1).symm)
    refine WL.y rfl (Yld.pure tab_ok rfl) ?_
    refine WL.nil (WX.block_normal (WX.then_normal ?_))
    refine WC.region ?_
    refine WL.y rfl (Yld.pure tab_ok rfl) ?_
    obtain ⟨h9, H⟩ := H
    refine WL.y rfl (Yld.add rfl rfl h9) ?_
    refine WL.y rfl (Yld.pure tab_ok rfl) ?_
    refine WL.nil ?_
    exact WX.roundF _ ⟨(m ++ ([UInt8.ofNat (IntKind.wrap .u8 (shrV .i64 ((l.getD i.toNat []).length : Int) 24)).toNat, UInt8.ofNat (IntKind.wrap .u8 (shrV .i64 ((l.getD i.toNat []).length : Int) 16)).toNat, UInt8.ofNat (IntKind.wrap .u8 (shrV .i64 ((l.getD i.toNat []).length : Int) 8)).toNat, UInt8.ofNat (IntKind.wrap .u8 ((l.getD i.toNat []).length : Int)).toNat] : List UInt8)) ++ (l.getD i.toNat []), A_m3, c_m3, ((m ++ ([UInt8.ofNat (IntKind.wrap .u8 (shrV .i64 ((l.getD i.toNat []).length : Int) 24)).toNat, UInt8.ofNat (IntKind.wrap .u8 (shrV .i64 ((l.getD i.toNat []).length : Int) 16)).toNat, UInt8.ofNat (IntKind.wrap .u8 (shrV .i64 ((l.getD i.toNat []).length : Int) 8)).toNat, UInt8.ofNat (IntKind.wrap .u8 ((l.getD i.toNat []).length : Int)).toNat] : List UInt8)) ++ (l.getD i.toNat [])).length, i + (1 : Int), rfl, rfl, H.1, rfl, gr5, k6, hO3, (Dj.app (Dj.app dj1.symm k3.lt' hk1) k5.lt' hk2).symm⟩ (by repeat (first | exact Sub.nil | refine Sub.cons rfl ?_)) H.2
  · replace H := H.2 (of_decide_eq_false b1)
    refine WC.exit (WX.then_exit (WX.then_exit (WX.block_same (WX.then_normal ?_))))
    refine WC.seq ?_
    refine WC.region ?_
    refine WL.y rfl (Yld.pure tab_ok rfl) ?_
    refine WL.y rfl (Yld.b2s tab_ok k2.rd rfl rfl rfl rfl rfl) ?_
    refine WL.call rfl rfl (W_smithyref1_Sum H) ?_
    rintro _ w6 ⟨hg5, t39, rfl, H⟩
    have gr6 := gr_trans gr2 hg5
    have k7 := k1.g0 hg5
    refine WL.storeW (vs := (a32 t39)) tab_ok rfl rfl rfl (all1a (a32_one _) all1n) k7 rfl rfl (fun w7 hB3 hg6 => ?_)
    have gr7 := gr_mod gr6 hg6 (Ge.le (Ge.box hl1) (Nat.le_refl _))
    refine WL.nil (WX.then_normal ?_)
    refine WC.ret ?_
    exact WX.retc tab_ok rfl rfl rfl hB3 rfl ⟨gr7, t39, rfl, H⟩

set_option maxHeartbeats 8000000 in
theorem W_smithyref1_Hex {w : World} {s : List UInt8} {K : (List UInt8) → Prop} (H : M_smithyref1_Hex s K) : Fn Tryd.prog 14 ⟨[.agg ⟨a32 s⟩]⟩ w (fun v w' => w.grownBy w' none ∧ ∃ (r : List UInt8), v = vs r ∧ K r) := by
  unfold M_smithyref1_Hex at H
  refine Fn.enter (by kernel_rfl) Tryd.func14 rfl Tryd.ntmps14 rfl ?_
  refine WC.seq ?_
  refine WC.region ?_
  refine WL.box (us := (a32 s)) rfl rfl rfl (fun g1 w1 hB1 hg1 hl1 => ?_)
  have gr1 := hg1
  refine WL.y rfl (Yld.pure tab_ok rfl) ?_
  refine WL.nil (WX.then_normal ?_)
  refine WC.seq ?_
  refine WC.region ?_
  refine WL.y rfl (Yld.pure tab_ok rfl) ?_
  refine WL.nil (WX.then_normal ?_)
  refine WC.seq ?_
  refine WC.region ?_
  obtain ⟨h1, H⟩ := H
  refine WL.makeCI (f := vb) (B := w.heap.size) tab_ok rfl rfl rfl rfl h1.1 h1.2.1 h1.2.2 (size_le gr1) (fun g2 w2 hO1 hg2 hl2 => ?_)
  have gr2 := gr_trans gr1 hg2
  have k1 := hB1.g0 hg2
  refine WL.y rfl (Yld.pure tab_ok rfl) ?_
  refine WL.nil (WX.then_normal ?_)
  refine WC.seq ?_
  refine WC.seq ?_
  refine WC.region ?_
  refine WL.y rfl (Yld.pure tab_ok rfl) ?_
  refine WL.nil (WX.then_normal ?_)
  refine WC.block ?_
  obtain ⟨I1, mu1, h0_1, HR1⟩ := H
  refine WC.loopF (fun n' L' w' => ∃ (out : List UInt8), ∃ (A_out : Option Addr), ∃ (c_out : Nat), ∃ (n_out : Nat), ∃ (i : Int), n' = mu1 out i ∧ L' = [(1, .pointer (some ⟨g1, 0, none⟩)), (3, vs ([48, 49, 50, 51, 52, 53, 54, 55, 56, 57, 97, 98, 99, 100, 101, 102] : List UInt8)), (4, .slice A_out n_out c_out), (5, .int .i64 i)] ∧ I1 out i ∧ n_out = out.length ∧ w.grownBy w' none ∧ Bl w' g1 25 (a32 s) ∧ Own vb w' w.heap.size 5 A_out c_out out ∧ Dj (some g1) (blk A_out)) _ _ ⟨([] : List UInt8), (some ⟨g2, 0, none⟩), 64, 0, (0 : Int), rfl, rfl, h0_1, rfl, gr2, k1, hO1, (Dj.new hB1.lt' (Ge.box hl2))⟩ (by repeat (first | exact Sub.nil | refine Sub.cons rfl ?_)) ?_
  clear h0_1
  rintro _ _ w3 ⟨out, A_out, c_out, n_out, i, rfl, rfl, hI1, rfl, gr3, k2, k3, dj1⟩
  have H := HR1 out i hI1
  refine WC.seq ?_
  refine WC.seq ?_
  refine WC.region ?_
  refine WL.y rfl (Yld.pure tab_ok rfl) ?_
  refine WL.y rfl (Yld.pure tab_ok rfl) ?_
  refine WL.nil (WX.then_normal ?_)
  refine WC.cond rfl (fun b1 => ?_) (fun b1 => ?_)
  · replace H := H.1 (of_decide_eq_true b1)
    refine WC.skip (WX.then_normal ?_)
    refine WC.seq ?_
    refine WC.block ?_
    refine WC.chainF (fun k => !(Nat.beq k 13 || Nat.beq k 14)) (LD [4, 10] (fun w' => Bl w' g1 25 (a32 s))) mixed (by kernel_rfl) (fun k w' h _ => (bl_eqv h k2)) ?_
    refine WJ.y rfl rfl (fun w' hw' => Yld.pure tab_ok rfl) ?_
    refine WJ.y rfl rfl (fun w' hw' => Yld.pure tab_ok rfl) ?_
    refine WJ.y rfl rfl (fun w' hw' => Yld.pure tab_ok rfl) ?_
    obtain ⟨h2, H⟩ := H
    refine WJ.y rfl rfl (fun w' hw' => Yld.aaddr tab_ok rfl rfl rfl h2.1 h2.2) ?_
    refine WJ.y rfl rfl (fun w' hw' => Yld.bload tab_ok (hw' rfl) rfl rfl (a32_getO _ _ (lt32 h2))) ?_
    refine WJ.y rfl rfl (fun w' hw' => Yld.shr rfl rfl (by omega)) ?_
    obtain ⟨h3, H⟩ := H
    refine WJ.y rfl rfl (fun w' hw' => Yld.sidx tab_ok rfl rfl rfl h3.1 h3.2) ?_
    refine WJ.y rfl rfl (fun w' hw' => Yld.pure tab_ok rfl) ?_
    refine WJ.y rfl rfl (fun w' hw' => Yld.pure tab_ok rfl) ?_
    obtain ⟨h4, H⟩ := H
    refine WJ.y rfl rfl (fun w' hw' => Yld.aaddr tab_ok rfl rfl rfl h4.1 h4.2) ?_
    refine WJ.y rfl rfl (fun w' hw' => Yld.bload tab_ok (hw' rfl) rfl rfl (a32_getO _ _ (lt32 h4))) ?_
    refine WJ.y rfl rfl (fun w' hw' => Yld.pure tab_ok rfl) ?_
    obtain ⟨h5, H⟩ := H
    refine WJ.y rfl rfl (fun w' hw' => Yld.sidx tab_ok rfl rfl rfl h5.1 h5.2) ?_
    refine WJ.putw rfl (wants_none) rfl (Eff.lit tab_ok rfl rfl (all1c rfl (all1c rfl all1n)) rfl (by omega)) (fun v w' ⟨_, _, h⟩ => DD.keep (Bl.g0 k2 (gr_eqv h (Eqv.refl _)))) ?_
    rintro _ w4 ⟨rfl, hB2, hg3⟩
    obtain ⟨g_t24, hl3⟩ : ∃ g, g = w3.heap.size := ⟨_, rfl⟩
    rw [← hl3] at hB2
    rw [← hl3]
    have hO2 : Own vb w4 w.heap.size 5 (some ⟨g_t24, 0, none⟩) 2 ([([48, 49, 50, 51, 52, 53, 54, 55, 56, 57, 97, 98, 99, 100, 101, 102] : List UInt8).getD (shrV .u8 ((s.getD i.toNat 0).toNat : Int) 4).toNat 0, ([48, 49, 50, 51, 52, 53, 54, 55, 56, 57, 97, 98, 99, 100, 101, 102] : List UInt8).getD (bits .and .u8 ((s.getD i.toNat 0).toNat : Int) (15 : Int)).toNat 0] : List UInt8) := Own.ofBl hB2 (Nat.le_trans (size_le gr3) (Nat.le_of_eq hl3.symm)) (by simp [maxLen]) rfl
    have gr4 := gr_trans gr3 hg3
    have k4 := k2.g0 hg3
    have k5 := k3.grown hg3
    obtain ⟨h6, H⟩ := H
    refine WJ.putw rfl (wants_none) rfl (Eff.append tab_ok rfl One.b k5 rfl rfl hO2.rd rfl rfl h6 (applen h6) (size_le gr4)) (fun v w' ⟨_, _, _, _, h, _⟩ => DD.keep (Bl.go k4 (gr_eqv h (Eqv.refl _)) dj1)) ?_
    rintro _ w5 ⟨A_out2, c_out2, rfl, hO3, hg4, hk1⟩
    have gr5 := gr_mod gr4 hg4 k5.ge'
    have k6 := k4.go hg4 dj1
    refine WJ.y rfl rfl (fun w' hw' => Yld.pure tab_ok rfl) ?_
    refine WJ.nil (WX.block_normal (WX.then_normal ?_))
    refine WC.region ?_
    refine WL.y rfl (Yld.pure tab_ok rfl) ?_
    obtain ⟨h7, H⟩ := H
    refine WL.y rfl (Yld.add rfl rfl h7) ?_
    refine WL.y rfl (Yld.pure tab_ok rfl) ?_
    refine WL.nil ?_
    exact WX.roundF _ ⟨out ++ ([([48, 49, 50, 51, 52, 53, 54, 55, 56, 57, 97, 98, 99, 100, 101, 102] : List UInt8).getD (shrV .u8 ((s.getD i.toNat 0).toNat : Int) 4).toNat 0, ([48, 49, 50, 51, 52, 53, 54, 55, 56, 57, 97, 98, 99, 100, 101, 102] : List UInt8).getD (bits .and .u8 ((s.getD i.toNat 0).toNat : Int) (15 : Int)).toNat 0] : List UInt8), A_out2, c_out2, (out ++ ([([48, 49, 50, 51, 52, 53, 54, 55, 56, 57, 97, 98, 99, 100, 101, 102] : List UInt8).getD (shrV .u8 ((s.getD i.toNat 0).toNat : Int) 4).toNat 0, ([48, 49, 50, 51, 52, 53, 54, 55, 56, 57, 97, 98, 99, 100, 101, 102] : List UInt8).getD (bits .and .u8 ((s.getD i.toNat 0).toNat : Int) (15 : Int)).toNat 0] : List UInt8)).length, i + (1 : Int), rfl, rfl, H.1, rfl, gr5, k6, hO3, (Dj.app dj1.symm k4.lt' hk1).symm⟩ (by repeat (first | exact Sub.nil | refine Sub.cons rfl ?_)) H.2
  · replace H := H.2 (of_decide_eq_false b1)
    refine WC.exit (WX.then_exit (WX.then_exit (WX.block_same (WX.then_normal ?_))))
    refine WC.seq ?_
    refine WC.region ?_
    refine WL.y rfl (Yld.pure tab_ok rfl) ?_
    refine WL.y rfl (Yld.b2s tab_ok k3.rd rfl rfl rfl rfl rfl) ?_
    refine WL.y rfl (Yld.pure tab_ok rfl) ?_
    refine WL.nil (WX.then_normal ?_)
    refine WC.ret ?_
    exact WX.ret1 rfl rfl ⟨gr3, out, rfl, H⟩

set_option maxHeartbeats 8000000 in
theorem W_smithyref17_SameSum {w : World} {a : List UInt8} {b : List UInt8} {K : Bool → Prop} (H : M_smithyref17_SameSum a b K) : Fn Tryd.prog 19 ⟨[.agg ⟨a32 a⟩, .agg ⟨a32 b⟩]⟩ w (fun v w' => w.grownBy w' none ∧ ∃ (r : Bool), v = .bool r ∧ K r) := by
  unfold M_smithyref17_SameSum at H
  refine Fn.enter (by kernel_rfl) Tryd.func19 rfl Tryd.ntmps19 rfl ?_
  refine WC.seq ?_
  refine WC.region ?_
  refine WL.box (us := (a32 a)) rfl rfl rfl (fun g1 w1 hB1 hg1 hl1 => ?_)
  have gr1 := hg1
  refine WL.box (us := (a32 b)) rfl rfl rfl (fun g2 w2 hB2 hg2 hl2 => ?_)
  have gr2 := gr_trans gr1 hg2
  have k1 := hB1.g0 hg2
  refine WL.y rfl (Yld.pure tab_ok rfl) ?_
  refine WL.nil (WX.then_normal ?_)
  refine WC.seq ?_
  refine WC.chainF (fun k => !(Nat.beq k 1 || Nat.beq k 3)) (LD [0, 2] (fun w' => Bl w' g1 25 (a32 a) ∧ Bl w' g2 25 (a32 b))) mixed (by kernel_rfl) (fun k w' h _ => ⟨(bl_eqv h k1), (bl_eqv h hB2)⟩) ?_
  refine WJ.y rfl rfl (fun w' hw' => Yld.bagg (vs := (a32 a)) tab_ok (hw' rfl).1 rfl rfl rfl rfl) ?_
  refine WJ.call rfl (wants_none) rfl rfl (W_smithyref1_Hex H) (fun v w' h w2 e => DD.keep (⟨(Bl.g0 k1 (gr_eqv h.1 e)), (Bl.g0 hB2 (gr_eqv h.1 e))⟩)) ?_
  rintro _ w3 ⟨hg3, t6, rfl, H⟩
  have gr3 := gr_trans gr2 hg3
  have k2 := k1.g0 hg3
  have k3 := hB2.g0 hg3
  refine WJ.y rfl rfl (fun w' hw' => Yld.bagg (vs := (a32 b)) tab_ok (hw' rfl).2 rfl rfl rfl rfl) ?_
  refine WJ.call rfl (wants_none) rfl rfl (W_smithyref1_Hex H) (fun v w' h w2 e => DD.keep (⟨(Bl.g0 k2 (gr_eqv h.1 e)), (Bl.g0 k3 (gr_eqv h.1 e))⟩)) ?_
  rintro _ w4 ⟨hg4, t8, rfl, H⟩
  have gr4 := gr_trans gr3 hg4
  have k4 := k2.g0 hg4
  have k5 := k3.g0 hg4
  refine WJ.y rfl rfl (fun w' hw' => Yld.pure tab_ok rfl) ?_
  refine WJ.y rfl rfl (fun w' hw' => Yld.pure tab_ok rfl) ?_
  refine WJ.nil (WX.then_normal ?_)
  refine WC.ret ?_
  exact WX.ret1 rfl rfl ⟨gr4, decide (t6 = t8), rfl, H⟩

set_option maxHeartbeats 8000000 in
theorem W_smithyref17_unhex {w : World} {s : List UInt8} {K : (List UInt8) → Bool → Prop} (H : M_smithyref17_unhex s K) : Fn Tryd.prog 60 ⟨[vs s]⟩ w (fun v w' => w.grownBy w' none ∧ ∃ (r0 : List UInt8), ∃ (r1 : Bool), v = .tuple #[.agg ⟨a32 r0⟩, .bool r1] ∧ K r0 r1) := by
  unfold M_smithyref17_unhex at H
  refine Fn.enter (by kernel_rfl) Tryd.func60 rfl Tryd.ntmps60 rfl ?_
  refine WC.seq ?_
  refine WC.region ?_
  refine WL.alloc rfl zero25 (fun g1 w1 hB1 hg1 hl1 => ?_)
  rw [a32_zero] at hB1
  have gr1 := hg1
  refine WL.y rfl (Yld.pure tab_ok rfl) ?_
  refine WL.nil (WX.then_normal ?_)
  refine WC.seq ?_
  refine WC.region ?_
  refine WL.alloc rfl zero25 (fun g2 w2 hB2 hg2 hl2 => ?_)
  rw [a32_zero] at hB2
  have gr2 := gr_trans gr1 hg2
  have k1 := hB1.g0 hg2
  refine WL.nil (WX.then_normal ?_)
  refine WC.seq ?_
  refine WC.seq ?_
  refine WC.region ?_
  refine WL.y rfl (Yld.pure tab_ok rfl) ?_
  refine WL.y rfl (Yld.pure tab_ok rfl) ?_
  refine WL.y rfl (Yld.pure tab_ok rfl) ?_
  refine WL.nil (WX.then_normal ?_)
  refine WC.cond rfl (fun b1 => ?_) (fun b1 => ?_)
  · replace H := H.1 (nd_true b1)
    refine WC.seq ?_
    refine WC.region ?_
    refine WL.y rfl (Yld.bagg (vs := (a32 (List.replicate 32 0 : List UInt8))) tab_ok hB2 rfl rfl rfl rfl) ?_
    refine WL.storeW (vs := (a32 (List.replicate 32 0 : List UInt8))) tab_ok rfl rfl rfl (all1a (a32_one _) all1n) k1 rfl rfl (fun w3 hB3 hg3 => ?_)
    have gr3 := gr_mod gr2 hg3 (Ge.le (Ge.box hl1) (Nat.le_refl _))
    refine WL.y rfl (Yld.pure tab_ok rfl) ?_
    refine WL.nil (WX.then_normal ?_)
    refine WC.ret (WX.then_ret ?_)
    exact WX.retct tab_ok rfl rfl rfl hB3 rfl rfl ⟨gr3, (List.replicate 32 0 : List UInt8), false, rfl, H⟩
  · replace H := H.2 (nd_false b1)
    refine WC.skip (WX.then_normal ?_)
    refine WC.seq ?_
    refine WC.seq ?_
    refine WC.region ?_
    refine WL.y rfl (Yld.pure tab_ok rfl) ?_
    refine WL.nil (WX.then_normal ?_)
    refine WC.block ?_
    obtain ⟨I1, mu1, h0_1, HR1⟩ := H
    refine WC.loopF (fun n' L' w' => ∃ (i : Int), ∃ (t20 : List UInt8), ∃ (out0 : List UInt8), n' = mu1 i t20 out0 ∧ L' = [(0, vs s), (2, .pointer (some ⟨g1, 0, none⟩)), (4, .pointer (some ⟨g2, 0, none⟩)), (5, .int .i64 i)] ∧ I1 i t20 out0 ∧ w.grownBy w' none ∧ Bl w' g1 25 (a32 t20) ∧ Bl w' g2 25 (a32 out0) ∧ Dj (some g1) (some g2)) _ _ ⟨(0 : Int), (List.replicate 32 0 : List UInt8), (List.replicate 32 0 : List UInt8), rfl, rfl, h0_1, gr2, k1, hB2, (Dj.new hB1.lt' (Ge.box hl2))⟩ (by repeat (first | exact Sub.nil | refine Sub.cons rfl ?_)) ?_
    clear h0_1
    rintro _ _ w4 ⟨i, t20, out0, rfl, rfl, hI1, gr4, k2, k3, dj1⟩
    have H := HR1 i t20 out0 hI1
    refine WC.seq ?_
    refine WC.seq ?_
    refine WC.region ?_
    refine WL.y rfl (Yld.pure tab_ok rfl) ?_
    refine WL.y rfl (Yld.pure tab_ok rfl) ?_
    refine WL.nil (WX.then_normal ?_)
    refine WC.cond rfl (fun b2 => ?_) (fun b2 => ?_)
    · replace H := H.1 (of_decide_eq_true b2)
      refine WC.skip (WX.then_normal ?_)
      refine WC.seq ?_
      refine WC.block ?_
      refine WC.seq ?_
      refine WC.region ?_
      refine WL.y rfl (Yld.pure tab_ok rfl) ?_
      refine WL.y rfl (Yld.pure tab_ok rfl) ?_
      obtain ⟨h1, H⟩ := H
      refine WL.y rfl (Yld.sidx tab_ok rfl rfl rfl h1.1 h1.2) ?_
      refine WL.y rfl (Yld.pure tab_ok rfl) ?_
      refine WL.nil (WX.then_normal ?_)
      refine WC.seq ?_
      refine WC.region ?_
      refine WL.y rfl (Yld.pure tab_ok rfl) ?_
      refine WL.nil (WX.then_normal ?_)
      refine WC.seq ?_
      obtain ⟨J1, H, hJ1⟩ := H
      refine WC.midF (fun L' w' => ∃ (d : Int), L' = [(0, vs s), (2, .pointer (some ⟨g1, 0, none⟩)), (4, .pointer (some ⟨g2, 0, none⟩)), (5, .int .i64 i), (7, .int .u8 d)] ∧ J1 d ∧ w4 = w') ?_ (fun hQ => ?_)
      · clear H
        rintro _ _ ⟨d, rfl, H, rfl⟩
        replace H := hJ1 d H
        refine WX.then_normal ?_
        refine WC.region ?_
        refine WL.y rfl (Yld.pure tab_ok rfl) ?_
        obtain ⟨h2, H⟩ := H
        refine WL.y rfl (Yld.quo rfl rfl h2.1 h2.2.1 h2.2.2) ?_
        refine WL.y rfl (Yld.pure tab_ok rfl) ?_
        obtain ⟨h3, H⟩ := H
        refine WL.y rfl (Yld.quo rfl rfl h3.1 h3.2.1 h3.2.2) ?_
        obtain ⟨h4, H⟩ := H
        refine WL.y rfl (Yld.aaddr tab_ok rfl rfl rfl h4.1 h4.2) ?_
        refine WL.y rfl (Yld.bload tab_ok k3 rfl rfl (a32_getO _ _ (lt32 h4))) ?_
        refine WL.y rfl (Yld.shl rfl rfl (by omega)) ?_
        refine WL.y rfl (Yld.pure tab_ok rfl) ?_
        refine WL.y rfl (Yld.pure tab_ok rfl) ?_
        obtain ⟨h5, H⟩ := H
        refine WL.y rfl (Yld.aaddr tab_ok rfl rfl rfl h5.1 h5.2) ?_
        obtain ⟨h6, H⟩ := H
        obtain ⟨h7, H⟩ := H
        refine WL.store1 (u := vb (UInt8.ofNat (bits .or .u8 (shlV .u8 ((out0.getD ((i / (2 : Int)).toNat) 0).toNat : Int) 4) d).toNat)) one5 rfl (byte_eq h6) rfl k3 (a32_lt (lt32 h5)) (fun w5 hB4 hg4 => ?_)
        have hB5 : Bl w5 g2 25 (a32 (out0.set ((i / (2 : Int)).toNat) (UInt8.ofNat (bits .or .u8 (shlV .u8 ((out0.getD ((i / (2 : Int)).toNat) 0).toNat : Int) 4) d).toNat))) := a32_setO h7 ▸ hB4
        have gr5 := gr_mod gr4 hg4 (Ge.le (Ge.box hl2) (size_le gr1))
        have k4 := k2.go hg4 dj1
        refine WL.nil (WX.block_normal (WX.then_normal ?_))
        refine WC.region ?_
        refine WL.y rfl (Yld.pure tab_ok rfl) ?_
        obtain ⟨h8, H⟩ := H
        refine WL.y rfl (Yld.add rfl rfl h8) ?_
        refine WL.y rfl (Yld.pure tab_ok rfl) ?_
        refine WL.nil ?_
        exact WX.roundF _ ⟨i + (1 : Int), t20, out0.set ((i / (2 : Int)).toNat) (UInt8.ofNat (bits .or .u8 (shlV .u8 ((out0.getD ((i / (2 : Int)).toNat) 0).toNat : Int) 4) d).toNat), rfl, rfl, H.1, gr5, k4, hB5, dj1⟩ (by repeat (first | exact Sub.nil | refine Sub.cons rfl ?_)) H.2
      · clear hJ1
        refine WC.block ?_
        refine WC.seq ?_
        refine WC.region ?_
        refine WL.y rfl (Yld.pure tab_ok rfl) ?_
        refine WL.y rfl (Yld.pure tab_ok rfl) ?_
        refine WL.y rfl (Yld.pure tab_ok rfl) ?_
        refine WL.midF 3 (fun L' w' => ∃ q1 : Bool, L' = [(26, .bool q1), (0, vs s), (2, .pointer (some ⟨g1, 0, none⟩)), (4, .pointer (some ⟨g2, 0, none⟩)), (5, .int .i64 i), (6, .int .u8 ((s.getD i.toNat 0).toNat : Int))] ∧ q1 = ((decide ((48 : Int) ≤ ((s.getD i.toNat 0).toNat : Int))) && (decide (((s.getD i.toNat 0).toNat : Int) ≤ (57 : Int)))) ∧ w4 = w') ?_ (fun hQ => ?_)
        · rintro _ _ ⟨q1, rfl, rfl, rfl⟩
          refine WL.y rfl (Yld.pure tab_ok rfl) ?_
          refine WL.nil (WX.then_normal ?_)
          refine WC.cond rfl (fun b3 => ?_) (fun b3 => ?_)
          · replace H := H.1 (b3)
            refine WC.region ?_
            refine WL.y rfl (Yld.pure tab_ok rfl) ?_
            obtain ⟨h9, H⟩ := H
            refine WL.y rfl (Yld.sub rfl rfl h9) ?_
            refine WL.y rfl (Yld.pure tab_ok rfl) ?_
            refine WL.nil (WX.block_normal ?_)
            exact WX.weaken (by repeat (first | exact Sub.nil | refine Sub.cons rfl ?_)) (hQ _ _ ⟨((s.getD i.toNat 0).toNat : Int) - (48 : Int), rfl, H, rfl⟩)
          · replace H := H.2 (b3)
            refine WC.seq ?_
            refine WC.region ?_
            refine WL.y rfl (Yld.pure tab_ok rfl) ?_
            refine WL.y rfl (Yld.pure tab_ok rfl) ?_
            refine WL.y rfl (Yld.pure tab_ok rfl) ?_
            refine WL.midF 3 (fun L' w' => ∃ q2 : Bool, L' = [(35, .bool q2), (0, vs s), (2, .pointer (some ⟨g1, 0, none⟩)), (4, .pointer (some ⟨g2, 0, none⟩)), (5, .int .i64 i), (6, .int .u8 ((s.getD i.toNat 0).toNat : Int))] ∧ q2 = ((decide ((97 : Int) ≤ ((s.getD i.toNat 0).toNat : Int))) && (decide (((s.getD i.toNat 0).toNat : Int) ≤ (102 : Int)))) ∧ w4 = w') ?_ (fun hQ => ?_)
            · rintro _ _ ⟨q2, rfl, rfl, rfl⟩
              refine WL.y rfl (Yld.pure tab_ok rfl) ?_
              refine WL.nil (WX.then_normal ?_)
              refine WC.cond rfl (fun b4 => ?_) (fun b4 => ?_)
              · replace H := H.1 (b4)
                refine WC.region ?_
                refine WL.y rfl (Yld.pure tab_ok rfl) ?_
                obtain ⟨h10, H⟩ := H
                refine WL.y rfl (Yld.sub rfl rfl h10) ?_
                obtain ⟨h11, H⟩ := H
                refine WL.y rfl (Yld.add rfl rfl h11) ?_
                refine WL.y rfl (Yld.pure tab_ok rfl) ?_
                refine WL.nil (WX.block_normal ?_)
                exact WX.weaken (by repeat (first | exact Sub.nil | refine Sub.cons rfl ?_)) (hQ _ _ ⟨(((s.getD i.toNat 0).toNat : Int) - (97 : Int)) + (10 : Int), rfl, H, rfl⟩)
              · replace H := H.2 (b4)
                refine WC.seq ?_
                refine WC.region ?_
                refine WL.y rfl (Yld.zarr tab_ok rfl zero25) ?_
                refine WL.storeW (vs := (a32 (List.replicate 32 0 : List UInt8))) tab_ok rfl rfl rfl (all1a (a32_one _) all1n) k2 rfl rfl (fun w6 hB6 hg5 => ?_)
                have gr6 := gr_mod gr4 hg5 (Ge.le (Ge.box hl1) (Nat.le_refl _))
                refine WL.y rfl (Yld.pure tab_ok rfl) ?_
                refine WL.nil (WX.then_normal ?_)
                refine WC.ret (WX.block_ret (WX.then_ret (WX.block_ret (WX.then_ret (WX.then_ret (WX.block_ret (WX.then_ret ?_)))))))
                exact WX.retct tab_ok rfl rfl rfl hB6 rfl rfl ⟨gr6, (List.replicate 32 0 : List UInt8), false, rfl, H⟩
            · clear H
              rcases Bool.eq_false_or_eq_true (decide ((97 : Int) ≤ ((s.getD i.toNat 0).toNat : Int))) with b5 | b5
              · refine WL.gyes rfl rfl (okb b5) rfl (Yld.pure tab_ok rfl) ?_
                refine WL.gyes rfl rfl (okb b5) rfl (Yld.pure tab_ok rfl) ?_
                refine WL.y rfl (Yld.pickT (okb b5) rfl) ?_
                exact WL.weaken (by repeat (first | exact Sub.nil | refine Sub.cons rfl ?_)) (hQ _ _ ⟨decide (((s.getD i.toNat 0).toNat : Int) ≤ (102 : Int)), rfl, by rw [b5] <;> rfl, rfl⟩)
              · refine WL.gno rfl rfl (okb b5) rfl ?_
                refine WL.gno rfl rfl (okb b5) rfl ?_
                refine WL.y rfl (Yld.pickF (okb b5) rfl) ?_
                exact WL.weaken (by repeat (first | exact Sub.nil | refine Sub.cons rfl ?_)) (hQ _ _ ⟨false, rfl, by rw [b5] <;> rfl, rfl⟩)
        · clear H
          rcases Bool.eq_false_or_eq_true (decide ((48 : Int) ≤ ((s.getD i.toNat 0).toNat : Int))) with b6 | b6
          · refine WL.gyes rfl rfl (okb b6) rfl (Yld.pure tab_ok rfl) ?_
            refine WL.gyes rfl rfl (okb b6) rfl (Yld.pure tab_ok rfl) ?_
            refine WL.y rfl (Yld.pickT (okb b6) rfl) ?_
            exact WL.weaken (by repeat (first | exact Sub.nil | refine Sub.cons rfl ?_)) (hQ _ _ ⟨decide (((s.getD i.toNat 0).toNat : Int) ≤ (57 : Int)), rfl, by rw [b6] <;> rfl, rfl⟩)
          · refine WL.gno rfl rfl (okb b6) rfl ?_
            refine WL.gno rfl rfl (okb b6) rfl ?_
            refine WL.y rfl (Yld.pickF (okb b6) rfl) ?_
            exact WL.weaken (by repeat (first | exact Sub.nil | refine Sub.cons rfl ?_)) (hQ _ _ ⟨false, rfl, by rw [b6] <;> rfl, rfl⟩)
    · replace H := H.2 (of_decide_eq_false b2)
      refine WC.exit (WX.then_exit (WX.then_exit (WX.block_same (WX.then_normal ?_))))
      refine WC.seq ?_
      refine WC.region ?_
      refine WL.y rfl (Yld.bagg (vs := (a32 out0)) tab_ok k3 rfl rfl rfl rfl) ?_
      refine WL.storeW (vs := (a32 out0)) tab_ok rfl rfl rfl (all1a (a32_one _) all1n) k2 rfl rfl (fun w7 hB7 hg6 => ?_)
      have gr7 := gr_mod gr4 hg6 (Ge.le (Ge.box hl1) (Nat.le_refl _))
      refine WL.y rfl (Yld.pure tab_ok rfl) ?_
      refine WL.nil (WX.then_normal ?_)
      refine WC.ret ?_
      exact WX.retct tab_ok rfl rfl rfl hB7 rfl rfl ⟨gr7, out0, true, rfl, H⟩

set_option maxHeartbeats 8000000 in
theorem W_smithyref17_Digest {w : World} {s : List UInt8} {K : (List UInt8) → Bool → Prop} (H : M_smithyref17_Digest s K) : Fn Tryd.prog 11 ⟨[vs s]⟩ w (fun v w' => w.grownBy w' none ∧ ∃ (r0 : List UInt8), ∃ (r1 : Bool), v = .tuple #[.agg ⟨a32 r0⟩, .bool r1] ∧ K r0 r1) := by
  unfold M_smithyref17_Digest at H
  refine Fn.enter (by kernel_rfl) Tryd.func11 rfl Tryd.ntmps11 rfl ?_
  refine WC.seq ?_
  refine WC.region ?_
  refine WL.alloc rfl zero25 (fun g1 w1 hB1 hg1 hl1 => ?_)
  rw [a32_zero] at hB1
  have gr1 := hg1
  refine WL.y rfl (Yld.pure tab_ok rfl) ?_
  refine WL.nil (WX.then_normal ?_)
  refine WC.seq ?_
  refine WC.region ?_
  refine WL.y rfl (Yld.pure tab_ok rfl) ?_
  refine WL.call rfl rfl (W_smithyref17_unhex H) ?_
  rintro _ w2 ⟨hg2, t50, t51, rfl, H⟩
  have gr2 := gr_trans gr1 hg2
  have k1 := hB1.g0 hg2
  refine WL.y rfl (Yld.pure tab_ok rfl) ?_
  refine WL.y rfl (Yld.pure tab_ok rfl) ?_
  refine WL.storeW (vs := (a32 t50)) tab_ok rfl rfl rfl (all1a (a32_one _) all1n) k1 rfl rfl (fun w3 hB2 hg3 => ?_)
  have gr3 := gr_mod gr2 hg3 (Ge.le (Ge.box hl1) (Nat.le_refl _))
  refine WL.y rfl (Yld.pure tab_ok rfl) ?_
  refine WL.nil (WX.then_normal ?_)
  refine WC.ret ?_
  exact WX.retct tab_ok rfl rfl rfl hB2 rfl rfl ⟨gr3, t50, t51, rfl, H⟩

set_option maxHeartbeats 8000000 in
theorem W_smithylaw2_ShaSays {S : List Nat} {w : World} {b : List UInt8} {A_b : Option Addr} {c_b : Nat} {l : List (List UInt8)} {A_l : Option Addr} {c_l : Nat} {s : List UInt8} {n_b : Nat} {n_l : Nat} {K : Bool → Prop} (hG : GOK S w) (hS0 : 0 ∈ S) (hS1 : 1 ∈ S) (hS2 : 2 ∈ S) (hS3 : 3 ∈ S) (hS4 : 4 ∈ S) (hS5 : 5 ∈ S) (hS6 : 6 ∈ S) (hS7 : 7 ∈ S) (hS8 : 8 ∈ S) (hS9 : 9 ∈ S) (hS10 : 10 ∈ S) (hS11 : 11 ∈ S) (hS12 : 12 ∈ S) (hS13 : 13 ∈ S) (hS14 : 14 ∈ S) (hS15 : 15 ∈ S) (hS16 : 16 ∈ S) (hb : Rd vb w A_b c_b b) (hn_b : n_b = b.length) (hl : Rd vs w A_l c_l l) (hn_l : n_l = l.length) (H : M_smithylaw2_ShaSays b l s K) : Fn Tryd.prog 3 ⟨[.slice A_b n_b c_b, .slice A_l n_l c_l, vs s]⟩ w (fun v w' => w.grownBy w' none ∧ ∃ (r : Bool), v = .bool r ∧ K r) := by
  subst hn_b
  subst hn_l
  unfold M_smithylaw2_ShaSays at H
  refine Fn.enter (by kernel_rfl) Tryd.func3 rfl Tryd.ntmps3 rfl ?_
  replace H := H (Nat.le_trans hb.cap hb.max)
  replace H := H (Nat.le_trans hl.cap hl.max)
  refine WC.seq ?_
  refine WC.region ?_
  refine WL.y rfl (Yld.pure tab_ok rfl) ?_
  refine WL.nil (WX.then_normal ?_)
  refine WC.seq ?_
  refine WC.region ?_
  refine WL.call rfl rfl (W_smithylaw2_first H) ?_
  rintro _ w1 ⟨hg1, ok, rfl, H⟩
  have gr1 := hg1
  refine WL.y rfl (Yld.pure tab_ok rfl) ?_
  refine WL.nil (WX.then_normal ?_)
  refine WC.seq ?_
  refine WC.seq ?_
  refine WC.region ?_
  refine WL.y rfl (Yld.pure tab_ok rfl) ?_
  refine WL.y rfl (Yld.pure tab_ok rfl) ?_
  refine WL.nil (WX.then_normal ?_)
  refine WC.cond rfl (fun b1 => ?_) (fun b1 => ?_)
  · replace H := H.1 (b1)
    refine WC.seq ?_
    refine WC.region ?_
    refine WL.y rfl (Yld.pure tab_ok rfl) ?_
    refine WL.nil (WX.then_normal ?_)
    refine WC.ret (WX.then_ret ?_)
    exact WX.ret1 rfl rfl ⟨gr1, false, rfl, H⟩
  · replace H := H.2 (b1)
    refine WC.skip (WX.then_normal ?_)
    refine WC.seq ?_
    refine WC.seq ?_
    refine WC.region ?_
    refine WL.y rfl (Yld.pure tab_ok rfl) ?_
    refine WL.y rfl (Yld.pure tab_ok rfl) ?_
    refine WL.y rfl (Yld.pure tab_ok rfl) ?_
    refine WL.y rfl (Yld.pure tab_ok rfl) ?_
    refine WL.midF 4 (fun L' w' => ∃ q1 : Bool, L' = [(24, .bool q1), (0, .slice A_b b.length c_b), (1, .slice A_l l.length c_l), (2, vs s), (7, .bool ok)] ∧ q1 = ((decide ((1000 : Int) < (b.length : Int))) || (decide ((20 : Int) < (l.length : Int)))) ∧ w1 = w') ?_ (fun hQ => ?_)
    · rintro _ _ ⟨q1, rfl, rfl, rfl⟩
      refine WL.y rfl (Yld.pure tab_ok rfl) ?_
      refine WL.midF 4 (fun L' w' => ∃ q2 : Bool, L' = [(29, .bool q2), (0, .slice A_b b.length c_b), (1, .slice A_l l.length c_l), (2, vs s), (7, .bool ok)] ∧ q2 = (((decide ((1000 : Int) < (b.length : Int))) || (decide ((20 : Int) < (l.length : Int)))) || (decide ((100 : Int) < (s.length : Int)))) ∧ w1 = w') ?_ (fun hQ => ?_)
      · rintro _ _ ⟨q2, rfl, rfl, rfl⟩
        refine WL.y rfl (Yld.pure tab_ok rfl) ?_
        refine WL.midF 3 (fun L' w' => ∃ q3 : Bool, L' = [(33, .bool q3), (0, .slice A_b b.length c_b), (1, .slice A_l l.length c_l), (2, vs s), (7, .bool ok)] ∧ q3 = ((((decide ((1000 : Int) < (b.length : Int))) || (decide ((20 : Int) < (l.length : Int)))) || (decide ((100 : Int) < (s.length : Int)))) || (!ok)) ∧ w1 = w') ?_ (fun hQ => ?_)
        · rintro _ _ ⟨q3, rfl, rfl, rfl⟩
          refine WL.nil (WX.then_normal ?_)
          refine WC.cond rfl (fun b2 => ?_) (fun b2 => ?_)
          · replace H := H.1 (b2)
            refine WC.seq ?_
            refine WC.region ?_
            refine WL.y rfl (Yld.pure tab_ok rfl) ?_
            refine WL.y rfl (Yld.pure tab_ok rfl) ?_
            refine WL.nil (WX.then_normal ?_)
            refine WC.ret (WX.then_ret ?_)
            exact WX.ret1 rfl rfl ⟨gr1, ok, rfl, H⟩
          · replace H := H.2 (b2)
            refine WC.skip (WX.then_normal ?_)
            refine WC.seq ?_
            refine WC.seq ?_
            refine WC.region ?_
            refine WL.y rfl (Yld.pure tab_ok rfl) ?_
            refine WL.nil (WX.then_normal ?_)
            refine WC.block ?_
            obtain ⟨I1, mu1, h0_1, HR1⟩ := H
            refine WC.loopF (fun n' L' w' => ∃ (i : Int), n' = mu1 i ∧ L' = [(0, .slice A_b b.length c_b), (1, .slice A_l l.length c_l), (2, vs s), (8, .int .i64 i)] ∧ I1 i ∧ w1 = w') _ _ ⟨(0 : Int), rfl, rfl, h0_1, rfl⟩ (by repeat (first | exact Sub.nil | refine Sub.cons rfl ?_)) ?_
            clear h0_1
            rintro _ _ _ ⟨i, rfl, rfl, hI1, rfl⟩
            have H := HR1 i hI1
            refine WC.seq ?_
            refine WC.seq ?_
            refine WC.region ?_
            refine WL.y rfl (Yld.pure tab_ok rfl) ?_
            refine WL.y rfl (Yld.pure tab_ok rfl) ?_
            refine WL.y rfl (Yld.pure tab_ok rfl) ?_
            refine WL.y rfl (Yld.pure tab_ok rfl) ?_
            refine WL.nil (WX.then_normal ?_)
            refine WC.cond rfl (fun b3 => ?_) (fun b3 => ?_)
            · replace H := H.1 (of_decide_eq_true b3)
              refine WC.skip (WX.then_normal ?_)
              refine WC.seq ?_
              refine WC.block ?_
              refine WC.seq ?_
              refine WC.region ?_
              refine WL.y rfl (Yld.pure tab_ok rfl) ?_
              refine WL.y rfl (Yld.pure tab_ok rfl) ?_
              obtain ⟨h1, H⟩ := H
              refine WL.y rfl (Yld.iaddrW tab_ok (hl.grown gr1) rfl rfl rfl rfl h1.1 h1.2) ?_
              refine WL.y rfl (Yld.iload [] tab_ok (hl.grown gr1) rfl rfl (iltN h1 rfl)) ?_
              refine WL.y rfl (Yld.pure tab_ok rfl) ?_
              refine WL.y rfl (Yld.pure tab_ok rfl) ?_
              refine WL.nil (WX.then_normal ?_)
              refine WC.cond rfl (fun b4 => ?_) (fun b4 => ?_)
              · replace H := H.1 (of_decide_eq_true b4)
                refine WC.seq ?_
                refine WC.region ?_
                refine WL.y rfl (Yld.pure tab_ok rfl) ?_
                refine WL.nil (WX.then_normal ?_)
                refine WC.ret (WX.block_ret (WX.then_ret (WX.then_ret (WX.block_ret (WX.then_ret ?_)))))
                exact WX.ret1 rfl rfl ⟨gr1, true, rfl, H⟩
              · replace H := H.2 (of_decide_eq_false b4)
                refine WC.skip (WX.block_normal (WX.then_normal ?_))
                refine WC.region ?_
                refine WL.y rfl (Yld.pure tab_ok rfl) ?_
                obtain ⟨h2, H⟩ := H
                refine WL.y rfl (Yld.add rfl rfl h2) ?_
                refine WL.y rfl (Yld.pure tab_ok rfl) ?_
                refine WL.nil ?_
                exact WX.roundF _ ⟨i + (1 : Int), rfl, rfl, H.1, rfl⟩ (by repeat (first | exact Sub.nil | refine Sub.cons rfl ?_)) H.2
            · replace H := H.2 (of_decide_eq_false b3)
              refine WC.exit (WX.then_exit (WX.then_exit (WX.block_same (WX.then_normal ?_))))
              refine WC.seq ?_
              refine WC.region ?_
              refine WL.y rfl (Yld.pure tab_ok rfl) ?_
              refine WL.call rfl rfl (W_sha_Parse (hG.grown gr1) hS12 H) ?_
              rintro _ w2 ⟨hg2, t490, v_t491, t491, rfl, ht491, H⟩
              have gr2 := gr_trans gr1 hg2
              refine WL.y rfl (Yld.pure tab_ok rfl) ?_
              refine WL.y rfl (Yld.pure tab_ok rfl) ?_
              refine WL.y rfl (Yld.pure tab_ok rfl) ?_
              refine WL.alloc rfl zero26 (fun g1 w3 hB1 hg3 hl1 => ?_)
              rw [a32_zero] at hB1
              have gr3 := gr_trans gr2 hg3
              have k1 := ht491.grown hg3
              refine WL.storeW (vs := (a32 t490)) tab_ok rfl rfl rfl (all1a (a32_one _) all1n) hB1 rfl rfl (fun w4 hB2 hg4 => ?_)
              have gr4 := gr_mod gr3 hg4 (Ge.le (Ge.box hl1) (size_le gr2))
              have k2 := ErrR.go k1 hG gr3 hg4 gr4 hB1 rfl
              refine WL.y rfl (Yld.pure tab_ok rfl) ?_
              refine WL.nil (WX.then_normal ?_)
              refine WC.seq ?_
              refine WC.region ?_
              refine WL.y rfl (Yld.pure tab_ok rfl) ?_
              refine WL.call rfl rfl (W_smithyref17_Digest H) ?_
              rintro _ w5 ⟨hg5, t540, t541, rfl, H⟩
              have gr5 := gr_trans gr4 hg5
              have k3 := k2.grown hg5
              have k4 := hB2.g0 hg5
              refine WL.y rfl (Yld.pure tab_ok rfl) ?_
              refine WL.y rfl (Yld.pure tab_ok rfl) ?_
              refine WL.y rfl (Yld.pure tab_ok rfl) ?_
              refine WL.alloc rfl zero25 (fun g2 w6 hB3 hg6 hl2 => ?_)
              rw [a32_zero] at hB3
              have gr6 := gr_trans gr5 hg6
              have k5 := k3.grown hg6
              have k6 := k4.g0 hg6
              refine WL.storeW (vs := (a32 t540)) tab_ok rfl rfl rfl (all1a (a32_one _) all1n) hB3 rfl rfl (fun w7 hB4 hg7 => ?_)
              have gr7 := gr_mod gr6 hg7 (Ge.le (Ge.box hl2) (size_le gr5))
              have k7 := ErrR.go k5 hG gr6 hg7 gr7 hB3 rfl
              have k8 := k6.go hg7 (Dj.new k4.lt' (Ge.box hl2))
              refine WL.y rfl (Yld.pure tab_ok rfl) ?_
              refine WL.nil (WX.then_normal ?_)
              refine WC.seq ?_
              refine WC.region ?_
              refine WL.y rfl (Yld.pure tab_ok rfl) ?_
              refine WL.nil (WX.then_normal ?_)
              refine WC.seq ?_
              obtain ⟨J1, H, hJ1⟩ := H
              refine WC.midF (fun L' w' => ∃ (bad : Int), L' = [(0, .slice A_b b.length c_b), (1, .slice A_l l.length c_l), (9, .pointer (some ⟨g1, 0, none⟩)), (10, v_t491), (11, .pointer (some ⟨g2, 0, none⟩)), (13, .int .i64 bad)] ∧ J1 bad ∧ w7 = w') ?_ (fun hQ => ?_)
              · clear H
                rintro _ _ ⟨bad, rfl, H, rfl⟩
                replace H := hJ1 bad H
                refine WX.then_normal ?_
                refine WC.seq ?_
                refine WC.chainF (fun k => !(Nat.beq k 1 || Nat.beq k 2 || Nat.beq k 5 || Nat.beq k 6 || Nat.beq k 10 || Nat.beq k 11 || Nat.beq k 13 || Nat.beq k 14 || Nat.beq k 20 || Nat.beq k 25)) (LD [4, 23, 24] (fun w' => Rd vb w' A_b c_b b ∧ Bl w' g1 26 (a32 t490) ∧ Bl w' g2 25 (a32 t540))) mixed (by kernel_rfl) (fun k w' h _ => ⟨(rd_eqv h (hb.grown gr7)), (bl_eqv h k8), (bl_eqv h hB4)⟩) ?_
                refine WJ.y rfl rfl (fun w' hw' => Yld.pure tab_ok rfl) ?_
                refine WJ.call rfl (wants_none) rfl rfl (W_sha_Of (hb.grown gr7) rfl H) (fun v w' h w2 e => DD.keep (⟨(Rd.grown (hb.grown gr7) (gr_eqv h.1 e)), (Bl.g0 k8 (gr_eqv h.1 e)), (Bl.g0 hB4 (gr_eqv h.1 e))⟩)) ?_
                rintro _ w8 ⟨hg8, t59, rfl, H⟩
                have gr8 := gr_trans gr7 hg8
                have k9 := k7.grown hg8
                have k10 := k8.g0 hg8
                have k11 := hB4.g0 hg8
                refine WJ.call rfl (wants_none) rfl rfl (W_sha_Text H) (fun v w' h w2 e => DD.keep (⟨(Rd.grown (hb.grown gr8) (gr_eqv h.1 e)), (Bl.g0 k10 (gr_eqv h.1 e)), (Bl.g0 k11 (gr_eqv h.1 e))⟩)) ?_
                rintro _ w9 ⟨hg9, t60, rfl, H⟩
                have gr9 := gr_trans gr8 hg9
                have k12 := k9.grown hg9
                have k13 := k10.g0 hg9
                have k14 := k11.g0 hg9
                refine WJ.y rfl rfl (fun w' hw' => Yld.pure tab_ok rfl) ?_
                refine WJ.y rfl rfl (fun w' hw' => Yld.b2s tab_ok (hw' rfl).1 rfl rfl rfl rfl rfl) ?_
                refine WJ.call rfl (wants_none) rfl rfl (W_smithyref1_Sum H) (fun v w' h w2 e => DD.keep (⟨(Rd.grown (hb.grown gr9) (gr_eqv h.1 e)), (Bl.g0 k13 (gr_eqv h.1 e)), (Bl.g0 k14 (gr_eqv h.1 e))⟩)) ?_
                rintro _ w10 ⟨hg10, t63, rfl, H⟩
                have gr10 := gr_trans gr9 hg10
                have k15 := k12.grown hg10
                have k16 := k13.g0 hg10
                have k17 := k14.g0 hg10
                refine WJ.call rfl (wants_none) rfl rfl (W_smithyref1_Hex H) (fun v w' h w2 e => DD.keep (⟨(Rd.grown (hb.grown gr10) (gr_eqv h.1 e)), (Bl.g0 k16 (gr_eqv h.1 e)), (Bl.g0 k17 (gr_eqv h.1 e))⟩)) ?_
                rintro _ w11 ⟨hg11, t64, rfl, H⟩
                have gr11 := gr_trans gr10 hg11
                have k18 := k15.grown hg11
                have k19 := k16.g0 hg11
                have k20 := k17.g0 hg11
                refine WJ.y rfl rfl (fun w' hw' => Yld.pure tab_ok rfl) ?_
                refine WJ.y rfl rfl (fun w' hw' => Yld.pure tab_ok rfl) ?_
                obtain ⟨J2, H, hJ2⟩ := H
                refine WJ.midF 8 (fun L' w' => ∃ q4 : Bool, L' = [(74, .bool q4), (9, .pointer (some ⟨g1, 0, none⟩)), (10, v_t491), (11, .pointer (some ⟨g2, 0, none⟩)), (13, .int .i64 bad)] ∧ J2 q4 ∧ w.grownBy w' none ∧ ErrR S w' v_t491 t491 ∧ Bl w' g1 26 (a32 t490) ∧ Bl w' g2 25 (a32 t540)) ?_ (fun hQ => ?_)
                · clear H
                  rintro _ w12 ⟨q4, rfl, H, gr12, k21, k22, k23⟩
                  replace H := hJ2 q4 H
                  refine WJ.y rfl rfl (fun w' hw' => Yld.pure tab_ok rfl) ?_
                  obtain ⟨J3, H, hJ3⟩ := H
                  refine WJ.midF 4 (fun L' w' => ∃ q5 : Bool, L' = [(79, .bool q5), (9, .pointer (some ⟨g1, 0, none⟩)), (11, .pointer (some ⟨g2, 0, none⟩))] ∧ J3 q5 ∧ w.grownBy w' none ∧ Bl w' g1 26 (a32 t490) ∧ Bl w' g2 25 (a32 t540)) ?_ (fun hQ => ?_)
                  · clear H
                    rintro _ w13 ⟨q5, rfl, H, gr13, k24, k25⟩
                    replace H := hJ3 q5 H
                    refine WJ.y rfl rfl (fun w' hw' => Yld.pure tab_ok rfl) ?_
                    obtain ⟨J4, H, hJ4⟩ := H
                    refine WJ.midF 4 (fun L' w' => ∃ q6 : Bool, L' = [(84, .bool q6)] ∧ J4 q6 ∧ w.grownBy w' none ∧ Bl w' g1 26 (a32 t490) ∧ Bl w' g2 25 (a32 t540)) ?_ (fun hQ => ?_)
                    · clear H
                      rintro _ w14 ⟨q6, rfl, H, gr14, k26, k27⟩
                      replace H := hJ4 q6 H
                      refine WJ.y rfl rfl (fun w' hw' => Yld.pure tab_ok rfl) ?_
                      refine WJ.nil (WX.then_normal ?_)
                      refine WC.ret ?_
                      exact WX.ret1 rfl rfl ⟨gr14, q6, rfl, H⟩
                    · clear hJ4
                      rcases Bool.eq_false_or_eq_true (q5) with b5 | b5
                      · replace H := H.1 b5
                        refine WJ.yw rfl (wants_some rfl rfl (okb b5)) rfl (fun w' hw' => Yld.bagg (vs := (a32 t490)) tab_ok (hw' rfl).2.1 rfl rfl rfl rfl) ?_
                        refine WJ.yw rfl (wants_some rfl rfl (okb b5)) rfl (fun w' hw' => Yld.bagg (vs := (a32 t540)) tab_ok (hw' rfl).2.2 rfl rfl rfl rfl) ?_
                        refine WJ.call rfl (wants_some rfl rfl (okb b5)) rfl rfl (W_smithyref17_SameSum H) (fun v w' h w2 e => DD.keep (⟨(Rd.grown (hb.grown gr13) (gr_eqv h.1 e)), (Bl.g0 k24 (gr_eqv h.1 e)), (Bl.g0 k25 (gr_eqv h.1 e))⟩)) ?_
                        rintro _ w15 ⟨hg12, t83, rfl, H⟩
                        have gr15 := gr_trans gr13 hg12
                        have k28 := k24.g0 hg12
                        have k29 := k25.g0 hg12
                        refine WJ.y rfl rfl (fun w' hw' => Yld.pickT (okb b5) rfl) ?_
                        exact WJ.weaken (by repeat (first | exact Sub.nil | refine Sub.cons rfl ?_)) (hQ _ _ ⟨t83, rfl, H, gr15, k28, k29⟩)
                      · replace H := H.2 b5
                        refine WJ.no rfl rfl (okb b5) rfl ?_
                        refine WJ.no rfl rfl (okb b5) rfl ?_
                        refine WJ.no rfl rfl (okb b5) rfl ?_
                        refine WJ.y rfl rfl (fun w' hw' => Yld.pickF (okb b5) rfl) ?_
                        exact WJ.weaken (by repeat (first | exact Sub.nil | refine Sub.cons rfl ?_)) (hQ _ _ ⟨false, rfl, H, gr13, k24, k25⟩)
                  · clear hJ3
                    rcases Bool.eq_false_or_eq_true (q4) with b6 | b6
                    · replace H := H.1 b6
                      refine WJ.yw rfl (wants_some rfl rfl (okb b6)) rfl (fun w' hw' => Yld.pure tab_ok rfl) ?_
                      refine WJ.yw rfl (wants_some rfl rfl (okb b6)) rfl (fun w' hw' => Yld.pure tab_ok rfl) ?_
                      refine WJ.call rfl (wants_some rfl rfl (okb b6)) rfl rfl (W_smithysee_Is (hG.grown gr12) hS0 hS1 hS2 hS3 hS4 hS5 hS6 hS7 hS8 hS9 hS10 hS11 hS12 hS13 hS14 hS15 hS16 k21 H) (fun v w' h w2 e => DD.keep (⟨(Rd.grown (hb.grown gr12) (gr_eqv h.1 e)), (Bl.g0 k22 (gr_eqv h.1 e)), (Bl.g0 k23 (gr_eqv h.1 e))⟩)) ?_
                      rintro _ w16 ⟨hg13, t78, rfl, H⟩
                      have gr16 := gr_trans gr12 hg13
                      have k30 := k21.grown hg13
                      have k31 := k22.g0 hg13
                      have k32 := k23.g0 hg13
                      refine WJ.y rfl rfl (fun w' hw' => Yld.pickT (okb b6) rfl) ?_
                      exact WJ.weaken (by repeat (first | exact Sub.nil | refine Sub.cons rfl ?_)) (hQ _ _ ⟨t78, rfl, H, gr16, k31, k32⟩)
                    · replace H := H.2 b6
                      refine WJ.no rfl rfl (okb b6) rfl ?_
                      refine WJ.no rfl rfl (okb b6) rfl ?_
                      refine WJ.no rfl rfl (okb b6) rfl ?_
                      refine WJ.y rfl rfl (fun w' hw' => Yld.pickF (okb b6) rfl) ?_
                      exact WJ.weaken (by repeat (first | exact Sub.nil | refine Sub.cons rfl ?_)) (hQ _ _ ⟨false, rfl, H, gr12, k22, k23⟩)
                · clear hJ2
                  rcases Bool.eq_false_or_eq_true (decide (t60 = t64)) with b7 | b7
                  · replace H := H.1 b7
                    refine WJ.yw rfl (wants_some rfl rfl (okb b7)) rfl (fun w' hw' => Yld.pure tab_ok rfl) ?_
                    refine WJ.call rfl (wants_some rfl rfl (okb b7)) rfl rfl (W_sha_Many (hl.grown gr11) rfl H) (fun v w' h w2 e => DD.keep (⟨(Rd.grown (hb.grown gr11) (gr_eqv h.1 e)), (Bl.g0 k19 (gr_eqv h.1 e)), (Bl.g0 k20 (gr_eqv h.1 e))⟩)) ?_
                    rintro _ w17 ⟨hg14, t68, rfl, H⟩
                    have gr17 := gr_trans gr11 hg14
                    have k33 := k18.grown hg14
                    have k34 := k19.g0 hg14
                    have k35 := k20.g0 hg14
                    refine WJ.call rfl (wants_some rfl rfl (okb b7)) rfl rfl (W_sha_Text H) (fun v w' h w2 e => DD.keep (⟨(Rd.grown (hb.grown gr17) (gr_eqv h.1 e)), (Bl.g0 k34 (gr_eqv h.1 e)), (Bl.g0 k35 (gr_eqv h.1 e))⟩)) ?_
                    rintro _ w18 ⟨hg15, t69, rfl, H⟩
                    have gr18 := gr_trans gr17 hg15
                    have k36 := k33.grown hg15
                    have k37 := k34.g0 hg15
                    have k38 := k35.g0 hg15
                    refine WJ.yw rfl (wants_some rfl rfl (okb b7)) rfl (fun w' hw' => Yld.pure tab_ok rfl) ?_
                    refine WJ.call rfl (wants_some rfl rfl (okb b7)) rfl rfl (W_smithyref1_Many (hl.grown gr18) rfl H) (fun v w' h w2 e => DD.keep (⟨(Rd.grown (hb.grown gr18) (gr_eqv h.1 e)), (Bl.g0 k37 (gr_eqv h.1 e)), (Bl.g0 k38 (gr_eqv h.1 e))⟩)) ?_
                    rintro _ w19 ⟨hg16, t71, rfl, H⟩
                    have gr19 := gr_trans gr18 hg16
                    have k39 := k36.grown hg16
                    have k40 := k37.g0 hg16
                    have k41 := k38.g0 hg16
                    refine WJ.call rfl (wants_some rfl rfl (okb b7)) rfl rfl (W_smithyref1_Hex H) (fun v w' h w2 e => DD.keep (⟨(Rd.grown (hb.grown gr19) (gr_eqv h.1 e)), (Bl.g0 k40 (gr_eqv h.1 e)), (Bl.g0 k41 (gr_eqv h.1 e))⟩)) ?_
                    rintro _ w20 ⟨hg17, t72, rfl, H⟩
                    have gr20 := gr_trans gr19 hg17
                    have k42 := k39.grown hg17
                    have k43 := k40.g0 hg17
                    have k44 := k41.g0 hg17
                    refine WJ.yw rfl (wants_some rfl rfl (okb b7)) rfl (fun w' hw' => Yld.pure tab_ok rfl) ?_
                    refine WJ.y rfl rfl (fun w' hw' => Yld.pickT (okb b7) rfl) ?_
                    exact WJ.weaken (by repeat (first | exact Sub.nil | refine Sub.cons rfl ?_)) (hQ _ _ ⟨decide (t69 = t72), rfl, H, gr20, k42, k43, k44⟩)
                  · replace H := H.2 b7
                    refine WJ.no rfl rfl (okb b7) rfl ?_
                    refine WJ.no rfl rfl (okb b7) rfl ?_
                    refine WJ.no rfl rfl (okb b7) rfl ?_
                    refine WJ.no rfl rfl (okb b7) rfl ?_
                    refine WJ.no rfl rfl (okb b7) rfl ?_
                    refine WJ.no rfl rfl (okb b7) rfl ?_
                    refine WJ.no rfl rfl (okb b7) rfl ?_
                    refine WJ.y rfl rfl (fun w' hw' => Yld.pickF (okb b7) rfl) ?_
                    exact WJ.weaken (by repeat (first | exact Sub.nil | refine Sub.cons rfl ?_)) (hQ _ _ ⟨false, rfl, H, gr11, k18, k19, k20⟩)
              · clear hJ1
                refine WC.seq ?_
                refine WC.region ?_
                refine WL.y rfl (Yld.pure tab_ok rfl) ?_
                refine WL.nil (WX.then_normal ?_)
                refine WC.cond rfl (fun b8 => ?_) (fun b8 => ?_)
                · replace H := H.1 (b8)
                  refine WC.region ?_
                  refine WL.y rfl (Yld.pure tab_ok rfl) ?_
                  refine WL.nil ?_
                  exact WX.weaken (by repeat (first | exact Sub.nil | refine Sub.cons rfl ?_)) (hQ _ _ ⟨(0 : Int), rfl, H, rfl⟩)
                · replace H := H.2 (b8)
                  refine WC.skip ?_
                  exact WX.weaken (by repeat (first | exact Sub.nil | refine Sub.cons rfl ?_)) (hQ _ _ ⟨(113 : Int), rfl, H, rfl⟩)
        · clear H
          rcases Bool.eq_false_or_eq_true (((decide ((1000 : Int) < (b.length : Int))) || (decide ((20 : Int) < (l.length : Int)))) || (decide ((100 : Int) < (s.length : Int)))) with b9 | b9
          · refine WL.gno rfl rfl (okb b9) rfl ?_
            refine WL.gno rfl rfl (okb b9) rfl ?_
            refine WL.y rfl (Yld.pickT (okb b9) rfl) ?_
            exact WL.weaken (by repeat (first | exact Sub.nil | refine Sub.cons rfl ?_)) (hQ _ _ ⟨true, rfl, by rw [b9] <;> rfl, rfl⟩)
          · refine WL.gyes rfl rfl (okb b9) rfl (Yld.pure tab_ok rfl) ?_
            refine WL.gyes rfl rfl (okb b9) rfl (Yld.pure tab_ok rfl) ?_
            refine WL.y rfl (Yld.pickF (okb b9) rfl) ?_
            exact WL.weaken (by repeat (first | exact Sub.nil | refine Sub.cons rfl ?_)) (hQ _ _ ⟨!ok, rfl, by rw [b9] <;> rfl, rfl⟩)
      · clear H
        rcases Bool.eq_false_or_eq_true ((decide ((1000 : Int) < (b.length : Int))) || (decide ((20 : Int) < (l.length : Int)))) with b10 | b10
        · refine WL.gno rfl rfl (okb b10) rfl ?_
          refine WL.gno rfl rfl (okb b10) rfl ?_
          refine WL.gno rfl rfl (okb b10) rfl ?_
          refine WL.y rfl (Yld.pickT (okb b10) rfl) ?_
          exact WL.weaken (by repeat (first | exact Sub.nil | refine Sub.cons rfl ?_)) (hQ _ _ ⟨true, rfl, by rw [b10] <;> rfl, rfl⟩)
        · refine WL.gyes rfl rfl (okb b10) rfl (Yld.pure tab_ok rfl) ?_
          refine WL.gyes rfl rfl (okb b10) rfl (Yld.pure tab_ok rfl) ?_
          refine WL.gyes rfl rfl (okb b10) rfl (Yld.pure tab_ok rfl) ?_
          refine WL.y rfl (Yld.pickF (okb b10) rfl) ?_
          exact WL.weaken (by repeat (first | exact Sub.nil | refine Sub.cons rfl ?_)) (hQ _ _ ⟨decide ((100 : Int) < (s.length : Int)), rfl, by rw [b10] <;> rfl, rfl⟩)
    · clear H
      rcases Bool.eq_false_or_eq_true (decide ((1000 : Int) < (b.length : Int))) with b11 | b11
      · refine WL.gno rfl rfl (okb b11) rfl ?_
        refine WL.gno rfl rfl (okb b11) rfl ?_
        refine WL.gno rfl rfl (okb b11) rfl ?_
        refine WL.y rfl (Yld.pickT (okb b11) rfl) ?_
        exact WL.weaken (by repeat (first | exact Sub.nil | refine Sub.cons rfl ?_)) (hQ _ _ ⟨true, rfl, by rw [b11] <;> rfl, rfl⟩)
      · refine WL.gyes rfl rfl (okb b11) rfl (Yld.pure tab_ok rfl) ?_
        refine WL.gyes rfl rfl (okb b11) rfl (Yld.pure tab_ok rfl) ?_
        refine WL.gyes rfl rfl (okb b11) rfl (Yld.pure tab_ok rfl) ?_
        refine WL.y rfl (Yld.pickF (okb b11) rfl) ?_
        exact WL.weaken (by repeat (first | exact Sub.nil | refine Sub.cons rfl ?_)) (hQ _ _ ⟨decide ((20 : Int) < (l.length : Int)), rfl, by rw [b11] <;> rfl, rfl⟩)

end Go.Proofs.YtilphcippnfklaaDoor
 /- The chapter's digest is the program's: plain. -/
namespace Go.Proofs.YtilphcippnfklaaDoor
open Go Go.RowKit
theorem bits_or_comm (k : IntKind) (a b : Int) : bits .or k a b = bits .or k b a := by
  unfold bits
  dsimp only
  rw [BitVec.or_comm]
theorem wr32 (z : Int) : IntKind.wrap .u32 z = z % 4294967296 := by simp [IntKind.wrap, IntKind.bits, IntKind.signed]
theorem wr64 (z : Int) : IntKind.wrap .u64 z = z % 18446744073709551616 := by simp [IntKind.wrap, IntKind.bits, IntKind.signed]
theorem wr8 (z : Int) : IntKind.wrap .u8 z = z % 256 := by simp [IntKind.wrap, IntKind.bits, IntKind.signed]
theorem wr8_ok (z : Int) : 0 ≤ IntKind.wrap .u8 z ∧ IntKind.wrap .u8 z ≤ 255 := by rw [wr8]; omega
theorem turn_M {x n : Int} {K : Int → Prop} (h0 : 0 < n) (h1 : n < 32) (h : K (rotr x n)) : M_smithyref1_turn x n K := by
  have hw : IntKind.wrap .u64 (32 - n) = 32 - n := by rw [wr64]; omega
  have e : rotr x n = bits .or .u32 (shrV .u32 x n.toNat) (shlV .u32 x (32 - n).toNat) := by
    unfold rotr rotl
    rw [show (0 - n) % 32 = 32 - n by omega, show 32 - (32 - n) = n by omega, bits_or_comm]
  refine ⟨by omega, by rw [hw]; omega, ?_⟩
  rw [hw, ← e]
  exact h
theorem D_len : ∀ (n : Nat) (hs : List Int) (x : List UInt8), x.length ≤ n → (D hs x).2.length = x.length % 64
  | 0, hs, x, h => by
    rw [D_step, if_neg (by omega)]
    show x.length = _
    omega
  | n + 1, hs, x, h => by
    rw [D_step]
    split
    · rw [D_len n _ _ (by rw [List.length_drop]; omega), List.length_drop]; omega
    · show x.length = _
      omega
theorem shaS_whole (b : List UInt8) : shaS b = outAt (D h0s (endS b (b.length : Int))).1 32 := by
  unfold shaS sumS
  rw [absorb_fuel _ _ _ (Nat.le_refl _)]
  have e : wrS h0s [] b = D h0s b := by unfold wrS D; rw [List.nil_append]
  rw [e]
  have h1 : endS b (b.length : Int) = b ++ ([128] ++ List.replicate ((120 - (b.length + 1) % 64) % 64) 0 ++ lenBs (8 * (b.length : Int)) 8) := by
    unfold endS padS; simp
  have h2 : endS (D h0s b).2 (b.length : Int) = (D h0s b).2 ++ ([128] ++ List.replicate ((120 - (b.length + 1) % 64) % 64) 0 ++ lenBs (8 * (b.length : Int)) 8) := by
    have h3 := D_len _ h0s b (Nat.le_refl _)
    have h4 : (120 - ((D h0s b).2 ++ [(128 : UInt8)]).length % 64) % 64 = (120 - (b.length + 1) % 64) % 64 := by
      rw [List.length_append, h3, List.length_singleton]; omega
    unfold endS padS
    rw [h4]; simp
  rw [h1, h2, D_app _ b.length h0s b (Nat.le_refl _)]
theorem padS_ge (l : List UInt8) : l.length ≤ (padS l).length ∧ (padS l).length ≤ l.length + 63 ∧ (padS l).length % 64 = 56 := by
  unfold padS
  rw [List.length_append, List.length_replicate]
  omega
theorem padS_id {l : List UInt8} (h : l.length % 64 = 56) : padS l = l := by
  unfold padS
  rw [show (120 - l.length % 64) % 64 = 0 by omega]
  simp
theorem endS_len (s : List UInt8) : (endS s (s.length : Int)).length % 64 = 0 ∧ (endS s (s.length : Int)).length ≤ s.length + 72 := by
  have := padS_ge (s ++ [128])
  unfold endS
  rw [List.length_append, lenBs_len]
  rw [List.length_append, List.length_singleton] at this
  omega
theorem getbs (M : List UInt8) (a j : Nat) (hj : j < 64) : ((M.drop a).take 64).getD j 0 = M.getD (a + j) 0 := by
  simp [List.getD, List.getElem?_take, hj]
theorem table_M {K : List Int → Prop} (h : K ktab) : M_smithyref1_table K := h
theorem sum_M {s : List UInt8} {K : List UInt8 → Prop} (hs : s.length ≤ 1000000) (h : K (shaS s)) : M_smithyref1_Sum s K := by
  have hP := padS_ge (s ++ [128])
  have hPl : (s ++ [(128 : UInt8)]).length = s.length + 1 := by simp
  rw [hPl] at hP
  have hE := endS_len s
  refine table_M ⟨by simp only [In]; omega, by omega, by simp; omega, by simp; omega, ?_⟩
  refine ⟨fun m => padS m = padS (s ++ [128]), fun m => (padS (s ++ [128])).length - m.length, by rw [List.nil_append], fun m hm => ⟨by omega, fun h56 => ?_, fun h56 => ?_⟩⟩
  · have h1 : m.length % 64 ≠ 56 := by omega
    have h2 := padS_step m h1
    have h3 := (padS_ge (m ++ [0])).1
    rw [h2, hm, List.length_append, List.length_singleton] at h3
    refine ⟨by simp only [List.length_singleton]; omega, h2.trans hm, ?_⟩
    dsimp only
    rw [List.length_append, List.length_singleton]
    omega
  have hm : padS m = padS (s ++ [128]) := hm
  rw [padS_id (l := m) (by omega)] at hm
  subst hm
  have hn8 : IntKind.wrap .u64 ((IntKind.wrap .u64 (s.length : Int)) * (8 : Int)) = 8 * (s.length : Int) := by rw [wr64, wr64]; omega
  rw [hn8]
  refine ⟨fun m2 i => -1 ≤ i ∧ i ≤ 7 ∧ m2 = padS (s ++ [128]) ++ lenBs (8 * (s.length : Int)) (7 - i).toNat, fun _ i => (i + 1).toNat, ⟨by omega, by omega, by simp [lenBs]⟩, fun m2 i ⟨a0, a1, a2⟩ => ⟨fun hlt => ?_, fun hge => ?_⟩⟩
  · have e8 : IntKind.wrap .u64 ((8 : Int) * i) = 8 * i := by rw [wr64]; omega
    have hb : UInt8.ofNat (IntKind.wrap .u8 (shrV .u64 (8 * (s.length : Int)) (8 * i).toNat)).toNat = lenB (8 * (s.length : Int)) (7 - i).toNat := by
      unfold lenB u8v
      rw [show (8 * (7 - (((7 - i).toNat : Nat) : Int))).toNat = (8 * i).toNat by omega]
    have hl2 : m2.length ≤ s.length + 80 := by rw [a2, List.length_append, lenBs_len]; omega
    rw [e8, hb]
    refine ⟨by simp only [In]; omega, by omega, wr8_ok _, by simp only [List.length_singleton]; omega, by simp only [In]; omega, ⟨by omega, by omega, ?_⟩, by dsimp only; omega⟩
    rw [show (7 - (i - 1)).toNat = (7 - i).toNat + 1 by omega, lenBs, ← List.append_assoc, ← a2]
  have hm2 : m2 = endS s (s.length : Int) := by
    rw [a2, show (7 - i).toNat = 8 by omega]; rfl
  clear a2 hn8
  subst hm2
  generalize hMd : endS s (s.length : Int) = M at *
  rw [shaS_whole, hMd] at h
  refine ⟨fun at_ hh => 0 ≤ at_ ∧ at_ ≤ M.length ∧ at_ % 64 = 0 ∧ hh.length = 8 ∧ D h0s M = D hh (M.drop at_.toNat), fun at_ _ => M.length - at_.toNat, ⟨by omega, by omega, by omega, rfl, rfl⟩, fun at_ hh ⟨b0, b1, b2, b3, b4⟩ _ => ⟨fun hlt => ⟨by omega, ?_⟩, fun hge => ?_⟩⟩
  · have hfit : at_ + 64 ≤ M.length := by omega
    generalize hbs : (M.drop at_.toNat).take 64 = bs
    have hget : ∀ j : Nat, j < 64 → M.getD (at_.toNat + j) 0 = bs.getD j 0 := fun j hj => by rw [← hbs, getbs M _ j hj]
    refine ⟨fun i w_ => 0 ≤ i ∧ i ≤ 16 ∧ w_ = wsAt bs i.toNat, fun i _ => 16 - i.toNat, ⟨by omega, by omega, rfl⟩, fun i w_ ⟨c0, c1, c2⟩ _ => ⟨fun hi => ?_, fun hi => ?_⟩⟩
    · refine ⟨by simp only [In]; omega, by simp only [In]; omega, by omega, by simp only [In]; omega, by simp only [In]; omega, by simp only [In]; omega, by omega, by simp only [In]; omega, by simp only [In]; omega, by simp only [In]; omega, by omega, by simp only [In]; omega, by simp only [In]; omega, by simp only [In]; omega, by omega, by omega, by simp only [In]; omega, ⟨by omega, by omega, ?_⟩, by dsimp only; omega⟩
      rw [show (i + 1).toNat = i.toNat + 1 by omega, wsAt, ← c2]
      congr 1
      rw [wnext, if_pos (by omega)]
      rw [show (at_ + 4 * i).toNat = at_.toNat + (4 * i.toNat) by omega, show (at_ + 4 * i + 1).toNat = at_.toNat + (4 * i.toNat + 1) by omega, show (at_ + 4 * i + 2).toNat = at_.toNat + (4 * i.toNat + 2) by omega, show (at_ + 4 * i + 3).toNat = at_.toNat + (4 * i.toNat + 3) by omega]
      rw [hget _ (by omega), hget _ (by omega), hget _ (by omega), hget _ (by omega)]
    refine ⟨fun i w_ => 16 ≤ i ∧ i ≤ 64 ∧ w_ = wsAt bs i.toNat, fun i _ => 64 - i.toNat, ⟨by omega, by omega, by rw [c2, show i.toNat = 16 by omega]; rfl⟩, fun i3 w_2 ⟨d0, d1, d2⟩ _ => ⟨fun hi3 => ?_, fun hi3 => ?_⟩⟩
    · refine ⟨by simp only [In]; omega, by omega, turn_M (by decide) (by decide) ⟨by simp only [In]; omega, by omega, turn_M (by decide) (by decide) ⟨by simp only [In]; omega, by omega, by simp only [In]; omega, by omega, turn_M (by decide) (by decide) ⟨by simp only [In]; omega, by omega, turn_M (by decide) (by decide) ⟨by simp only [In]; omega, by omega, by simp only [In]; omega, by omega, by simp only [In]; omega, by omega, by omega, by simp only [In]; omega, ⟨by omega, by omega, ?_⟩, by dsimp only; omega⟩⟩⟩⟩⟩
      rw [show (i3 + 1).toNat = i3.toNat + 1 by omega, wsAt, ← d2]
      congr 1
      rw [wnext, if_neg (by omega)]
      rw [show (i3 - 15).toNat = i3.toNat - 15 by omega, show (i3 - 2).toNat = i3.toNat - 2 by omega, show (i3 - 16).toNat = i3.toNat - 16 by omega, show (i3 - 7).toNat = i3.toNat - 7 by omega]
      dsimp only
      generalize bits .xor .u32 _ _ = A
      generalize bits .xor .u32 _ _ = B
      generalize w_2.getD (i3.toNat - 16) 0 = x
      generalize w_2.getD (i3.toNat - 7) 0 = y
      simp only [wr32]
      omega
    obtain rfl : i3 = 64 := by omega
    have e64 : (64 : Int).toNat = 64 := rfl
    have e8 : (8 : Int).toNat = 8 := rfl
    rw [e64] at d2
    refine ⟨by omega, by simp [b3], ?_⟩
    refine ⟨fun v i => 0 ≤ i ∧ i ≤ 64 ∧ v = hAt w_2 hh i.toNat, fun _ i => 64 - i.toNat, ⟨by omega, by omega, by rw [List.nil_append]; rfl⟩, fun v i4 ⟨e0, e1, e2⟩ => ⟨fun hi4 => ?_, fun hi4 => ?_⟩⟩
    · have hv : v.length = 8 := by rw [e2]; exact hAt_len _ _ b3 _
      have hk : ktab.length = 64 := rfl
      refine ⟨by omega, turn_M (by decide) (by decide) ⟨by omega, turn_M (by decide) (by decide) ⟨by omega, turn_M (by decide) (by decide) ⟨by omega, by omega, by omega, by omega, by omega, by omega, by omega, by omega, turn_M (by decide) (by decide) ⟨by omega, turn_M (by decide) (by decide) ⟨by omega, turn_M (by decide) (by decide) ⟨by omega, by omega, by omega, by omega, by omega, by omega, by omega, by omega, by omega, by omega, by omega, by omega, by omega, by simp only [In]; omega, ⟨by omega, by omega, ?_⟩, by dsimp only; omega⟩⟩⟩⟩⟩⟩⟩
      have hmax : (if IntKind.signed .u32 = true then (-1 : Int) else IntKind.max .u32) = IntKind.u32.max := rfl
      rw [show (i4 + 1).toNat = i4.toNat + 1 by omega, hAt, ← e2, hnext, hmax]
      generalize IntKind.wrap .u32 (IntKind.wrap .u32 (IntKind.wrap .u32 (IntKind.wrap .u32 (v.getD 7 0 + _) + _) + _) + _) = one
      have e3 : ∀ A B : Int, IntKind.wrap .u32 (IntKind.wrap .u32 (one + A) + B) = IntKind.wrap .u32 (one + IntKind.wrap .u32 (A + B)) := fun A B => by
        simp only [wr32]
        omega
      rw [e3]
    obtain rfl : i4 = 64 := by omega
    have hv : v.length = 8 := by rw [e2]; exact hAt_len _ _ b3 _
    refine ⟨fun i h2 => 0 ≤ i ∧ i ≤ 8 ∧ h2 = sumAt hh v i.toNat, fun i _ => 8 - i.toNat, ⟨by omega, by omega, rfl⟩, fun i5 h2 ⟨f0, f1, f2⟩ _ => ⟨fun hi5 => ?_, fun hi5 => ?_⟩⟩
    · refine ⟨by omega, by omega, by omega, by simp only [In]; omega, ⟨by omega, by omega, ?_⟩, by dsimp only; omega⟩
      rw [show (i5 + 1).toNat = i5.toNat + 1 by omega, sumAt, ← f2]
    obtain rfl : i5 = 8 := by omega
    have hmix : h2 = mixS hh bs := by rw [f2, e2, e64, e8, d2, mixS]
    refine ⟨by simp only [In]; omega, ⟨by omega, by omega, by omega, by rw [hmix, mixS_len]; exact b3, ?_⟩, by dsimp only; omega⟩
    rw [b4, D_step, if_pos (by rw [List.length_drop]; omega), hbs, ← hmix, List.drop_drop]
    rw [show (at_ + 64).toNat = at_.toNat + 64 by omega]
  have hd : M.drop at_.toNat = [] := List.drop_eq_nil_of_le (by omega)
  rw [hd, D_step hh [], if_neg (by simp)] at b4
  have hh1 : (D h0s M).1 = hh := by rw [b4]
  rw [hh1] at h
  refine ⟨fun i o => 0 ≤ i ∧ i ≤ 8 ∧ o = outAt hh (4 * i).toNat, fun i _ => 8 - i.toNat, ⟨by omega, by omega, rfl⟩, fun i6 o ⟨g0, g1, g2⟩ => ⟨fun hi6 => ?_, fun hi6 => ?_⟩⟩
  · refine ⟨fun j o => 0 ≤ j ∧ j ≤ 4 ∧ o = outAt hh (4 * i6 + j).toNat, fun j _ => 4 - j.toNat, ⟨by omega, by omega, by rw [g2, Int.add_zero]⟩, fun j o2 ⟨p0, p1, p2⟩ => ⟨fun hj => ?_, fun hj => ?_⟩⟩
    · have e64 : IntKind.wrap .u64 (24 - 8 * j) = 24 - 8 * j := by rw [wr64]; omega
      rw [e64]
      refine ⟨by simp only [In]; omega, by simp only [In]; omega, by omega, by simp only [In]; omega, by simp only [In]; omega, by omega, by omega, wr8_ok _, by rw [p2]; exact outAt_len _ _, by simp only [In]; omega, ⟨by omega, by omega, ?_⟩, by dsimp only; omega⟩
      rw [show (4 * i6 + (j + 1)).toNat = (4 * i6 + j).toNat + 1 by omega, outAt, ← p2]
      congr 1
      unfold u8v
      rw [show (4 * i6 + j).toNat / 4 = i6.toNat by omega, show (24 - 8 * ((((4 * i6 + j).toNat : Nat) : Int) % 4)) = 24 - 8 * j by omega]
    · refine ⟨by simp only [In]; omega, ⟨by omega, by omega, ?_⟩, by dsimp only; omega⟩
      rw [p2, show 4 * (i6 + 1) = 4 * i6 + j by omega]
  · rw [g2, show (4 * i6).toNat = 32 by omega]
    exact h
end Go.Proofs.YtilphcippnfklaaDoor
 /- The digests of the chapter: plain. -/
namespace Go.Proofs.YtilphcippnfklaaDoor
open Go Go.RowKit
theorem getD_mem {α : Type} {l : List α} {k : Nat} {d : α} (h : k < l.length) : l.getD k d ∈ l := by
  simp [List.getD, h]
theorem map_take_succ {α β : Type} (f : α → β) (l : List α) (d : α) (i : Nat) (h : i < l.length) : (l.take (i + 1)).map f = (l.take i).map f ++ [f (l.getD i d)] := by
  rw [List.take_succ_eq_append_getElem h, List.map_append]
  simp [List.getD, h]
theorem hex_M {s : List UInt8} {K : List UInt8 → Prop} (hl : s.length = 32) (h : K (hexS s)) : M_smithyref1_Hex s K := by
  refine ⟨by omega, fun out i => 0 ≤ i ∧ i ≤ 32 ∧ out = hexS (s.take i.toNat), fun _ i => 32 - i.toNat, ⟨by omega, by omega, rfl⟩, fun out i ⟨a0, a1, a2⟩ => ⟨fun hlt => ?_, fun hge => ?_⟩⟩
  · have hs := shr_4 (s.getD i.toNat 0)
    have ha := and_15 (s.getD i.toNat 0)
    have ho : out.length ≤ 64 := by rw [a2, hexS_len, List.length_take]; omega
    refine ⟨by omega, by simp only [List.length_cons, List.length_nil]; omega, by omega, by simp only [List.length_cons, List.length_nil]; omega, by simp only [List.length_cons, List.length_nil]; omega, by simp only [In]; omega, ⟨by omega, by omega, ?_⟩, by dsimp only; omega⟩
    rw [show (i + 1).toNat = i.toNat + 1 by omega, hexS_take s i.toNat (by omega), ← a2]
    rfl
  · rw [a2, show i.toNat = 32 by omega, List.take_of_length_le (by omega)]
    exact h
theorem text_M {s : List UInt8} {K : List UInt8 → Prop} (hl : s.length = 32) (h : K (hexS s)) : M_sha_Text s K := by
  intro t ht he
  have : t = s := List.ext_getElem (by omega) fun i h1 h2 => by
    have := he i (by omega)
    simpa [List.getD, h1, h2] using this
  rw [this]; exact h
theorem sameSum_M {a b : List UInt8} {K : Bool → Prop} (ha : a.length = 32) (hb : b.length = 32) (h : K (decide (hexS a = hexS b))) : M_smithyref17_SameSum a b K := hex_M ha (hex_M hb h)
theorem catM_le (l : List (List UInt8)) (h : ∀ x ∈ l, x.length ≤ 1000) : (catM l).length ≤ 1004 * l.length := by
  induction l with
  | nil => simp [catM]
  | cons x l ih =>
    have hx := h x (by simp)
    have := ih (fun y hy => h y (by simp [hy]))
    have e : catM (x :: l) = be4 x.length ++ x ++ catM l := rfl
    have hb : (be4 x.length).length = 4 := rfl
    rw [e, List.length_append, List.length_append, hb, List.length_cons]
    omega
theorem rmany_M {l : List (List UInt8)} {K : List UInt8 → Prop} (hl : l.length ≤ 500) (hx : ∀ x ∈ l, x.length ≤ 1000) (h : K (manyS l)) : M_smithyref1_Many l K := by
  intro _
  refine ⟨fun m i => 0 ≤ i ∧ i ≤ l.length ∧ m = catM (l.take i.toNat), fun _ i => l.length - i.toNat, ⟨by omega, by omega, rfl⟩, fun m i ⟨a0, a1, a2⟩ => ⟨fun hlt => ?_, fun hge => ?_⟩⟩
  · have h1 := hx _ (getD_mem (l := l) (k := i.toNat) (d := []) (by omega))
    have hm : m.length ≤ 1004 * 500 := by
      have := catM_le (l.take i.toNat) fun x hx' => hx x (List.mem_of_mem_take hx')
      rw [List.length_take] at this
      rw [a2]; omega
    refine ⟨by omega, wr8_ok _, wr8_ok _, wr8_ok _, wr8_ok _, by simp only [List.length_cons, List.length_nil]; omega, by omega, by simp only [List.length_append, List.length_cons, List.length_nil]; omega, by simp only [In]; omega, ⟨by omega, by omega, ?_⟩, by dsimp only; omega⟩
    rw [show (i + 1).toNat = i.toNat + 1 by omega, catM_take l i.toNat (by omega), ← a2, ← List.append_assoc]
    rfl
  · have hm := catM_le l hx
    rw [a2, List.take_of_length_le (by omega)]
    refine sum_M (by omega) ?_
    rw [← manyS_eq]
    exact h
end Go.Proofs.YtilphcippnfklaaDoor
 /- smithysee.Is, plainly. -/
namespace Go.Proofs.YtilphcippnfklaaDoor
open Go Go.RowKit
def isB : Er → Int → Bool
  | .ok, c => decide (0 = c)
  | .e n, c => decide (101 + (n : Int) = c)
  | .at_ _ _, _ => false
theorem is_M {e : Er} {code : Int} {K : Bool → Prop} (h : K (isB e code)) : M_smithysee_Is e code K := by
  unfold M_smithysee_Is M_smithyref_Bare M_smithysee_Same M_smithysee_Fault M_smithyref_None M_smithyref_SameFault M_smithysee_placed M_smithysee_sentinel M_smithyref_Bare M_smithyref_Placed M_smithyref_None
  cases e with
  | ok => refine ⟨fun _ => ?_, fun h2 => absurd rfl h2⟩; exact (congrArg K (show isB .ok code = _ by simp [isB])).mp h
  | e n => refine ⟨fun h2 => (by cases h2), fun _ => ⟨fun p m h2 => (by cases h2), fun _ => ?_⟩⟩; exact (congrArg K (show isB (.e n) code = _ by rw [Bool.eq_iff_iff]; simp [isB, sentV]; exact decide_eq_true_iff.symm)).mp h
  | at_ p n =>
    refine ⟨fun h2 => (by cases h2), fun _ => ⟨fun p' m h2 => ?_, fun h2 => absurd rfl (h2 p n)⟩⟩
    cases h2
    refine ⟨fun h2 => (by simp at h2), fun _ => ⟨fun h2 => (by simp only [sentV] at h2; omega), fun _ => ?_⟩⟩
    exact (congrArg K (show isB (.at_ p n) code = _ by simp [isB])).mp h
end Go.Proofs.YtilphcippnfklaaDoor
 