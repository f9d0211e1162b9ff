/- Texts of this claim, joined by a program: Num2, Num3, Num4, Num5, Num6, Num7, Num8, Num9, Num10, Num11, Ord, Num12. -/
import Derived.Test.YtilphcippnfklaaDoorJ3
namespace Go.Proofs.YtilphcippnfklaaDoor
open Go Go.RowKit
attribute [local irreducible] WL WC WX WQ Yld Eff Fn
theorem minus_step (p d c' c a b o x y : Nat) (h : d + b + c = a + 1000000000 * c') (h0 : o + y = x + c * p) : o + p * d + (y + p * b) = (x + p * a) + c' * (p * 1000000000) := by grind
theorem minus_fn (A : Option Addr) (c : Nat) (la : List Nat) (B : Option Addr) (cb : Nat) (lb : List Nat) (w : World) (hA : Rd vd w A c la) (hB : Rd vd w B cb lb) (hDa : Dg la) (hDb : Dg lb) (hla : la.length ≤ 1000000) (hlb : lb.length ≤ la.length) (hle : val lb ≤ val la) :
    Fn Tryd.prog 72 ⟨[.slice A la.length c, .slice B lb.length cb]⟩ w fun v w' => ∃ A' c' o, v = .slice A' o.length c' ∧ Rd vd w' A' c' o ∧ Dg o ∧ val o + val lb = val la ∧ o.length = la.length ∧ w.grownBy w' none := by
  refine Fn.enter (by kernel_rfl) Tryd.func72 rfl Tryd.ntmps72 rfl ?_
  repeat (first | refine WC.seq ?_ | refine WC.block ?_ | refine WC.region ?_ | refine WL.nil ?_ | refine WX.then_normal ?_ | refine WC.skip ?_ | refine WC.exit ?_ | refine WC.ret ?_ | refine WX.then_exit ?_ | refine WX.then_ret ?_ | refine WX.block_normal ?_ | refine WX.block_ret ?_ | refine WX.block_same ?_ | refine WX.block_other rfl ?_ | refine WC.label ?_ | refine WC.scope ?_ | refine WX.scope_normal ?_ | refine WX.scope_ret ?_ | refine WX.scope_exit ?_ | refine WL.y rfl (Yld.add rfl rfl (by simp only [In]; omega)) ?_ | refine WL.y rfl (Yld.sub rfl rfl (by simp only [In]; omega)) ?_ | refine WL.y rfl (Yld.mul rfl rfl (by simp only [In]; omega)) ?_ | refine WL.y rfl (Yld.convB tab_ok rfl rfl rfl rfl) ?_ | refine WL.y rfl (Yld.conv tab_ok rfl rfl rfl (by simp only [In]; omega)) ?_ | refine WL.y rfl (Yld.quo rfl rfl (by omega) (by omega) (by simp only [In]; omega)) ?_ | refine WL.y rfl (Yld.rem rfl rfl (by omega) (by omega)) ?_ | refine WL.y rfl (Yld.shl rfl rfl (by omega)) ?_ | refine WL.y rfl (Yld.shr rfl rfl (by omega)) ?_ | refine WL.y rfl (Yld.pure tab_ok rfl) ?_ | refine WL.y rfl (Yld.fld flds_ok rfl rfl rfl) ?_ | refine WL.y rfl (Yld.max2 rfl rfl) ?_ | refine WL.y rfl (Yld.min2 rfl rfl) ?_ | refine WL.y rfl (Yld.pickV rfl rfl rfl) ?_ | refine WL.gno rfl rfl rfl rfl ?_ | refine WL.gyes rfl rfl rfl rfl (Yld.add rfl rfl (by simp only [In]; omega)) ?_ | refine WL.gyes rfl rfl rfl rfl (Yld.sub rfl rfl (by simp only [In]; omega)) ?_ | refine WL.gyes rfl rfl rfl rfl (Yld.mul rfl rfl (by simp only [In]; omega)) ?_ | refine WL.gyes rfl rfl rfl rfl (Yld.convB tab_ok rfl rfl rfl rfl) ?_ | refine WL.gyes rfl rfl rfl rfl (Yld.conv tab_ok rfl rfl rfl (by simp only [In]; omega)) ?_ | refine WL.gyes rfl rfl rfl rfl (Yld.quo rfl rfl (by omega) (by omega) (by simp only [In]; omega)) ?_ | refine WL.gyes rfl rfl rfl rfl (Yld.rem rfl rfl (by omega) (by omega)) ?_ | refine WL.gyes rfl rfl rfl rfl (Yld.shl rfl rfl (by omega)) ?_ | refine WL.gyes rfl rfl rfl rfl (Yld.shr rfl rfl (by omega)) ?_ | refine WL.gyes rfl rfl rfl rfl (Yld.pure tab_ok rfl) ?_ | refine WL.gyes rfl rfl rfl rfl (Yld.fld flds_ok rfl rfl rfl) ?_ | refine WL.gyes rfl rfl rfl rfl (Yld.max2 rfl rfl) ?_ | refine WL.gyes rfl rfl rfl rfl (Yld.min2 rfl rfl) ?_ | refine WL.gyes rfl rfl rfl rfl (Yld.pickV rfl rfl rfl) ?_)
  refine WC.loop5 (S1 := Nat) (S2 := List Nat) (S3 := Option Addr) (S4 := Nat) (S5 := Nat) (fun i _ _ _ _ => la.length - i)
    (fun i o A' c' k => [(11, vi i), (10, vi la.length), (5, .slice A' o.length c'), (6, vd k), (0, .slice A la.length c), (1, .slice B lb.length cb)])
    (fun i o A' c' k w2 => i ≤ la.length ∧ o.length = i ∧ Dg o ∧ k ≤ 1 ∧ val o + val (lb.take i) = val (la.take i) + k * 1000000000 ^ i ∧ Own vd w2 w.heap.size 98 A' c' o ∧ w.grownBy w2 none) 0 [] none 0 0
    ⟨by omega, rfl, Dg.nil, by omega, by simp [val], Own.nil _ _ _ _, gr_refl _ _⟩ (by repeat (first | exact Sub.nil | refine Sub.cons rfl ?_)) (fun i o A' c' k w2 ⟨hi, hol, hDo, hk, hv, hO, hg⟩ => ?_)
  have hA2 := hA.grown hg
  have hB2 := hB.grown hg
  have hda := hDa i
  have hdb := hDb i
  repeat (first | refine WC.seq ?_ | refine WC.block ?_ | refine WC.region ?_ | refine WL.nil ?_ | refine WX.then_normal ?_ | refine WC.skip ?_ | refine WC.exit ?_ | refine WC.ret ?_ | refine WX.then_exit ?_ | refine WX.then_ret ?_ | refine WX.block_normal ?_ | refine WX.block_ret ?_ | refine WX.block_same ?_ | refine WX.block_other rfl ?_ | refine WC.label ?_ | refine WC.scope ?_ | refine WX.scope_normal ?_ | refine WX.scope_ret ?_ | refine WX.scope_exit ?_ | refine WL.y rfl (Yld.add rfl rfl (by simp only [In]; omega)) ?_ | refine WL.y rfl (Yld.sub rfl rfl (by simp only [In]; omega)) ?_ | refine WL.y rfl (Yld.mul rfl rfl (by simp only [In]; omega)) ?_ | refine WL.y rfl (Yld.convB tab_ok rfl rfl rfl rfl) ?_ | refine WL.y rfl (Yld.conv tab_ok rfl rfl rfl (by simp only [In]; omega)) ?_ | refine WL.y rfl (Yld.quo rfl rfl (by omega) (by omega) (by simp only [In]; omega)) ?_ | refine WL.y rfl (Yld.rem rfl rfl (by omega) (by omega)) ?_ | refine WL.y rfl (Yld.shl rfl rfl (by omega)) ?_ | refine WL.y rfl (Yld.shr rfl rfl (by omega)) ?_ | refine WL.y rfl (Yld.pure tab_ok rfl) ?_ | refine WL.y rfl (Yld.fld flds_ok rfl rfl rfl) ?_ | refine WL.y rfl (Yld.max2 rfl rfl) ?_ | refine WL.y rfl (Yld.min2 rfl rfl) ?_ | refine WL.y rfl (Yld.pickV rfl rfl rfl) ?_ | refine WL.gno rfl rfl rfl rfl ?_ | refine WL.gyes rfl rfl rfl rfl (Yld.add rfl rfl (by simp only [In]; omega)) ?_ | refine WL.gyes rfl rfl rfl rfl (Yld.sub rfl rfl (by simp only [In]; omega)) ?_ | refine WL.gyes rfl rfl rfl rfl (Yld.mul rfl rfl (by simp only [In]; omega)) ?_ | refine WL.gyes rfl rfl rfl rfl (Yld.convB tab_ok rfl rfl rfl rfl) ?_ | refine WL.gyes rfl rfl rfl rfl (Yld.conv tab_ok rfl rfl rfl (by simp only [In]; omega)) ?_ | refine WL.gyes rfl rfl rfl rfl (Yld.quo rfl rfl (by omega) (by omega) (by simp only [In]; omega)) ?_ | refine WL.gyes rfl rfl rfl rfl (Yld.rem rfl rfl (by omega) (by omega)) ?_ | refine WL.gyes rfl rfl rfl rfl (Yld.shl rfl rfl (by omega)) ?_ | refine WL.gyes rfl rfl rfl rfl (Yld.shr rfl rfl (by omega)) ?_ | refine WL.gyes rfl rfl rfl rfl (Yld.pure tab_ok rfl) ?_ | refine WL.gyes rfl rfl rfl rfl (Yld.fld flds_ok rfl rfl rfl) ?_ | refine WL.gyes rfl rfl rfl rfl (Yld.max2 rfl rfl) ?_ | refine WL.gyes rfl rfl rfl rfl (Yld.min2 rfl rfl) ?_ | refine WL.gyes rfl rfl rfl rfl (Yld.pickV rfl rfl rfl) ?_)
  refine WC.cond rfl (fun h => ?_) (fun h => ?_)
  · simp only [decide_eq_true_eq] at h
    repeat (first | refine WL.y rfl (Yld.iaddrN tab_ok hA2 rfl rfl rfl rfl (by omega)) ?_ | refine WL.y rfl (Yld.iload 0 tab_ok hA2 rfl rfl (by omega)) ?_ | refine WC.seq ?_ | refine WC.block ?_ | refine WC.region ?_ | refine WL.nil ?_ | refine WX.then_normal ?_ | refine WC.skip ?_ | refine WC.exit ?_ | refine WC.ret ?_ | refine WX.then_exit ?_ | refine WX.then_ret ?_ | refine WX.block_normal ?_ | refine WX.block_ret ?_ | refine WX.block_same ?_ | refine WX.block_other rfl ?_ | refine WC.label ?_ | refine WC.scope ?_ | refine WX.scope_normal ?_ | refine WX.scope_ret ?_ | refine WX.scope_exit ?_ | refine WL.y rfl (Yld.add rfl rfl (by simp only [In]; omega)) ?_ | refine WL.y rfl (Yld.sub rfl rfl (by simp only [In]; omega)) ?_ | refine WL.y rfl (Yld.mul rfl rfl (by simp only [In]; omega)) ?_ | refine WL.y rfl (Yld.convB tab_ok rfl rfl rfl rfl) ?_ | refine WL.y rfl (Yld.conv tab_ok rfl rfl rfl (by simp only [In]; omega)) ?_ | refine WL.y rfl (Yld.quo rfl rfl (by omega) (by omega) (by simp only [In]; omega)) ?_ | refine WL.y rfl (Yld.rem rfl rfl (by omega) (by omega)) ?_ | refine WL.y rfl (Yld.shl rfl rfl (by omega)) ?_ | refine WL.y rfl (Yld.shr rfl rfl (by omega)) ?_ | refine WL.y rfl (Yld.pure tab_ok rfl) ?_ | refine WL.y rfl (Yld.fld flds_ok rfl rfl rfl) ?_ | refine WL.y rfl (Yld.max2 rfl rfl) ?_ | refine WL.y rfl (Yld.min2 rfl rfl) ?_ | refine WL.y rfl (Yld.pickV rfl rfl rfl) ?_ | refine WL.gno rfl rfl rfl rfl ?_ | refine WL.gyes rfl rfl rfl rfl (Yld.add rfl rfl (by simp only [In]; omega)) ?_ | refine WL.gyes rfl rfl rfl rfl (Yld.sub rfl rfl (by simp only [In]; omega)) ?_ | refine WL.gyes rfl rfl rfl rfl (Yld.mul rfl rfl (by simp only [In]; omega)) ?_ | refine WL.gyes rfl rfl rfl rfl (Yld.convB tab_ok rfl rfl rfl rfl) ?_ | refine WL.gyes rfl rfl rfl rfl (Yld.conv tab_ok rfl rfl rfl (by simp only [In]; omega)) ?_ | refine WL.gyes rfl rfl rfl rfl (Yld.quo rfl rfl (by omega) (by omega) (by simp only [In]; omega)) ?_ | refine WL.gyes rfl rfl rfl rfl (Yld.rem rfl rfl (by omega) (by omega)) ?_ | refine WL.gyes rfl rfl rfl rfl (Yld.shl rfl rfl (by omega)) ?_ | refine WL.gyes rfl rfl rfl rfl (Yld.shr rfl rfl (by omega)) ?_ | refine WL.gyes rfl rfl rfl rfl (Yld.pure tab_ok rfl) ?_ | refine WL.gyes rfl rfl rfl rfl (Yld.fld flds_ok rfl rfl rfl) ?_ | refine WL.gyes rfl rfl rfl rfl (Yld.max2 rfl rfl) ?_ | refine WL.gyes rfl rfl rfl rfl (Yld.min2 rfl rfl) ?_ | refine WL.gyes rfl rfl rfl rfl (Yld.pickV rfl rfl rfl) ?_)
    refine WC.merge [(8, .int .u32 ((la.getD i 0 : Nat) + 1000000000 - (k : Int) - (lb.getD i 0 : Nat))), (11, vi i), (10, vi la.length), (5, .slice A' o.length c'), (0, .slice A la.length c), (1, .slice B lb.length cb)] rfl (fun h Q' hQ => ?_) (fun h Q' hQ => ?_) ?_
    · simp only [decide_eq_true_eq] at h
      repeat (first | refine WL.y rfl (Yld.iaddrN tab_ok hB2 rfl rfl rfl rfl (by omega)) ?_ | refine WL.y rfl (Yld.iload 0 tab_ok hB2 rfl rfl (by omega)) ?_ | refine WC.seq ?_ | refine WC.block ?_ | refine WC.region ?_ | refine WL.nil ?_ | refine WX.then_normal ?_ | refine WC.skip ?_ | refine WC.exit ?_ | refine WC.ret ?_ | refine WX.then_exit ?_ | refine WX.then_ret ?_ | refine WX.block_normal ?_ | refine WX.block_ret ?_ | refine WX.block_same ?_ | refine WX.block_other rfl ?_ | refine WC.label ?_ | refine WC.scope ?_ | refine WX.scope_normal ?_ | refine WX.scope_ret ?_ | refine WX.scope_exit ?_ | refine WL.y rfl (Yld.add rfl rfl (by simp only [In]; omega)) ?_ | refine WL.y rfl (Yld.sub rfl rfl (by simp only [In]; omega)) ?_ | refine WL.y rfl (Yld.mul rfl rfl (by simp only [In]; omega)) ?_ | refine WL.y rfl (Yld.convB tab_ok rfl rfl rfl rfl) ?_ | refine WL.y rfl (Yld.conv tab_ok rfl rfl rfl (by simp only [In]; omega)) ?_ | refine WL.y rfl (Yld.quo rfl rfl (by omega) (by omega) (by simp only [In]; omega)) ?_ | refine WL.y rfl (Yld.rem rfl rfl (by omega) (by omega)) ?_ | refine WL.y rfl (Yld.shl rfl rfl (by omega)) ?_ | refine WL.y rfl (Yld.shr rfl rfl (by omega)) ?_ | refine WL.y rfl (Yld.pure tab_ok rfl) ?_ | refine WL.y rfl (Yld.fld flds_ok rfl rfl rfl) ?_ | refine WL.y rfl (Yld.max2 rfl rfl) ?_ | refine WL.y rfl (Yld.min2 rfl rfl) ?_ | refine WL.y rfl (Yld.pickV rfl rfl rfl) ?_ | refine WL.gno rfl rfl rfl rfl ?_ | refine WL.gyes rfl rfl rfl rfl (Yld.add rfl rfl (by simp only [In]; omega)) ?_ | refine WL.gyes rfl rfl rfl rfl (Yld.sub rfl rfl (by simp only [In]; omega)) ?_ | refine WL.gyes rfl rfl rfl rfl (Yld.mul rfl rfl (by simp only [In]; omega)) ?_ | refine WL.gyes rfl rfl rfl rfl (Yld.convB tab_ok rfl rfl rfl rfl) ?_ | refine WL.gyes rfl rfl rfl rfl (Yld.conv tab_ok rfl rfl rfl (by simp only [In]; omega)) ?_ | refine WL.gyes rfl rfl rfl rfl (Yld.quo rfl rfl (by omega) (by omega) (by simp only [In]; omega)) ?_ | refine WL.gyes rfl rfl rfl rfl (Yld.rem rfl rfl (by omega) (by omega)) ?_ | refine WL.gyes rfl rfl rfl rfl (Yld.shl rfl rfl (by omega)) ?_ | refine WL.gyes rfl rfl rfl rfl (Yld.shr rfl rfl (by omega)) ?_ | refine WL.gyes rfl rfl rfl rfl (Yld.pure tab_ok rfl) ?_ | refine WL.gyes rfl rfl rfl rfl (Yld.fld flds_ok rfl rfl rfl) ?_ | refine WL.gyes rfl rfl rfl rfl (Yld.max2 rfl rfl) ?_ | refine WL.gyes rfl rfl rfl rfl (Yld.min2 rfl rfl) ?_ | refine WL.gyes rfl rfl rfl rfl (Yld.pickV rfl rfl rfl) ?_)
      exact WX.weaken (by repeat (first | exact Sub.nil | refine Sub.cons rfl ?_)) hQ
    · simp only [decide_eq_false_iff_not] at h
      repeat (first | refine WC.seq ?_ | refine WC.block ?_ | refine WC.region ?_ | refine WL.nil ?_ | refine WX.then_normal ?_ | refine WC.skip ?_ | refine WC.exit ?_ | refine WC.ret ?_ | refine WX.then_exit ?_ | refine WX.then_ret ?_ | refine WX.block_normal ?_ | refine WX.block_ret ?_ | refine WX.block_same ?_ | refine WX.block_other rfl ?_ | refine WC.label ?_ | refine WC.scope ?_ | refine WX.scope_normal ?_ | refine WX.scope_ret ?_ | refine WX.scope_exit ?_ | refine WL.y rfl (Yld.add rfl rfl (by simp only [In]; omega)) ?_ | refine WL.y rfl (Yld.sub rfl rfl (by simp only [In]; omega)) ?_ | refine WL.y rfl (Yld.mul rfl rfl (by simp only [In]; omega)) ?_ | refine WL.y rfl (Yld.convB tab_ok rfl rfl rfl rfl) ?_ | refine WL.y rfl (Yld.conv tab_ok rfl rfl rfl (by simp only [In]; omega)) ?_ | refine WL.y rfl (Yld.quo rfl rfl (by omega) (by omega) (by simp only [In]; omega)) ?_ | refine WL.y rfl (Yld.rem rfl rfl (by omega) (by omega)) ?_ | refine WL.y rfl (Yld.shl rfl rfl (by omega)) ?_ | refine WL.y rfl (Yld.shr rfl rfl (by omega)) ?_ | refine WL.y rfl (Yld.pure tab_ok rfl) ?_ | refine WL.y rfl (Yld.fld flds_ok rfl rfl rfl) ?_ | refine WL.y rfl (Yld.max2 rfl rfl) ?_ | refine WL.y rfl (Yld.min2 rfl rfl) ?_ | refine WL.y rfl (Yld.pickV rfl rfl rfl) ?_ | refine WL.gno rfl rfl rfl rfl ?_ | refine WL.gyes rfl rfl rfl rfl (Yld.add rfl rfl (by simp only [In]; omega)) ?_ | refine WL.gyes rfl rfl rfl rfl (Yld.sub rfl rfl (by simp only [In]; omega)) ?_ | refine WL.gyes rfl rfl rfl rfl (Yld.mul rfl rfl (by simp only [In]; omega)) ?_ | refine WL.gyes rfl rfl rfl rfl (Yld.convB tab_ok rfl rfl rfl rfl) ?_ | refine WL.gyes rfl rfl rfl rfl (Yld.conv tab_ok rfl rfl rfl (by simp only [In]; omega)) ?_ | refine WL.gyes rfl rfl rfl rfl (Yld.quo rfl rfl (by omega) (by omega) (by simp only [In]; omega)) ?_ | refine WL.gyes rfl rfl rfl rfl (Yld.rem rfl rfl (by omega) (by omega)) ?_ | refine WL.gyes rfl rfl rfl rfl (Yld.shl rfl rfl (by omega)) ?_ | refine WL.gyes rfl rfl rfl rfl (Yld.shr rfl rfl (by omega)) ?_ | refine WL.gyes rfl rfl rfl rfl (Yld.pure tab_ok rfl) ?_ | refine WL.gyes rfl rfl rfl rfl (Yld.fld flds_ok rfl rfl rfl) ?_ | refine WL.gyes rfl rfl rfl rfl (Yld.max2 rfl rfl) ?_ | refine WL.gyes rfl rfl rfl rfl (Yld.min2 rfl rfl) ?_ | refine WL.gyes rfl rfl rfl rfl (Yld.pickV rfl rfl rfl) ?_)
      rw [getD_ge lb i (by omega)] at hQ
      have e0 : ∀ z : Int, z - ((0 : Nat) : Int) = z := by intro z; omega
      rw [e0] at hQ
      exact WX.weaken (by repeat (first | exact Sub.nil | refine Sub.cons rfl ?_)) hQ
    have hv1 := val_take la i
    have hv2 := val_take lb i
    generalize la.getD i 0 = a at *
    generalize lb.getD i 0 = b at *
    repeat (first | refine WC.seq ?_ | refine WC.block ?_ | refine WC.region ?_ | refine WL.nil ?_ | refine WX.then_normal ?_ | refine WC.skip ?_ | refine WC.exit ?_ | refine WC.ret ?_ | refine WX.then_exit ?_ | refine WX.then_ret ?_ | refine WX.block_normal ?_ | refine WX.block_ret ?_ | refine WX.block_same ?_ | refine WX.block_other rfl ?_ | refine WC.label ?_ | refine WC.scope ?_ | refine WX.scope_normal ?_ | refine WX.scope_ret ?_ | refine WX.scope_exit ?_ | refine WL.y rfl (Yld.add rfl rfl (by simp only [In]; omega)) ?_ | refine WL.y rfl (Yld.sub rfl rfl (by simp only [In]; omega)) ?_ | refine WL.y rfl (Yld.mul rfl rfl (by simp only [In]; omega)) ?_ | refine WL.y rfl (Yld.convB tab_ok rfl rfl rfl rfl) ?_ | refine WL.y rfl (Yld.conv tab_ok rfl rfl rfl (by simp only [In]; omega)) ?_ | refine WL.y rfl (Yld.quo rfl rfl (by omega) (by omega) (by simp only [In]; omega)) ?_ | refine WL.y rfl (Yld.rem rfl rfl (by omega) (by omega)) ?_ | refine WL.y rfl (Yld.shl rfl rfl (by omega)) ?_ | refine WL.y rfl (Yld.shr rfl rfl (by omega)) ?_ | refine WL.y rfl (Yld.pure tab_ok rfl) ?_ | refine WL.y rfl (Yld.fld flds_ok rfl rfl rfl) ?_ | refine WL.y rfl (Yld.max2 rfl rfl) ?_ | refine WL.y rfl (Yld.min2 rfl rfl) ?_ | refine WL.y rfl (Yld.pickV rfl rfl rfl) ?_ | refine WL.gno rfl rfl rfl rfl ?_ | refine WL.gyes rfl rfl rfl rfl (Yld.add rfl rfl (by simp only [In]; omega)) ?_ | refine WL.gyes rfl rfl rfl rfl (Yld.sub rfl rfl (by simp only [In]; omega)) ?_ | refine WL.gyes rfl rfl rfl rfl (Yld.mul rfl rfl (by simp only [In]; omega)) ?_ | refine WL.gyes rfl rfl rfl rfl (Yld.convB tab_ok rfl rfl rfl rfl) ?_ | refine WL.gyes rfl rfl rfl rfl (Yld.conv tab_ok rfl rfl rfl (by simp only [In]; omega)) ?_ | refine WL.gyes rfl rfl rfl rfl (Yld.quo rfl rfl (by omega) (by omega) (by simp only [In]; omega)) ?_ | refine WL.gyes rfl rfl rfl rfl (Yld.rem rfl rfl (by omega) (by omega)) ?_ | refine WL.gyes rfl rfl rfl rfl (Yld.shl rfl rfl (by omega)) ?_ | refine WL.gyes rfl rfl rfl rfl (Yld.shr rfl rfl (by omega)) ?_ | refine WL.gyes rfl rfl rfl rfl (Yld.pure tab_ok rfl) ?_ | refine WL.gyes rfl rfl rfl rfl (Yld.fld flds_ok rfl rfl rfl) ?_ | refine WL.gyes rfl rfl rfl rfl (Yld.max2 rfl rfl) ?_ | refine WL.gyes rfl rfl rfl rfl (Yld.min2 rfl rfl) ?_ | refine WL.gyes rfl rfl rfl rfl (Yld.pickV rfl rfl rfl) ?_)
    have hd : ((a : Nat) + 1000000000 - (k : Int) - (b : Nat)) % 1000000000 = (((a + 1000000000 - k - b) % 1000000000 : Nat) : Int) := by omega
    have hq : 1 - ((a : Nat) + 1000000000 - (k : Int) - (b : Nat)) / 1000000000 = ((1 - (a + 1000000000 - k - b) / 1000000000 : Nat) : Int) := by omega
    rw [hd]
    refine WL.lit (us := [vd ((a + 1000000000 - k - b) % 1000000000)]) tab_ok rfl rfl rfl (by intro u hu; rw [List.mem_singleton] at hu; rw [hu]; rfl) rfl (by omega) (fun g w3 hL3 hg3 hl3 => ?_)
    have hR3 : Rd vd w3 (some ⟨g, 0, none⟩) 1 [(a + 1000000000 - k - b) % 1000000000] := Rd.ofBl' hL3 (by simp) (by simp [maxLen])
    have hO3 := hO.grown hg3
    have hz2 := hg.size
    have hz3 := hg3.size
    refine WL.append tab_ok rfl rfl One.d hO3 rfl rfl hR3 rfl rfl (by simp only [List.length_cons, List.length_nil]; omega) (by simp only [maxLen, List.length_cons, List.length_nil]; omega) (by omega) (fun A4 c4 w4 hO4 hg4 hf4 => ?_)
    repeat (first | refine WC.seq ?_ | refine WC.block ?_ | refine WC.region ?_ | refine WL.nil ?_ | refine WX.then_normal ?_ | refine WC.skip ?_ | refine WC.exit ?_ | refine WC.ret ?_ | refine WX.then_exit ?_ | refine WX.then_ret ?_ | refine WX.block_normal ?_ | refine WX.block_ret ?_ | refine WX.block_same ?_ | refine WX.block_other rfl ?_ | refine WC.label ?_ | refine WC.scope ?_ | refine WX.scope_normal ?_ | refine WX.scope_ret ?_ | refine WX.scope_exit ?_ | refine WL.y rfl (Yld.add rfl rfl (by simp only [In]; omega)) ?_ | refine WL.y rfl (Yld.sub rfl rfl (by simp only [In]; omega)) ?_ | refine WL.y rfl (Yld.mul rfl rfl (by simp only [In]; omega)) ?_ | refine WL.y rfl (Yld.convB tab_ok rfl rfl rfl rfl) ?_ | refine WL.y rfl (Yld.conv tab_ok rfl rfl rfl (by simp only [In]; omega)) ?_ | refine WL.y rfl (Yld.quo rfl rfl (by omega) (by omega) (by simp only [In]; omega)) ?_ | refine WL.y rfl (Yld.rem rfl rfl (by omega) (by omega)) ?_ | refine WL.y rfl (Yld.shl rfl rfl (by omega)) ?_ | refine WL.y rfl (Yld.shr rfl rfl (by omega)) ?_ | refine WL.y rfl (Yld.pure tab_ok rfl) ?_ | refine WL.y rfl (Yld.fld flds_ok rfl rfl rfl) ?_ | refine WL.y rfl (Yld.max2 rfl rfl) ?_ | refine WL.y rfl (Yld.min2 rfl rfl) ?_ | refine WL.y rfl (Yld.pickV rfl rfl rfl) ?_ | refine WL.gno rfl rfl rfl rfl ?_ | refine WL.gyes rfl rfl rfl rfl (Yld.add rfl rfl (by simp only [In]; omega)) ?_ | refine WL.gyes rfl rfl rfl rfl (Yld.sub rfl rfl (by simp only [In]; omega)) ?_ | refine WL.gyes rfl rfl rfl rfl (Yld.mul rfl rfl (by simp only [In]; omega)) ?_ | refine WL.gyes rfl rfl rfl rfl (Yld.convB tab_ok rfl rfl rfl rfl) ?_ | refine WL.gyes rfl rfl rfl rfl (Yld.conv tab_ok rfl rfl rfl (by simp only [In]; omega)) ?_ | refine WL.gyes rfl rfl rfl rfl (Yld.quo rfl rfl (by omega) (by omega) (by simp only [In]; omega)) ?_ | refine WL.gyes rfl rfl rfl rfl (Yld.rem rfl rfl (by omega) (by omega)) ?_ | refine WL.gyes rfl rfl rfl rfl (Yld.shl rfl rfl (by omega)) ?_ | refine WL.gyes rfl rfl rfl rfl (Yld.shr rfl rfl (by omega)) ?_ | refine WL.gyes rfl rfl rfl rfl (Yld.pure tab_ok rfl) ?_ | refine WL.gyes rfl rfl rfl rfl (Yld.fld flds_ok rfl rfl rfl) ?_ | refine WL.gyes rfl rfl rfl rfl (Yld.max2 rfl rfl) ?_ | refine WL.gyes rfl rfl rfl rfl (Yld.min2 rfl rfl) ?_ | refine WL.gyes rfl rfl rfl rfl (Yld.pickV rfl rfl rfl) ?_)
    rw [hq]
    refine WX.round5 (i + 1) (o ++ [(a + 1000000000 - k - b) % 1000000000]) A4 c4 (1 - (a + 1000000000 - k - b) / 1000000000) ⟨by omega, by simp [hol], hDo.push (by omega), by omega, ?_, hO4, gr_own (gr_trans hg hg3) hO3 hg4 (Nat.le_refl _)⟩ (by omega) (by repeat (first | exact Sub.nil | refine Sub.cons rfl ?_))
    rw [val_push, hol, hv1, hv2, Nat.pow_succ]
    exact minus_step _ _ _ k a b _ _ _ (by omega) hv
  · simp only [decide_eq_false_iff_not] at h
    obtain rfl : i = la.length := by omega
    rw [List.take_of_length_le hlb, List.take_of_length_le (Nat.le_refl _)] at hv
    repeat (first | refine WC.seq ?_ | refine WC.block ?_ | refine WC.region ?_ | refine WL.nil ?_ | refine WX.then_normal ?_ | refine WC.skip ?_ | refine WC.exit ?_ | refine WC.ret ?_ | refine WX.then_exit ?_ | refine WX.then_ret ?_ | refine WX.block_normal ?_ | refine WX.block_ret ?_ | refine WX.block_same ?_ | refine WX.block_other rfl ?_ | refine WC.label ?_ | refine WC.scope ?_ | refine WX.scope_normal ?_ | refine WX.scope_ret ?_ | refine WX.scope_exit ?_ | refine WL.y rfl (Yld.add rfl rfl (by simp only [In]; omega)) ?_ | refine WL.y rfl (Yld.sub rfl rfl (by simp only [In]; omega)) ?_ | refine WL.y rfl (Yld.mul rfl rfl (by simp only [In]; omega)) ?_ | refine WL.y rfl (Yld.convB tab_ok rfl rfl rfl rfl) ?_ | refine WL.y rfl (Yld.conv tab_ok rfl rfl rfl (by simp only [In]; omega)) ?_ | refine WL.y rfl (Yld.quo rfl rfl (by omega) (by omega) (by simp only [In]; omega)) ?_ | refine WL.y rfl (Yld.rem rfl rfl (by omega) (by omega)) ?_ | refine WL.y rfl (Yld.shl rfl rfl (by omega)) ?_ | refine WL.y rfl (Yld.shr rfl rfl (by omega)) ?_ | refine WL.y rfl (Yld.pure tab_ok rfl) ?_ | refine WL.y rfl (Yld.fld flds_ok rfl rfl rfl) ?_ | refine WL.y rfl (Yld.max2 rfl rfl) ?_ | refine WL.y rfl (Yld.min2 rfl rfl) ?_ | refine WL.y rfl (Yld.pickV rfl rfl rfl) ?_ | refine WL.gno rfl rfl rfl rfl ?_ | refine WL.gyes rfl rfl rfl rfl (Yld.add rfl rfl (by simp only [In]; omega)) ?_ | refine WL.gyes rfl rfl rfl rfl (Yld.sub rfl rfl (by simp only [In]; omega)) ?_ | refine WL.gyes rfl rfl rfl rfl (Yld.mul rfl rfl (by simp only [In]; omega)) ?_ | refine WL.gyes rfl rfl rfl rfl (Yld.convB tab_ok rfl rfl rfl rfl) ?_ | refine WL.gyes rfl rfl rfl rfl (Yld.conv tab_ok rfl rfl rfl (by simp only [In]; omega)) ?_ | refine WL.gyes rfl rfl rfl rfl (Yld.quo rfl rfl (by omega) (by omega) (by simp only [In]; omega)) ?_ | refine WL.gyes rfl rfl rfl rfl (Yld.rem rfl rfl (by omega) (by omega)) ?_ | refine WL.gyes rfl rfl rfl rfl (Yld.shl rfl rfl (by omega)) ?_ | refine WL.gyes rfl rfl rfl rfl (Yld.shr rfl rfl (by omega)) ?_ | refine WL.gyes rfl rfl rfl rfl (Yld.pure tab_ok rfl) ?_ | refine WL.gyes rfl rfl rfl rfl (Yld.fld flds_ok rfl rfl rfl) ?_ | refine WL.gyes rfl rfl rfl rfl (Yld.max2 rfl rfl) ?_ | refine WL.gyes rfl rfl rfl rfl (Yld.min2 rfl rfl) ?_ | refine WL.gyes rfl rfl rfl rfl (Yld.pickV rfl rfl rfl) ?_)
    have hk0 : k = 0 := by
      have h1 := val_lt' hDo
      rw [hol] at h1
      rcases Nat.lt_or_ge k 1 with h5 | h5
      · omega
      · have : 1 * 1000000000 ^ la.length ≤ k * 1000000000 ^ la.length := Nat.mul_le_mul_right _ h5
        omega
    subst hk0
    refine WX.ret1 rfl rfl ⟨A', c', o, rfl, hO.rd, hDo, by omega, hol, hg⟩
theorem sign_fn (n : Int) (w : World) : Fn Tryd.prog 74 ⟨[vi n]⟩ w fun v w' => v = vi (if n < 0 then -1 else if 0 < n then 1 else 0) ∧ w' = w := by
  refine Fn.enter (by kernel_rfl) Tryd.func74 rfl Tryd.ntmps74 rfl ?_
  repeat (first | refine WC.seq ?_ | refine WC.block ?_ | refine WC.region ?_ | refine WL.nil ?_ | refine WX.then_normal ?_ | refine WC.skip ?_ | refine WC.exit ?_ | refine WC.ret ?_ | refine WX.then_exit ?_ | refine WX.then_ret ?_ | refine WX.block_normal ?_ | refine WX.block_ret ?_ | refine WX.block_same ?_ | refine WX.block_other rfl ?_ | refine WC.label ?_ | refine WC.scope ?_ | refine WX.scope_normal ?_ | refine WX.scope_ret ?_ | refine WX.scope_exit ?_ | refine WL.y rfl (Yld.add rfl rfl (by simp only [In]; omega)) ?_ | refine WL.y rfl (Yld.sub rfl rfl (by simp only [In]; omega)) ?_ | refine WL.y rfl (Yld.mul rfl rfl (by simp only [In]; omega)) ?_ | refine WL.y rfl (Yld.convB tab_ok rfl rfl rfl rfl) ?_ | refine WL.y rfl (Yld.conv tab_ok rfl rfl rfl (by simp only [In]; omega)) ?_ | refine WL.y rfl (Yld.quo rfl rfl (by omega) (by omega) (by simp only [In]; omega)) ?_ | refine WL.y rfl (Yld.rem rfl rfl (by omega) (by omega)) ?_ | refine WL.y rfl (Yld.shl rfl rfl (by omega)) ?_ | refine WL.y rfl (Yld.shr rfl rfl (by omega)) ?_ | refine WL.y rfl (Yld.pure tab_ok rfl) ?_ | refine WL.y rfl (Yld.fld flds_ok rfl rfl rfl) ?_ | refine WL.y rfl (Yld.max2 rfl rfl) ?_ | refine WL.y rfl (Yld.min2 rfl rfl) ?_ | refine WL.y rfl (Yld.pickV rfl rfl rfl) ?_ | refine WL.gno rfl rfl rfl rfl ?_ | refine WL.gyes rfl rfl rfl rfl (Yld.add rfl rfl (by simp only [In]; omega)) ?_ | refine WL.gyes rfl rfl rfl rfl (Yld.sub rfl rfl (by simp only [In]; omega)) ?_ | refine WL.gyes rfl rfl rfl rfl (Yld.mul rfl rfl (by simp only [In]; omega)) ?_ | refine WL.gyes rfl rfl rfl rfl (Yld.convB tab_ok rfl rfl rfl rfl) ?_ | refine WL.gyes rfl rfl rfl rfl (Yld.conv tab_ok rfl rfl rfl (by simp only [In]; omega)) ?_ | refine WL.gyes rfl rfl rfl rfl (Yld.quo rfl rfl (by omega) (by omega) (by simp only [In]; omega)) ?_ | refine WL.gyes rfl rfl rfl rfl (Yld.rem rfl rfl (by omega) (by omega)) ?_ | refine WL.gyes rfl rfl rfl rfl (Yld.shl rfl rfl (by omega)) ?_ | refine WL.gyes rfl rfl rfl rfl (Yld.shr rfl rfl (by omega)) ?_ | refine WL.gyes rfl rfl rfl rfl (Yld.pure tab_ok rfl) ?_ | refine WL.gyes rfl rfl rfl rfl (Yld.fld flds_ok rfl rfl rfl) ?_ | refine WL.gyes rfl rfl rfl rfl (Yld.max2 rfl rfl) ?_ | refine WL.gyes rfl rfl rfl rfl (Yld.min2 rfl rfl) ?_ | refine WL.gyes rfl rfl rfl rfl (Yld.pickV rfl rfl rfl) ?_)
  refine WC.cond rfl (fun h => ?_) (fun h => ?_)
  · simp only [decide_eq_true_eq] at h
    repeat (first | refine WC.seq ?_ | refine WC.block ?_ | refine WC.region ?_ | refine WL.nil ?_ | refine WX.then_normal ?_ | refine WC.skip ?_ | refine WC.exit ?_ | refine WC.ret ?_ | refine WX.then_exit ?_ | refine WX.then_ret ?_ | refine WX.block_normal ?_ | refine WX.block_ret ?_ | refine WX.block_same ?_ | refine WX.block_other rfl ?_ | refine WC.label ?_ | refine WC.scope ?_ | refine WX.scope_normal ?_ | refine WX.scope_ret ?_ | refine WX.scope_exit ?_ | refine WL.y rfl (Yld.add rfl rfl (by simp only [In]; omega)) ?_ | refine WL.y rfl (Yld.sub rfl rfl (by simp only [In]; omega)) ?_ | refine WL.y rfl (Yld.mul rfl rfl (by simp only [In]; omega)) ?_ | refine WL.y rfl (Yld.convB tab_ok rfl rfl rfl rfl) ?_ | refine WL.y rfl (Yld.conv tab_ok rfl rfl rfl (by simp only [In]; omega)) ?_ | refine WL.y rfl (Yld.quo rfl rfl (by omega) (by omega) (by simp only [In]; omega)) ?_ | refine WL.y rfl (Yld.rem rfl rfl (by omega) (by omega)) ?_ | refine WL.y rfl (Yld.shl rfl rfl (by omega)) ?_ | refine WL.y rfl (Yld.shr rfl rfl (by omega)) ?_ | refine WL.y rfl (Yld.pure tab_ok rfl) ?_ | refine WL.y rfl (Yld.fld flds_ok rfl rfl rfl) ?_ | refine WL.y rfl (Yld.max2 rfl rfl) ?_ | refine WL.y rfl (Yld.min2 rfl rfl) ?_ | refine WL.y rfl (Yld.pickV rfl rfl rfl) ?_ | refine WL.gno rfl rfl rfl rfl ?_ | refine WL.gyes rfl rfl rfl rfl (Yld.add rfl rfl (by simp only [In]; omega)) ?_ | refine WL.gyes rfl rfl rfl rfl (Yld.sub rfl rfl (by simp only [In]; omega)) ?_ | refine WL.gyes rfl rfl rfl rfl (Yld.mul rfl rfl (by simp only [In]; omega)) ?_ | refine WL.gyes rfl rfl rfl rfl (Yld.convB tab_ok rfl rfl rfl rfl) ?_ | refine WL.gyes rfl rfl rfl rfl (Yld.conv tab_ok rfl rfl rfl (by simp only [In]; omega)) ?_ | refine WL.gyes rfl rfl rfl rfl (Yld.quo rfl rfl (by omega) (by omega) (by simp only [In]; omega)) ?_ | refine WL.gyes rfl rfl rfl rfl (Yld.rem rfl rfl (by omega) (by omega)) ?_ | refine WL.gyes rfl rfl rfl rfl (Yld.shl rfl rfl (by omega)) ?_ | refine WL.gyes rfl rfl rfl rfl (Yld.shr rfl rfl (by omega)) ?_ | refine WL.gyes rfl rfl rfl rfl (Yld.pure tab_ok rfl) ?_ | refine WL.gyes rfl rfl rfl rfl (Yld.fld flds_ok rfl rfl rfl) ?_ | refine WL.gyes rfl rfl rfl rfl (Yld.max2 rfl rfl) ?_ | refine WL.gyes rfl rfl rfl rfl (Yld.min2 rfl rfl) ?_ | refine WL.gyes rfl rfl rfl rfl (Yld.pickV rfl rfl rfl) ?_)
    exact WX.ret1 rfl rfl ⟨by rw [if_pos h]; rfl, rfl⟩
  · simp only [decide_eq_false_iff_not] at h
    repeat (first | refine WC.seq ?_ | refine WC.block ?_ | refine WC.region ?_ | refine WL.nil ?_ | refine WX.then_normal ?_ | refine WC.skip ?_ | refine WC.exit ?_ | refine WC.ret ?_ | refine WX.then_exit ?_ | refine WX.then_ret ?_ | refine WX.block_normal ?_ | refine WX.block_ret ?_ | refine WX.block_same ?_ | refine WX.block_other rfl ?_ | refine WC.label ?_ | refine WC.scope ?_ | refine WX.scope_normal ?_ | refine WX.scope_ret ?_ | refine WX.scope_exit ?_ | refine WL.y rfl (Yld.add rfl rfl (by simp only [In]; omega)) ?_ | refine WL.y rfl (Yld.sub rfl rfl (by simp only [In]; omega)) ?_ | refine WL.y rfl (Yld.mul rfl rfl (by simp only [In]; omega)) ?_ | refine WL.y rfl (Yld.convB tab_ok rfl rfl rfl rfl) ?_ | refine WL.y rfl (Yld.conv tab_ok rfl rfl rfl (by simp only [In]; omega)) ?_ | refine WL.y rfl (Yld.quo rfl rfl (by omega) (by omega) (by simp only [In]; omega)) ?_ | refine WL.y rfl (Yld.rem rfl rfl (by omega) (by omega)) ?_ | refine WL.y rfl (Yld.shl rfl rfl (by omega)) ?_ | refine WL.y rfl (Yld.shr rfl rfl (by omega)) ?_ | refine WL.y rfl (Yld.pure tab_ok rfl) ?_ | refine WL.y rfl (Yld.fld flds_ok rfl rfl rfl) ?_ | refine WL.y rfl (Yld.max2 rfl rfl) ?_ | refine WL.y rfl (Yld.min2 rfl rfl) ?_ | refine WL.y rfl (Yld.pickV rfl rfl rfl) ?_ | refine WL.gno rfl rfl rfl rfl ?_ | refine WL.gyes rfl rfl rfl rfl (Yld.add rfl rfl (by simp only [In]; omega)) ?_ | refine WL.gyes rfl rfl rfl rfl (Yld.sub rfl rfl (by simp only [In]; omega)) ?_ | refine WL.gyes rfl rfl rfl rfl (Yld.mul rfl rfl (by simp only [In]; omega)) ?_ | refine WL.gyes rfl rfl rfl rfl (Yld.convB tab_ok rfl rfl rfl rfl) ?_ | refine WL.gyes rfl rfl rfl rfl (Yld.conv tab_ok rfl rfl rfl (by simp only [In]; omega)) ?_ | refine WL.gyes rfl rfl rfl rfl (Yld.quo rfl rfl (by omega) (by omega) (by simp only [In]; omega)) ?_ | refine WL.gyes rfl rfl rfl rfl (Yld.rem rfl rfl (by omega) (by omega)) ?_ | refine WL.gyes rfl rfl rfl rfl (Yld.shl rfl rfl (by omega)) ?_ | refine WL.gyes rfl rfl rfl rfl (Yld.shr rfl rfl (by omega)) ?_ | refine WL.gyes rfl rfl rfl rfl (Yld.pure tab_ok rfl) ?_ | refine WL.gyes rfl rfl rfl rfl (Yld.fld flds_ok rfl rfl rfl) ?_ | refine WL.gyes rfl rfl rfl rfl (Yld.max2 rfl rfl) ?_ | refine WL.gyes rfl rfl rfl rfl (Yld.min2 rfl rfl) ?_ | refine WL.gyes rfl rfl rfl rfl (Yld.pickV rfl rfl rfl) ?_)
    refine WC.cond rfl (fun h2 => ?_) (fun h2 => ?_)
    · simp only [decide_eq_true_eq] at h2
      repeat (first | refine WC.seq ?_ | refine WC.block ?_ | refine WC.region ?_ | refine WL.nil ?_ | refine WX.then_normal ?_ | refine WC.skip ?_ | refine WC.exit ?_ | refine WC.ret ?_ | refine WX.then_exit ?_ | refine WX.then_ret ?_ | refine WX.block_normal ?_ | refine WX.block_ret ?_ | refine WX.block_same ?_ | refine WX.block_other rfl ?_ | refine WC.label ?_ | refine WC.scope ?_ | refine WX.scope_normal ?_ | refine WX.scope_ret ?_ | refine WX.scope_exit ?_ | refine WL.y rfl (Yld.add rfl rfl (by simp only [In]; omega)) ?_ | refine WL.y rfl (Yld.sub rfl rfl (by simp only [In]; omega)) ?_ | refine WL.y rfl (Yld.mul rfl rfl (by simp only [In]; omega)) ?_ | refine WL.y rfl (Yld.convB tab_ok rfl rfl rfl rfl) ?_ | refine WL.y rfl (Yld.conv tab_ok rfl rfl rfl (by simp only [In]; omega)) ?_ | refine WL.y rfl (Yld.quo rfl rfl (by omega) (by omega) (by simp only [In]; omega)) ?_ | refine WL.y rfl (Yld.rem rfl rfl (by omega) (by omega)) ?_ | refine WL.y rfl (Yld.shl rfl rfl (by omega)) ?_ | refine WL.y rfl (Yld.shr rfl rfl (by omega)) ?_ | refine WL.y rfl (Yld.pure tab_ok rfl) ?_ | refine WL.y rfl (Yld.fld flds_ok rfl rfl rfl) ?_ | refine WL.y rfl (Yld.max2 rfl rfl) ?_ | refine WL.y rfl (Yld.min2 rfl rfl) ?_ | refine WL.y rfl (Yld.pickV rfl rfl rfl) ?_ | refine WL.gno rfl rfl rfl rfl ?_ | refine WL.gyes rfl rfl rfl rfl (Yld.add rfl rfl (by simp only [In]; omega)) ?_ | refine WL.gyes rfl rfl rfl rfl (Yld.sub rfl rfl (by simp only [In]; omega)) ?_ | refine WL.gyes rfl rfl rfl rfl (Yld.mul rfl rfl (by simp only [In]; omega)) ?_ | refine WL.gyes rfl rfl rfl rfl (Yld.convB tab_ok rfl rfl rfl rfl) ?_ | refine WL.gyes rfl rfl rfl rfl (Yld.conv tab_ok rfl rfl rfl (by simp only [In]; omega)) ?_ | refine WL.gyes rfl rfl rfl rfl (Yld.quo rfl rfl (by omega) (by omega) (by simp only [In]; omega)) ?_ | refine WL.gyes rfl rfl rfl rfl (Yld.rem rfl rfl (by omega) (by omega)) ?_ | refine WL.gyes rfl rfl rfl rfl (Yld.shl rfl rfl (by omega)) ?_ | refine WL.gyes rfl rfl rfl rfl (Yld.shr rfl rfl (by omega)) ?_ | refine WL.gyes rfl rfl rfl rfl (Yld.pure tab_ok rfl) ?_ | refine WL.gyes rfl rfl rfl rfl (Yld.fld flds_ok rfl rfl rfl) ?_ | refine WL.gyes rfl rfl rfl rfl (Yld.max2 rfl rfl) ?_ | refine WL.gyes rfl rfl rfl rfl (Yld.min2 rfl rfl) ?_ | refine WL.gyes rfl rfl rfl rfl (Yld.pickV rfl rfl rfl) ?_)
      exact WX.ret1 rfl rfl ⟨by rw [if_neg h, if_pos h2]; rfl, rfl⟩
    · simp only [decide_eq_false_iff_not] at h2
      repeat (first | refine WC.seq ?_ | refine WC.block ?_ | refine WC.region ?_ | refine WL.nil ?_ | refine WX.then_normal ?_ | refine WC.skip ?_ | refine WC.exit ?_ | refine WC.ret ?_ | refine WX.then_exit ?_ | refine WX.then_ret ?_ | refine WX.block_normal ?_ | refine WX.block_ret ?_ | refine WX.block_same ?_ | refine WX.block_other rfl ?_ | refine WC.label ?_ | refine WC.scope ?_ | refine WX.scope_normal ?_ | refine WX.scope_ret ?_ | refine WX.scope_exit ?_ | refine WL.y rfl (Yld.add rfl rfl (by simp only [In]; omega)) ?_ | refine WL.y rfl (Yld.sub rfl rfl (by simp only [In]; omega)) ?_ | refine WL.y rfl (Yld.mul rfl rfl (by simp only [In]; omega)) ?_ | refine WL.y rfl (Yld.convB tab_ok rfl rfl rfl rfl) ?_ | refine WL.y rfl (Yld.conv tab_ok rfl rfl rfl (by simp only [In]; omega)) ?_ | refine WL.y rfl (Yld.quo rfl rfl (by omega) (by omega) (by simp only [In]; omega)) ?_ | refine WL.y rfl (Yld.rem rfl rfl (by omega) (by omega)) ?_ | refine WL.y rfl (Yld.shl rfl rfl (by omega)) ?_ | refine WL.y rfl (Yld.shr rfl rfl (by omega)) ?_ | refine WL.y rfl (Yld.pure tab_ok rfl) ?_ | refine WL.y rfl (Yld.fld flds_ok rfl rfl rfl) ?_ | refine WL.y rfl (Yld.max2 rfl rfl) ?_ | refine WL.y rfl (Yld.min2 rfl rfl) ?_ | refine WL.y rfl (Yld.pickV rfl rfl rfl) ?_ | refine WL.gno rfl rfl rfl rfl ?_ | refine WL.gyes rfl rfl rfl rfl (Yld.add rfl rfl (by simp only [In]; omega)) ?_ | refine WL.gyes rfl rfl rfl rfl (Yld.sub rfl rfl (by simp only [In]; omega)) ?_ | refine WL.gyes rfl rfl rfl rfl (Yld.mul rfl rfl (by simp only [In]; omega)) ?_ | refine WL.gyes rfl rfl rfl rfl (Yld.convB tab_ok rfl rfl rfl rfl) ?_ | refine WL.gyes rfl rfl rfl rfl (Yld.conv tab_ok rfl rfl rfl (by simp only [In]; omega)) ?_ | refine WL.gyes rfl rfl rfl rfl (Yld.quo rfl rfl (by omega) (by omega) (by simp only [In]; omega)) ?_ | refine WL.gyes rfl rfl rfl rfl (Yld.rem rfl rfl (by omega) (by omega)) ?_ | refine WL.gyes rfl rfl rfl rfl (Yld.shl rfl rfl (by omega)) ?_ | refine WL.gyes rfl rfl rfl rfl (Yld.shr rfl rfl (by omega)) ?_ | refine WL.gyes rfl rfl rfl rfl (Yld.pure tab_ok rfl) ?_ | refine WL.gyes rfl rfl rfl rfl (Yld.fld flds_ok rfl rfl rfl) ?_ | refine WL.gyes rfl rfl rfl rfl (Yld.max2 rfl rfl) ?_ | refine WL.gyes rfl rfl rfl rfl (Yld.min2 rfl rfl) ?_ | refine WL.gyes rfl rfl rfl rfl (Yld.pickV rfl rfl rfl) ?_)
      exact WX.ret1 rfl rfl ⟨by rw [if_neg h, if_neg h2]; rfl, rfl⟩
end Go.Proofs.YtilphcippnfklaaDoor
 namespace Go.Proofs.YtilphcippnfklaaDoor
open Go Go.RowKit
attribute [local irreducible] WL WC WX WQ Yld Eff Fn
/-- n tells which of two is less -/
def Tells (n : Int) (x y : Nat) : Prop := (n < 0 ∧ x < y) ∨ (n = 0 ∧ x = y) ∨ (0 < n ∧ y < x)
theorem val_lt_len {la lb : List Nat} (hDa : Dg la) (hCb : Can lb) (h : la.length < lb.length) : val la < val lb := by
  have h1 := val_lt' hDa
  have h2 := val_ge hCb (by intro e; subst e; simp at h)
  have h3 : 1000000000 ^ la.length ≤ 1000000000 ^ (lb.length - 1) := Nat.pow_le_pow_right (by omega) (by omega)
  omega
theorem take_less {la lb : List Nat} (hDa : Dg la) (j : Nat) (h : la.getD j 0 < lb.getD j 0) : val (la.take (j + 1)) < val (lb.take (j + 1)) := by
  have h1 := val_lt hDa j
  rw [val_take, val_take]
  generalize 1000000000 ^ j = p at *
  generalize la.getD j 0 = a at *
  generalize lb.getD j 0 = b at *
  have : p * (a + 1) ≤ p * b := Nat.mul_le_mul_left _ h
  rw [Nat.mul_add] at this
  omega
theorem cmp_fn (A : Option Addr) (c : Nat) (la : List Nat) (B : Option Addr) (cb : Nat) (lb : List Nat) (w : World) (hA : Rd vd w A c la) (hB : Rd vd w B cb lb) (hDa : Dg la) (hDb : Dg lb) (hCa : Can la) (hCb : Can lb) (hla : la.length ≤ 1000000) (hlb : lb.length ≤ 1000000) :
    Fn Tryd.prog 71 ⟨[.slice A la.length c, .slice B lb.length cb]⟩ w fun v w' => (∃ n, v = vi n ∧ Tells n (val la) (val lb)) ∧ w' = w := by
  refine Fn.enter (by kernel_rfl) Tryd.func71 rfl Tryd.ntmps71 rfl ?_
  repeat (first | refine WC.seq ?_ | refine WC.block ?_ | refine WC.region ?_ | refine WL.nil ?_ | refine WX.then_normal ?_ | refine WC.skip ?_ | refine WC.exit ?_ | refine WC.ret ?_ | refine WX.then_exit ?_ | refine WX.then_ret ?_ | refine WX.block_normal ?_ | refine WX.block_ret ?_ | refine WX.block_same ?_ | refine WX.block_other rfl ?_ | refine WC.label ?_ | refine WC.scope ?_ | refine WX.scope_normal ?_ | refine WX.scope_ret ?_ | refine WX.scope_exit ?_ | refine WL.y rfl (Yld.add rfl rfl (by simp only [In]; omega)) ?_ | refine WL.y rfl (Yld.sub rfl rfl (by simp only [In]; omega)) ?_ | refine WL.y rfl (Yld.mul rfl rfl (by simp only [In]; omega)) ?_ | refine WL.y rfl (Yld.convB tab_ok rfl rfl rfl rfl) ?_ | refine WL.y rfl (Yld.conv tab_ok rfl rfl rfl (by simp only [In]; omega)) ?_ | refine WL.y rfl (Yld.quo rfl rfl (by omega) (by omega) (by simp only [In]; omega)) ?_ | refine WL.y rfl (Yld.rem rfl rfl (by omega) (by omega)) ?_ | refine WL.y rfl (Yld.shl rfl rfl (by omega)) ?_ | refine WL.y rfl (Yld.shr rfl rfl (by omega)) ?_ | refine WL.y rfl (Yld.pure tab_ok rfl) ?_ | refine WL.y rfl (Yld.fld flds_ok rfl rfl rfl) ?_ | refine WL.y rfl (Yld.max2 rfl rfl) ?_ | refine WL.y rfl (Yld.min2 rfl rfl) ?_ | refine WL.y rfl (Yld.pickV rfl rfl rfl) ?_ | refine WL.gno rfl rfl rfl rfl ?_ | refine WL.gyes rfl rfl rfl rfl (Yld.add rfl rfl (by simp only [In]; omega)) ?_ | refine WL.gyes rfl rfl rfl rfl (Yld.sub rfl rfl (by simp only [In]; omega)) ?_ | refine WL.gyes rfl rfl rfl rfl (Yld.mul rfl rfl (by simp only [In]; omega)) ?_ | refine WL.gyes rfl rfl rfl rfl (Yld.convB tab_ok rfl rfl rfl rfl) ?_ | refine WL.gyes rfl rfl rfl rfl (Yld.conv tab_ok rfl rfl rfl (by simp only [In]; omega)) ?_ | refine WL.gyes rfl rfl rfl rfl (Yld.quo rfl rfl (by omega) (by omega) (by simp only [In]; omega)) ?_ | refine WL.gyes rfl rfl rfl rfl (Yld.rem rfl rfl (by omega) (by omega)) ?_ | refine WL.gyes rfl rfl rfl rfl (Yld.shl rfl rfl (by omega)) ?_ | refine WL.gyes rfl rfl rfl rfl (Yld.shr rfl rfl (by omega)) ?_ | refine WL.gyes rfl rfl rfl rfl (Yld.pure tab_ok rfl) ?_ | refine WL.gyes rfl rfl rfl rfl (Yld.fld flds_ok rfl rfl rfl) ?_ | refine WL.gyes rfl rfl rfl rfl (Yld.max2 rfl rfl) ?_ | refine WL.gyes rfl rfl rfl rfl (Yld.min2 rfl rfl) ?_ | refine WL.gyes rfl rfl rfl rfl (Yld.pickV rfl rfl rfl) ?_)
  refine WC.cond rfl (fun h => ?_) (fun h => ?_)
  · simp only [Bool.not_eq_true', decide_eq_false_iff_not] at h
    repeat (first | refine WC.seq ?_ | refine WC.block ?_ | refine WC.region ?_ | refine WL.nil ?_ | refine WX.then_normal ?_ | refine WC.skip ?_ | refine WC.exit ?_ | refine WC.ret ?_ | refine WX.then_exit ?_ | refine WX.then_ret ?_ | refine WX.block_normal ?_ | refine WX.block_ret ?_ | refine WX.block_same ?_ | refine WX.block_other rfl ?_ | refine WC.label ?_ | refine WC.scope ?_ | refine WX.scope_normal ?_ | refine WX.scope_ret ?_ | refine WX.scope_exit ?_ | refine WL.y rfl (Yld.add rfl rfl (by simp only [In]; omega)) ?_ | refine WL.y rfl (Yld.sub rfl rfl (by simp only [In]; omega)) ?_ | refine WL.y rfl (Yld.mul rfl rfl (by simp only [In]; omega)) ?_ | refine WL.y rfl (Yld.convB tab_ok rfl rfl rfl rfl) ?_ | refine WL.y rfl (Yld.conv tab_ok rfl rfl rfl (by simp only [In]; omega)) ?_ | refine WL.y rfl (Yld.quo rfl rfl (by omega) (by omega) (by simp only [In]; omega)) ?_ | refine WL.y rfl (Yld.rem rfl rfl (by omega) (by omega)) ?_ | refine WL.y rfl (Yld.shl rfl rfl (by omega)) ?_ | refine WL.y rfl (Yld.shr rfl rfl (by omega)) ?_ | refine WL.y rfl (Yld.pure tab_ok rfl) ?_ | refine WL.y rfl (Yld.fld flds_ok rfl rfl rfl) ?_ | refine WL.y rfl (Yld.max2 rfl rfl) ?_ | refine WL.y rfl (Yld.min2 rfl rfl) ?_ | refine WL.y rfl (Yld.pickV rfl rfl rfl) ?_ | refine WL.gno rfl rfl rfl rfl ?_ | refine WL.gyes rfl rfl rfl rfl (Yld.add rfl rfl (by simp only [In]; omega)) ?_ | refine WL.gyes rfl rfl rfl rfl (Yld.sub rfl rfl (by simp only [In]; omega)) ?_ | refine WL.gyes rfl rfl rfl rfl (Yld.mul rfl rfl (by simp only [In]; omega)) ?_ | refine WL.gyes rfl rfl rfl rfl (Yld.convB tab_ok rfl rfl rfl rfl) ?_ | refine WL.gyes rfl rfl rfl rfl (Yld.conv tab_ok rfl rfl rfl (by simp only [In]; omega)) ?_ | refine WL.gyes rfl rfl rfl rfl (Yld.quo rfl rfl (by omega) (by omega) (by simp only [In]; omega)) ?_ | refine WL.gyes rfl rfl rfl rfl (Yld.rem rfl rfl (by omega) (by omega)) ?_ | refine WL.gyes rfl rfl rfl rfl (Yld.shl rfl rfl (by omega)) ?_ | refine WL.gyes rfl rfl rfl rfl (Yld.shr rfl rfl (by omega)) ?_ | refine WL.gyes rfl rfl rfl rfl (Yld.pure tab_ok rfl) ?_ | refine WL.gyes rfl rfl rfl rfl (Yld.fld flds_ok rfl rfl rfl) ?_ | refine WL.gyes rfl rfl rfl rfl (Yld.max2 rfl rfl) ?_ | refine WL.gyes rfl rfl rfl rfl (Yld.min2 rfl rfl) ?_ | refine WL.gyes rfl rfl rfl rfl (Yld.pickV rfl rfl rfl) ?_)
    refine WX.ret1 rfl rfl ⟨⟨_, rfl, ?_⟩, rfl⟩
    rcases Nat.lt_or_ge la.length lb.length with h1 | h1
    · exact .inl ⟨by omega, val_lt_len hDa hCb h1⟩
    · exact .inr (.inr ⟨by omega, val_lt_len hDb hCa (by omega)⟩)
  simp only [Bool.not_eq_false', decide_eq_true_eq] at h
  have hll : la.length = lb.length := by omega
  repeat (first | refine WC.seq ?_ | refine WC.block ?_ | refine WC.region ?_ | refine WL.nil ?_ | refine WX.then_normal ?_ | refine WC.skip ?_ | refine WC.exit ?_ | refine WC.ret ?_ | refine WX.then_exit ?_ | refine WX.then_ret ?_ | refine WX.block_normal ?_ | refine WX.block_ret ?_ | refine WX.block_same ?_ | refine WX.block_other rfl ?_ | refine WC.label ?_ | refine WC.scope ?_ | refine WX.scope_normal ?_ | refine WX.scope_ret ?_ | refine WX.scope_exit ?_ | refine WL.y rfl (Yld.add rfl rfl (by simp only [In]; omega)) ?_ | refine WL.y rfl (Yld.sub rfl rfl (by simp only [In]; omega)) ?_ | refine WL.y rfl (Yld.mul rfl rfl (by simp only [In]; omega)) ?_ | refine WL.y rfl (Yld.convB tab_ok rfl rfl rfl rfl) ?_ | refine WL.y rfl (Yld.conv tab_ok rfl rfl rfl (by simp only [In]; omega)) ?_ | refine WL.y rfl (Yld.quo rfl rfl (by omega) (by omega) (by simp only [In]; omega)) ?_ | refine WL.y rfl (Yld.rem rfl rfl (by omega) (by omega)) ?_ | refine WL.y rfl (Yld.shl rfl rfl (by omega)) ?_ | refine WL.y rfl (Yld.shr rfl rfl (by omega)) ?_ | refine WL.y rfl (Yld.pure tab_ok rfl) ?_ | refine WL.y rfl (Yld.fld flds_ok rfl rfl rfl) ?_ | refine WL.y rfl (Yld.max2 rfl rfl) ?_ | refine WL.y rfl (Yld.min2 rfl rfl) ?_ | refine WL.y rfl (Yld.pickV rfl rfl rfl) ?_ | refine WL.gno rfl rfl rfl rfl ?_ | refine WL.gyes rfl rfl rfl rfl (Yld.add rfl rfl (by simp only [In]; omega)) ?_ | refine WL.gyes rfl rfl rfl rfl (Yld.sub rfl rfl (by simp only [In]; omega)) ?_ | refine WL.gyes rfl rfl rfl rfl (Yld.mul rfl rfl (by simp only [In]; omega)) ?_ | refine WL.gyes rfl rfl rfl rfl (Yld.convB tab_ok rfl rfl rfl rfl) ?_ | refine WL.gyes rfl rfl rfl rfl (Yld.conv tab_ok rfl rfl rfl (by simp only [In]; omega)) ?_ | refine WL.gyes rfl rfl rfl rfl (Yld.quo rfl rfl (by omega) (by omega) (by simp only [In]; omega)) ?_ | refine WL.gyes rfl rfl rfl rfl (Yld.rem rfl rfl (by omega) (by omega)) ?_ | refine WL.gyes rfl rfl rfl rfl (Yld.shl rfl rfl (by omega)) ?_ | refine WL.gyes rfl rfl rfl rfl (Yld.shr rfl rfl (by omega)) ?_ | refine WL.gyes rfl rfl rfl rfl (Yld.pure tab_ok rfl) ?_ | refine WL.gyes rfl rfl rfl rfl (Yld.fld flds_ok rfl rfl rfl) ?_ | refine WL.gyes rfl rfl rfl rfl (Yld.max2 rfl rfl) ?_ | refine WL.gyes rfl rfl rfl rfl (Yld.min2 rfl rfl) ?_ | refine WL.gyes rfl rfl rfl rfl (Yld.pickV rfl rfl rfl) ?_)
  refine WC.loop (S := Nat) (fun j => j) (fun j => [(5, .int .i64 ((j : Int) - 1)), (0, .slice A la.length c), (1, .slice B lb.length cb)])
    (fun j w2 => j ≤ la.length ∧ val la + val (lb.take j) = val lb + val (la.take j) ∧ w2 = w) la.length ⟨by omega, by rw [List.take_of_length_le (Nat.le_refl _), List.take_of_length_le (by omega)]; omega, rfl⟩ (by repeat (first | exact Sub.nil | refine Sub.cons rfl ?_)) (fun j w2 ⟨hj, hv, hw2⟩ => ?_)
  subst hw2
  repeat (first | refine WC.seq ?_ | refine WC.block ?_ | refine WC.region ?_ | refine WL.nil ?_ | refine WX.then_normal ?_ | refine WC.skip ?_ | refine WC.exit ?_ | refine WC.ret ?_ | refine WX.then_exit ?_ | refine WX.then_ret ?_ | refine WX.block_normal ?_ | refine WX.block_ret ?_ | refine WX.block_same ?_ | refine WX.block_other rfl ?_ | refine WC.label ?_ | refine WC.scope ?_ | refine WX.scope_normal ?_ | refine WX.scope_ret ?_ | refine WX.scope_exit ?_ | refine WL.y rfl (Yld.add rfl rfl (by simp only [In]; omega)) ?_ | refine WL.y rfl (Yld.sub rfl rfl (by simp only [In]; omega)) ?_ | refine WL.y rfl (Yld.mul rfl rfl (by simp only [In]; omega)) ?_ | refine WL.y rfl (Yld.convB tab_ok rfl rfl rfl rfl) ?_ | refine WL.y rfl (Yld.conv tab_ok rfl rfl rfl (by simp only [In]; omega)) ?_ | refine WL.y rfl (Yld.quo rfl rfl (by omega) (by omega) (by simp only [In]; omega)) ?_ | refine WL.y rfl (Yld.rem rfl rfl (by omega) (by omega)) ?_ | refine WL.y rfl (Yld.shl rfl rfl (by omega)) ?_ | refine WL.y rfl (Yld.shr rfl rfl (by omega)) ?_ | refine WL.y rfl (Yld.pure tab_ok rfl) ?_ | refine WL.y rfl (Yld.fld flds_ok rfl rfl rfl) ?_ | refine WL.y rfl (Yld.max2 rfl rfl) ?_ | refine WL.y rfl (Yld.min2 rfl rfl) ?_ | refine WL.y rfl (Yld.pickV rfl rfl rfl) ?_ | refine WL.gno rfl rfl rfl rfl ?_ | refine WL.gyes rfl rfl rfl rfl (Yld.add rfl rfl (by simp only [In]; omega)) ?_ | refine WL.gyes rfl rfl rfl rfl (Yld.sub rfl rfl (by simp only [In]; omega)) ?_ | refine WL.gyes rfl rfl rfl rfl (Yld.mul rfl rfl (by simp only [In]; omega)) ?_ | refine WL.gyes rfl rfl rfl rfl (Yld.convB tab_ok rfl rfl rfl rfl) ?_ | refine WL.gyes rfl rfl rfl rfl (Yld.conv tab_ok rfl rfl rfl (by simp only [In]; omega)) ?_ | refine WL.gyes rfl rfl rfl rfl (Yld.quo rfl rfl (by omega) (by omega) (by simp only [In]; omega)) ?_ | refine WL.gyes rfl rfl rfl rfl (Yld.rem rfl rfl (by omega) (by omega)) ?_ | refine WL.gyes rfl rfl rfl rfl (Yld.shl rfl rfl (by omega)) ?_ | refine WL.gyes rfl rfl rfl rfl (Yld.shr rfl rfl (by omega)) ?_ | refine WL.gyes rfl rfl rfl rfl (Yld.pure tab_ok rfl) ?_ | refine WL.gyes rfl rfl rfl rfl (Yld.fld flds_ok rfl rfl rfl) ?_ | refine WL.gyes rfl rfl rfl rfl (Yld.max2 rfl rfl) ?_ | refine WL.gyes rfl rfl rfl rfl (Yld.min2 rfl rfl) ?_ | refine WL.gyes rfl rfl rfl rfl (Yld.pickV rfl rfl rfl) ?_)
  refine WC.cond rfl (fun h => ?_) (fun h => ?_)
  · simp only [decide_eq_true_eq] at h
    obtain ⟨i, rfl⟩ : ∃ i, j = i + 1 := ⟨j - 1, by omega⟩
    have hjt : (((i + 1 : Nat) : Int) - 1).toNat = i := by omega
    have hda := hDa i
    have hdb := hDb i
    repeat (first | refine WC.seq ?_ | refine WC.block ?_ | refine WC.region ?_ | refine WL.nil ?_ | refine WX.then_normal ?_ | refine WC.skip ?_ | refine WC.exit ?_ | refine WC.ret ?_ | refine WX.then_exit ?_ | refine WX.then_ret ?_ | refine WX.block_normal ?_ | refine WX.block_ret ?_ | refine WX.block_same ?_ | refine WX.block_other rfl ?_ | refine WC.label ?_ | refine WC.scope ?_ | refine WX.scope_normal ?_ | refine WX.scope_ret ?_ | refine WX.scope_exit ?_ | refine WL.y rfl (Yld.add rfl rfl (by simp only [In]; omega)) ?_ | refine WL.y rfl (Yld.sub rfl rfl (by simp only [In]; omega)) ?_ | refine WL.y rfl (Yld.mul rfl rfl (by simp only [In]; omega)) ?_ | refine WL.y rfl (Yld.convB tab_ok rfl rfl rfl rfl) ?_ | refine WL.y rfl (Yld.conv tab_ok rfl rfl rfl (by simp only [In]; omega)) ?_ | refine WL.y rfl (Yld.quo rfl rfl (by omega) (by omega) (by simp only [In]; omega)) ?_ | refine WL.y rfl (Yld.rem rfl rfl (by omega) (by omega)) ?_ | refine WL.y rfl (Yld.shl rfl rfl (by omega)) ?_ | refine WL.y rfl (Yld.shr rfl rfl (by omega)) ?_ | refine WL.y rfl (Yld.pure tab_ok rfl) ?_ | refine WL.y rfl (Yld.fld flds_ok rfl rfl rfl) ?_ | refine WL.y rfl (Yld.max2 rfl rfl) ?_ | refine WL.y rfl (Yld.min2 rfl rfl) ?_ | refine WL.y rfl (Yld.pickV rfl rfl rfl) ?_ | refine WL.gno rfl rfl rfl rfl ?_ | refine WL.gyes rfl rfl rfl rfl (Yld.add rfl rfl (by simp only [In]; omega)) ?_ | refine WL.gyes rfl rfl rfl rfl (Yld.sub rfl rfl (by simp only [In]; omega)) ?_ | refine WL.gyes rfl rfl rfl rfl (Yld.mul rfl rfl (by simp only [In]; omega)) ?_ | refine WL.gyes rfl rfl rfl rfl (Yld.convB tab_ok rfl rfl rfl rfl) ?_ | refine WL.gyes rfl rfl rfl rfl (Yld.conv tab_ok rfl rfl rfl (by simp only [In]; omega)) ?_ | refine WL.gyes rfl rfl rfl rfl (Yld.quo rfl rfl (by omega) (by omega) (by simp only [In]; omega)) ?_ | refine WL.gyes rfl rfl rfl rfl (Yld.rem rfl rfl (by omega) (by omega)) ?_ | refine WL.gyes rfl rfl rfl rfl (Yld.shl rfl rfl (by omega)) ?_ | refine WL.gyes rfl rfl rfl rfl (Yld.shr rfl rfl (by omega)) ?_ | refine WL.gyes rfl rfl rfl rfl (Yld.pure tab_ok rfl) ?_ | refine WL.gyes rfl rfl rfl rfl (Yld.fld flds_ok rfl rfl rfl) ?_ | refine WL.gyes rfl rfl rfl rfl (Yld.max2 rfl rfl) ?_ | refine WL.gyes rfl rfl rfl rfl (Yld.min2 rfl rfl) ?_ | refine WL.gyes rfl rfl rfl rfl (Yld.pickV rfl rfl rfl) ?_)
    refine WC.quiet mixed (by kernel_rfl) ?_
    repeat (first | refine WQ.y rfl (Yld.iaddr tab_ok hA rfl rfl rfl rfl (by omega) (by omega)) ?_ | refine WQ.y rfl (Yld.iaddr tab_ok hB rfl rfl rfl rfl (by omega) (by omega)) ?_ | refine WQ.y rfl (Yld.iload 0 tab_ok hA rfl rfl (by omega)) ?_ | refine WQ.y rfl (Yld.iload 0 tab_ok hB rfl rfl (by omega)) ?_ | refine WQ.y rfl (Yld.add rfl rfl (by simp only [In]; omega)) ?_ | refine WQ.y rfl (Yld.sub rfl rfl (by simp only [In]; omega)) ?_ | refine WQ.y rfl (Yld.mul rfl rfl (by simp only [In]; omega)) ?_ | refine WQ.y rfl (Yld.convB tab_ok rfl rfl rfl rfl) ?_ | refine WQ.y rfl (Yld.conv tab_ok rfl rfl rfl (by simp only [In]; omega)) ?_ | refine WQ.y rfl (Yld.quo rfl rfl (by omega) (by omega) (by simp only [In]; omega)) ?_ | refine WQ.y rfl (Yld.rem rfl rfl (by omega) (by omega)) ?_ | refine WQ.y rfl (Yld.shl rfl rfl (by omega)) ?_ | refine WQ.y rfl (Yld.shr rfl rfl (by omega)) ?_ | refine WQ.y rfl (Yld.pure tab_ok rfl) ?_ | refine WQ.y rfl (Yld.fld flds_ok rfl rfl rfl) ?_ | refine WQ.y rfl (Yld.max2 rfl rfl) ?_ | refine WQ.y rfl (Yld.min2 rfl rfl) ?_ | refine WQ.y rfl (Yld.pickV rfl rfl rfl) ?_ | refine WQ.gno rfl rfl rfl rfl ?_ | refine WQ.gyes rfl rfl rfl rfl (Yld.add rfl rfl (by simp only [In]; omega)) ?_ | refine WQ.gyes rfl rfl rfl rfl (Yld.sub rfl rfl (by simp only [In]; omega)) ?_ | refine WQ.gyes rfl rfl rfl rfl (Yld.mul rfl rfl (by simp only [In]; omega)) ?_ | refine WQ.gyes rfl rfl rfl rfl (Yld.convB tab_ok rfl rfl rfl rfl) ?_ | refine WQ.gyes rfl rfl rfl rfl (Yld.conv tab_ok rfl rfl rfl (by simp only [In]; omega)) ?_ | refine WQ.gyes rfl rfl rfl rfl (Yld.quo rfl rfl (by omega) (by omega) (by simp only [In]; omega)) ?_ | refine WQ.gyes rfl rfl rfl rfl (Yld.rem rfl rfl (by omega) (by omega)) ?_ | refine WQ.gyes rfl rfl rfl rfl (Yld.shl rfl rfl (by omega)) ?_ | refine WQ.gyes rfl rfl rfl rfl (Yld.shr rfl rfl (by omega)) ?_ | refine WQ.gyes rfl rfl rfl rfl (Yld.pure tab_ok rfl) ?_ | refine WQ.gyes rfl rfl rfl rfl (Yld.fld flds_ok rfl rfl rfl) ?_ | refine WQ.gyes rfl rfl rfl rfl (Yld.max2 rfl rfl) ?_ | refine WQ.gyes rfl rfl rfl rfl (Yld.min2 rfl rfl) ?_ | refine WQ.gyes rfl rfl rfl rfl (Yld.pickV rfl rfl rfl) ?_)
    refine WQ.nil ?_
    rw [hjt]
    repeat (first | refine WC.seq ?_ | refine WC.block ?_ | refine WC.region ?_ | refine WL.nil ?_ | refine WX.then_normal ?_ | refine WC.skip ?_ | refine WC.exit ?_ | refine WC.ret ?_ | refine WX.then_exit ?_ | refine WX.then_ret ?_ | refine WX.block_normal ?_ | refine WX.block_ret ?_ | refine WX.block_same ?_ | refine WX.block_other rfl ?_ | refine WC.label ?_ | refine WC.scope ?_ | refine WX.scope_normal ?_ | refine WX.scope_ret ?_ | refine WX.scope_exit ?_ | refine WL.y rfl (Yld.add rfl rfl (by simp only [In]; omega)) ?_ | refine WL.y rfl (Yld.sub rfl rfl (by simp only [In]; omega)) ?_ | refine WL.y rfl (Yld.mul rfl rfl (by simp only [In]; omega)) ?_ | refine WL.y rfl (Yld.convB tab_ok rfl rfl rfl rfl) ?_ | refine WL.y rfl (Yld.conv tab_ok rfl rfl rfl (by simp only [In]; omega)) ?_ | refine WL.y rfl (Yld.quo rfl rfl (by omega) (by omega) (by simp only [In]; omega)) ?_ | refine WL.y rfl (Yld.rem rfl rfl (by omega) (by omega)) ?_ | refine WL.y rfl (Yld.shl rfl rfl (by omega)) ?_ | refine WL.y rfl (Yld.shr rfl rfl (by omega)) ?_ | refine WL.y rfl (Yld.pure tab_ok rfl) ?_ | refine WL.y rfl (Yld.fld flds_ok rfl rfl rfl) ?_ | refine WL.y rfl (Yld.max2 rfl rfl) ?_ | refine WL.y rfl (Yld.min2 rfl rfl) ?_ | refine WL.y rfl (Yld.pickV rfl rfl rfl) ?_ | refine WL.gno rfl rfl rfl rfl ?_ | refine WL.gyes rfl rfl rfl rfl (Yld.add rfl rfl (by simp only [In]; omega)) ?_ | refine WL.gyes rfl rfl rfl rfl (Yld.sub rfl rfl (by simp only [In]; omega)) ?_ | refine WL.gyes rfl rfl rfl rfl (Yld.mul rfl rfl (by simp only [In]; omega)) ?_ | refine WL.gyes rfl rfl rfl rfl (Yld.convB tab_ok rfl rfl rfl rfl) ?_ | refine WL.gyes rfl rfl rfl rfl (Yld.conv tab_ok rfl rfl rfl (by simp only [In]; omega)) ?_ | refine WL.gyes rfl rfl rfl rfl (Yld.quo rfl rfl (by omega) (by omega) (by simp only [In]; omega)) ?_ | refine WL.gyes rfl rfl rfl rfl (Yld.rem rfl rfl (by omega) (by omega)) ?_ | refine WL.gyes rfl rfl rfl rfl (Yld.shl rfl rfl (by omega)) ?_ | refine WL.gyes rfl rfl rfl rfl (Yld.shr rfl rfl (by omega)) ?_ | refine WL.gyes rfl rfl rfl rfl (Yld.pure tab_ok rfl) ?_ | refine WL.gyes rfl rfl rfl rfl (Yld.fld flds_ok rfl rfl rfl) ?_ | refine WL.gyes rfl rfl rfl rfl (Yld.max2 rfl rfl) ?_ | refine WL.gyes rfl rfl rfl rfl (Yld.min2 rfl rfl) ?_ | refine WL.gyes rfl rfl rfl rfl (Yld.pickV rfl rfl rfl) ?_)
    refine WC.cond rfl (fun h => ?_) (fun h => ?_)
    · simp only [Bool.not_eq_true', decide_eq_false_iff_not] at h
      repeat (first | refine WC.seq ?_ | refine WC.block ?_ | refine WC.region ?_ | refine WL.nil ?_ | refine WX.then_normal ?_ | refine WC.skip ?_ | refine WC.exit ?_ | refine WC.ret ?_ | refine WX.then_exit ?_ | refine WX.then_ret ?_ | refine WX.block_normal ?_ | refine WX.block_ret ?_ | refine WX.block_same ?_ | refine WX.block_other rfl ?_ | refine WC.label ?_ | refine WC.scope ?_ | refine WX.scope_normal ?_ | refine WX.scope_ret ?_ | refine WX.scope_exit ?_ | refine WL.y rfl (Yld.add rfl rfl (by simp only [In]; omega)) ?_ | refine WL.y rfl (Yld.sub rfl rfl (by simp only [In]; omega)) ?_ | refine WL.y rfl (Yld.mul rfl rfl (by simp only [In]; omega)) ?_ | refine WL.y rfl (Yld.convB tab_ok rfl rfl rfl rfl) ?_ | refine WL.y rfl (Yld.conv tab_ok rfl rfl rfl (by simp only [In]; omega)) ?_ | refine WL.y rfl (Yld.quo rfl rfl (by omega) (by omega) (by simp only [In]; omega)) ?_ | refine WL.y rfl (Yld.rem rfl rfl (by omega) (by omega)) ?_ | refine WL.y rfl (Yld.shl rfl rfl (by omega)) ?_ | refine WL.y rfl (Yld.shr rfl rfl (by omega)) ?_ | refine WL.y rfl (Yld.pure tab_ok rfl) ?_ | refine WL.y rfl (Yld.fld flds_ok rfl rfl rfl) ?_ | refine WL.y rfl (Yld.max2 rfl rfl) ?_ | refine WL.y rfl (Yld.min2 rfl rfl) ?_ | refine WL.y rfl (Yld.pickV rfl rfl rfl) ?_ | refine WL.gno rfl rfl rfl rfl ?_ | refine WL.gyes rfl rfl rfl rfl (Yld.add rfl rfl (by simp only [In]; omega)) ?_ | refine WL.gyes rfl rfl rfl rfl (Yld.sub rfl rfl (by simp only [In]; omega)) ?_ | refine WL.gyes rfl rfl rfl rfl (Yld.mul rfl rfl (by simp only [In]; omega)) ?_ | refine WL.gyes rfl rfl rfl rfl (Yld.convB tab_ok rfl rfl rfl rfl) ?_ | refine WL.gyes rfl rfl rfl rfl (Yld.conv tab_ok rfl rfl rfl (by simp only [In]; omega)) ?_ | refine WL.gyes rfl rfl rfl rfl (Yld.quo rfl rfl (by omega) (by omega) (by simp only [In]; omega)) ?_ | refine WL.gyes rfl rfl rfl rfl (Yld.rem rfl rfl (by omega) (by omega)) ?_ | refine WL.gyes rfl rfl rfl rfl (Yld.shl rfl rfl (by omega)) ?_ | refine WL.gyes rfl rfl rfl rfl (Yld.shr rfl rfl (by omega)) ?_ | refine WL.gyes rfl rfl rfl rfl (Yld.pure tab_ok rfl) ?_ | refine WL.gyes rfl rfl rfl rfl (Yld.fld flds_ok rfl rfl rfl) ?_ | refine WL.gyes rfl rfl rfl rfl (Yld.max2 rfl rfl) ?_ | refine WL.gyes rfl rfl rfl rfl (Yld.min2 rfl rfl) ?_ | refine WL.gyes rfl rfl rfl rfl (Yld.pickV rfl rfl rfl) ?_)
      refine WC.quiet mixed (by kernel_rfl) ?_
      have hda2 : la.getD (((i + 1 : Nat) : Int) - 1).toNat 0 < 1000000000 := by rw [hjt]; exact hda
      have hdb2 : lb.getD (((i + 1 : Nat) : Int) - 1).toNat 0 < 1000000000 := by rw [hjt]; exact hdb
      repeat (first | refine WQ.y rfl (Yld.iaddr tab_ok hA rfl rfl rfl rfl (by omega) (by omega)) ?_ | refine WQ.y rfl (Yld.iaddr tab_ok hB rfl rfl rfl rfl (by omega) (by omega)) ?_ | refine WQ.y rfl (Yld.iload 0 tab_ok hA rfl rfl (by omega)) ?_ | refine WQ.y rfl (Yld.iload 0 tab_ok hB rfl rfl (by omega)) ?_ | refine WQ.y rfl (Yld.add rfl rfl (by simp only [In]; omega)) ?_ | refine WQ.y rfl (Yld.sub rfl rfl (by simp only [In]; omega)) ?_ | refine WQ.y rfl (Yld.mul rfl rfl (by simp only [In]; omega)) ?_ | refine WQ.y rfl (Yld.convB tab_ok rfl rfl rfl rfl) ?_ | refine WQ.y rfl (Yld.conv tab_ok rfl rfl rfl (by simp only [In]; omega)) ?_ | refine WQ.y rfl (Yld.quo rfl rfl (by omega) (by omega) (by simp only [In]; omega)) ?_ | refine WQ.y rfl (Yld.rem rfl rfl (by omega) (by omega)) ?_ | refine WQ.y rfl (Yld.shl rfl rfl (by omega)) ?_ | refine WQ.y rfl (Yld.shr rfl rfl (by omega)) ?_ | refine WQ.y rfl (Yld.pure tab_ok rfl) ?_ | refine WQ.y rfl (Yld.fld flds_ok rfl rfl rfl) ?_ | refine WQ.y rfl (Yld.max2 rfl rfl) ?_ | refine WQ.y rfl (Yld.min2 rfl rfl) ?_ | refine WQ.y rfl (Yld.pickV rfl rfl rfl) ?_ | refine WQ.gno rfl rfl rfl rfl ?_ | refine WQ.gyes rfl rfl rfl rfl (Yld.add rfl rfl (by simp only [In]; omega)) ?_ | refine WQ.gyes rfl rfl rfl rfl (Yld.sub rfl rfl (by simp only [In]; omega)) ?_ | refine WQ.gyes rfl rfl rfl rfl (Yld.mul rfl rfl (by simp only [In]; omega)) ?_ | refine WQ.gyes rfl rfl rfl rfl (Yld.convB tab_ok rfl rfl rfl rfl) ?_ | refine WQ.gyes rfl rfl rfl rfl (Yld.conv tab_ok rfl rfl rfl (by simp only [In]; omega)) ?_ | refine WQ.gyes rfl rfl rfl rfl (Yld.quo rfl rfl (by omega) (by omega) (by simp only [In]; omega)) ?_ | refine WQ.gyes rfl rfl rfl rfl (Yld.rem rfl rfl (by omega) (by omega)) ?_ | refine WQ.gyes rfl rfl rfl rfl (Yld.shl rfl rfl (by omega)) ?_ | refine WQ.gyes rfl rfl rfl rfl (Yld.shr rfl rfl (by omega)) ?_ | refine WQ.gyes rfl rfl rfl rfl (Yld.pure tab_ok rfl) ?_ | refine WQ.gyes rfl rfl rfl rfl (Yld.fld flds_ok rfl rfl rfl) ?_ | refine WQ.gyes rfl rfl rfl rfl (Yld.max2 rfl rfl) ?_ | refine WQ.gyes rfl rfl rfl rfl (Yld.min2 rfl rfl) ?_ | refine WQ.gyes rfl rfl rfl rfl (Yld.pickV rfl rfl rfl) ?_)
      refine WQ.nil ?_
      rw [hjt]
      repeat (first | refine WC.seq ?_ | refine WC.block ?_ | refine WC.region ?_ | refine WL.nil ?_ | refine WX.then_normal ?_ | refine WC.skip ?_ | refine WC.exit ?_ | refine WC.ret ?_ | refine WX.then_exit ?_ | refine WX.then_ret ?_ | refine WX.block_normal ?_ | refine WX.block_ret ?_ | refine WX.block_same ?_ | refine WX.block_other rfl ?_ | refine WC.label ?_ | refine WC.scope ?_ | refine WX.scope_normal ?_ | refine WX.scope_ret ?_ | refine WX.scope_exit ?_ | refine WL.y rfl (Yld.add rfl rfl (by simp only [In]; omega)) ?_ | refine WL.y rfl (Yld.sub rfl rfl (by simp only [In]; omega)) ?_ | refine WL.y rfl (Yld.mul rfl rfl (by simp only [In]; omega)) ?_ | refine WL.y rfl (Yld.convB tab_ok rfl rfl rfl rfl) ?_ | refine WL.y rfl (Yld.conv tab_ok rfl rfl rfl (by simp only [In]; omega)) ?_ | refine WL.y rfl (Yld.quo rfl rfl (by omega) (by omega) (by simp only [In]; omega)) ?_ | refine WL.y rfl (Yld.rem rfl rfl (by omega) (by omega)) ?_ | refine WL.y rfl (Yld.shl rfl rfl (by omega)) ?_ | refine WL.y rfl (Yld.shr rfl rfl (by omega)) ?_ | refine WL.y rfl (Yld.pure tab_ok rfl) ?_ | refine WL.y rfl (Yld.fld flds_ok rfl rfl rfl) ?_ | refine WL.y rfl (Yld.max2 rfl rfl) ?_ | refine WL.y rfl (Yld.min2 rfl rfl) ?_ | refine WL.y rfl (Yld.pickV rfl rfl rfl) ?_ | refine WL.gno rfl rfl rfl rfl ?_ | refine WL.gyes rfl rfl rfl rfl (Yld.add rfl rfl (by simp only [In]; omega)) ?_ | refine WL.gyes rfl rfl rfl rfl (Yld.sub rfl rfl (by simp only [In]; omega)) ?_ | refine WL.gyes rfl rfl rfl rfl (Yld.mul rfl rfl (by simp only [In]; omega)) ?_ | refine WL.gyes rfl rfl rfl rfl (Yld.convB tab_ok rfl rfl rfl rfl) ?_ | refine WL.gyes rfl rfl rfl rfl (Yld.conv tab_ok rfl rfl rfl (by simp only [In]; omega)) ?_ | refine WL.gyes rfl rfl rfl rfl (Yld.quo rfl rfl (by omega) (by omega) (by simp only [In]; omega)) ?_ | refine WL.gyes rfl rfl rfl rfl (Yld.rem rfl rfl (by omega) (by omega)) ?_ | refine WL.gyes rfl rfl rfl rfl (Yld.shl rfl rfl (by omega)) ?_ | refine WL.gyes rfl rfl rfl rfl (Yld.shr rfl rfl (by omega)) ?_ | refine WL.gyes rfl rfl rfl rfl (Yld.pure tab_ok rfl) ?_ | refine WL.gyes rfl rfl rfl rfl (Yld.fld flds_ok rfl rfl rfl) ?_ | refine WL.gyes rfl rfl rfl rfl (Yld.max2 rfl rfl) ?_ | refine WL.gyes rfl rfl rfl rfl (Yld.min2 rfl rfl) ?_ | refine WL.gyes rfl rfl rfl rfl (Yld.pickV rfl rfl rfl) ?_)
      refine WX.ret1 rfl rfl ⟨⟨_, rfl, ?_⟩, rfl⟩
      rcases Nat.lt_or_ge (la.getD i 0) (lb.getD i 0) with h1 | h1
      · have := take_less hDa i h1
        exact .inl ⟨by omega, by omega⟩
      · have := take_less (la := lb) (lb := la) hDb i (by omega)
        exact .inr (.inr ⟨by omega, by omega⟩)
    · simp only [Bool.not_eq_false', decide_eq_true_eq] at h
      repeat (first | refine WC.seq ?_ | refine WC.block ?_ | refine WC.region ?_ | refine WL.nil ?_ | refine WX.then_normal ?_ | refine WC.skip ?_ | refine WC.exit ?_ | refine WC.ret ?_ | refine WX.then_exit ?_ | refine WX.then_ret ?_ | refine WX.block_normal ?_ | refine WX.block_ret ?_ | refine WX.block_same ?_ | refine WX.block_other rfl ?_ | refine WC.label ?_ | refine WC.scope ?_ | refine WX.scope_normal ?_ | refine WX.scope_ret ?_ | refine WX.scope_exit ?_ | refine WL.y rfl (Yld.add rfl rfl (by simp only [In]; omega)) ?_ | refine WL.y rfl (Yld.sub rfl rfl (by simp only [In]; omega)) ?_ | refine WL.y rfl (Yld.mul rfl rfl (by simp only [In]; omega)) ?_ | refine WL.y rfl (Yld.convB tab_ok rfl rfl rfl rfl) ?_ | refine WL.y rfl (Yld.conv tab_ok rfl rfl rfl (by simp only [In]; omega)) ?_ | refine WL.y rfl (Yld.quo rfl rfl (by omega) (by omega) (by simp only [In]; omega)) ?_ | refine WL.y rfl (Yld.rem rfl rfl (by omega) (by omega)) ?_ | refine WL.y rfl (Yld.shl rfl rfl (by omega)) ?_ | refine WL.y rfl (Yld.shr rfl rfl (by omega)) ?_ | refine WL.y rfl (Yld.pure tab_ok rfl) ?_ | refine WL.y rfl (Yld.fld flds_ok rfl rfl rfl) ?_ | refine WL.y rfl (Yld.max2 rfl rfl) ?_ | refine WL.y rfl (Yld.min2 rfl rfl) ?_ | refine WL.y rfl (Yld.pickV rfl rfl rfl) ?_ | refine WL.gno rfl rfl rfl rfl ?_ | refine WL.gyes rfl rfl rfl rfl (Yld.add rfl rfl (by simp only [In]; omega)) ?_ | refine WL.gyes rfl rfl rfl rfl (Yld.sub rfl rfl (by simp only [In]; omega)) ?_ | refine WL.gyes rfl rfl rfl rfl (Yld.mul rfl rfl (by simp only [In]; omega)) ?_ | refine WL.gyes rfl rfl rfl rfl (Yld.convB tab_ok rfl rfl rfl rfl) ?_ | refine WL.gyes rfl rfl rfl rfl (Yld.conv tab_ok rfl rfl rfl (by simp only [In]; omega)) ?_ | refine WL.gyes rfl rfl rfl rfl (Yld.quo rfl rfl (by omega) (by omega) (by simp only [In]; omega)) ?_ | refine WL.gyes rfl rfl rfl rfl (Yld.rem rfl rfl (by omega) (by omega)) ?_ | refine WL.gyes rfl rfl rfl rfl (Yld.shl rfl rfl (by omega)) ?_ | refine WL.gyes rfl rfl rfl rfl (Yld.shr rfl rfl (by omega)) ?_ | refine WL.gyes rfl rfl rfl rfl (Yld.pure tab_ok rfl) ?_ | refine WL.gyes rfl rfl rfl rfl (Yld.fld flds_ok rfl rfl rfl) ?_ | refine WL.gyes rfl rfl rfl rfl (Yld.max2 rfl rfl) ?_ | refine WL.gyes rfl rfl rfl rfl (Yld.min2 rfl rfl) ?_ | refine WL.gyes rfl rfl rfl rfl (Yld.pickV rfl rfl rfl) ?_)
      have hsl : ((i + 1 : Nat) : Int) - 1 - 1 = (i : Int) - 1 := by omega
      rw [hsl]
      refine WX.round i ⟨by omega, ?_, rfl⟩ (by omega) (by repeat (first | exact Sub.nil | refine Sub.cons rfl ?_))
      have h1 := val_take la i
      have h2 := val_take lb i
      have h3 : la.getD i 0 = lb.getD i 0 := by omega
      rw [h3] at h1
      omega
  · simp only [decide_eq_false_iff_not] at h
    obtain rfl : j = 0 := by omega
    repeat (first | refine WC.seq ?_ | refine WC.block ?_ | refine WC.region ?_ | refine WL.nil ?_ | refine WX.then_normal ?_ | refine WC.skip ?_ | refine WC.exit ?_ | refine WC.ret ?_ | refine WX.then_exit ?_ | refine WX.then_ret ?_ | refine WX.block_normal ?_ | refine WX.block_ret ?_ | refine WX.block_same ?_ | refine WX.block_other rfl ?_ | refine WC.label ?_ | refine WC.scope ?_ | refine WX.scope_normal ?_ | refine WX.scope_ret ?_ | refine WX.scope_exit ?_ | refine WL.y rfl (Yld.add rfl rfl (by simp only [In]; omega)) ?_ | refine WL.y rfl (Yld.sub rfl rfl (by simp only [In]; omega)) ?_ | refine WL.y rfl (Yld.mul rfl rfl (by simp only [In]; omega)) ?_ | refine WL.y rfl (Yld.convB tab_ok rfl rfl rfl rfl) ?_ | refine WL.y rfl (Yld.conv tab_ok rfl rfl rfl (by simp only [In]; omega)) ?_ | refine WL.y rfl (Yld.quo rfl rfl (by omega) (by omega) (by simp only [In]; omega)) ?_ | refine WL.y rfl (Yld.rem rfl rfl (by omega) (by omega)) ?_ | refine WL.y rfl (Yld.shl rfl rfl (by omega)) ?_ | refine WL.y rfl (Yld.shr rfl rfl (by omega)) ?_ | refine WL.y rfl (Yld.pure tab_ok rfl) ?_ | refine WL.y rfl (Yld.fld flds_ok rfl rfl rfl) ?_ | refine WL.y rfl (Yld.max2 rfl rfl) ?_ | refine WL.y rfl (Yld.min2 rfl rfl) ?_ | refine WL.y rfl (Yld.pickV rfl rfl rfl) ?_ | refine WL.gno rfl rfl rfl rfl ?_ | refine WL.gyes rfl rfl rfl rfl (Yld.add rfl rfl (by simp only [In]; omega)) ?_ | refine WL.gyes rfl rfl rfl rfl (Yld.sub rfl rfl (by simp only [In]; omega)) ?_ | refine WL.gyes rfl rfl rfl rfl (Yld.mul rfl rfl (by simp only [In]; omega)) ?_ | refine WL.gyes rfl rfl rfl rfl (Yld.convB tab_ok rfl rfl rfl rfl) ?_ | refine WL.gyes rfl rfl rfl rfl (Yld.conv tab_ok rfl rfl rfl (by simp only [In]; omega)) ?_ | refine WL.gyes rfl rfl rfl rfl (Yld.quo rfl rfl (by omega) (by omega) (by simp only [In]; omega)) ?_ | refine WL.gyes rfl rfl rfl rfl (Yld.rem rfl rfl (by omega) (by omega)) ?_ | refine WL.gyes rfl rfl rfl rfl (Yld.shl rfl rfl (by omega)) ?_ | refine WL.gyes rfl rfl rfl rfl (Yld.shr rfl rfl (by omega)) ?_ | refine WL.gyes rfl rfl rfl rfl (Yld.pure tab_ok rfl) ?_ | refine WL.gyes rfl rfl rfl rfl (Yld.fld flds_ok rfl rfl rfl) ?_ | refine WL.gyes rfl rfl rfl rfl (Yld.max2 rfl rfl) ?_ | refine WL.gyes rfl rfl rfl rfl (Yld.min2 rfl rfl) ?_ | refine WL.gyes rfl rfl rfl rfl (Yld.pickV rfl rfl rfl) ?_)
    refine WX.ret1 rfl rfl ⟨⟨0, rfl, .inr (.inl ⟨rfl, ?_⟩)⟩, rfl⟩
    simpa [val] using hv
end Go.Proofs.YtilphcippnfklaaDoor
 namespace Go.Proofs.YtilphcippnfklaaDoor
open Go Go.RowKit
attribute [local irreducible] WL WC WX WQ Yld Eff Fn
/-- what reads as_ numbers lies in no block of other things -/
theorem Rd.apart {α : Type} {f : α → Value} {w : World} {A : Option Addr} {c g : Nat} {e : TypeId} {xs : List α} {us : List Value} (h : Rd f w A c xs) (hB : Bl w g e us) (hn : ∀ u ∈ us, ∀ x, u ≠ f x) (hx : xs ≠ []) : blk A ≠ some g := by
  intro e1
  obtain ⟨ad, rfl, hc⟩ := h.cells hx
  obtain ⟨x, l, rfl⟩ := List.exists_cons_of_ne_nil hx
  have h0 := hc 0 x rfl
  have hb : (ad.add 0).block = g := by rw [addr_block]; simpa [blk] using e1
  unfold World.cell? at h0
  unfold Bl at hB
  rw [hb, hB] at h0
  simp only at h0
  split at h0
  · cases h0
  · have h1 : us[(ad.add 0).off]? = some (f x) := by simpa using h0
    exact hn _ (List.mem_of_getElem? h1) x rfl
/-- a number, stored over a number's block, is that number still -/
theorem Nm.stored {w w' : World} {g : Nat} {e : TypeId} {us : List Value} {v : Value} {z : Int} {m : Nat} (h : Nm w v z m) (hB : Bl w g e us) (hn : ∀ u ∈ us, ∀ x, u ≠ vd x) (hg : w.grownBy w' (some g)) : Nm w' v z m := by
  obtain ⟨neg, A, c, l, h1, h2, h3⟩ := h
  exact ⟨neg, A, c, l, h1, h2.keep' hg (fun hne q hq => by injection hq with hq; subst hq; exact h2.apart hB hn hne), h3⟩
theorem Nm.agg {w : World} {v : Value} {z : Int} {m : Nat} (h : Nm w v z m) : ∃ a b, v = .agg ⟨[a, b]⟩ ∧ a.oneCell' = true ∧ b.oneCell' = true := by
  obtain ⟨neg, A, c, l, h1, _⟩ := h
  exact ⟨_, _, h1, rfl, rfl⟩
theorem zero_no : ∀ u ∈ [Value.bool false, Value.slice none 0 0], ∀ x, u ≠ vd x := by
  intro u hu x
  simp only [List.mem_cons, List.not_mem_nil, or_false] at hu
  rcases hu with rfl | rfl <;> intro e <;> cases e
theorem neg_fn (v : Value) (z : Int) (m : Nat) (w : World) (h : Nm w v z m) (hm : m ≤ 1000000) : Fn Tryd.prog 29 ⟨[v]⟩ w fun r w' => Nm w' r (-z) m ∧ w.grownBy w' none := by
  obtain ⟨neg, A, c, l, rfl, hR, hD, hC, hl, hn, rfl⟩ := h
  refine Fn.enter (by kernel_rfl) Tryd.func29 rfl Tryd.ntmps29 rfl ?_
  repeat (first | refine WC.seq ?_ | refine WC.block ?_ | refine WC.region ?_ | refine WL.nil ?_ | refine WX.then_normal ?_ | refine WC.skip ?_ | refine WC.exit ?_ | refine WC.ret ?_ | refine WX.then_exit ?_ | refine WX.then_ret ?_ | refine WX.block_normal ?_ | refine WX.block_ret ?_ | refine WX.block_same ?_ | refine WX.block_other rfl ?_ | refine WC.label ?_ | refine WC.scope ?_ | refine WX.scope_normal ?_ | refine WX.scope_ret ?_ | refine WX.scope_exit ?_ | refine WL.y rfl (Yld.add rfl rfl (by simp only [In]; omega)) ?_ | refine WL.y rfl (Yld.sub rfl rfl (by simp only [In]; omega)) ?_ | refine WL.y rfl (Yld.mul rfl rfl (by simp only [In]; omega)) ?_ | refine WL.y rfl (Yld.convB tab_ok rfl rfl rfl rfl) ?_ | refine WL.y rfl (Yld.conv tab_ok rfl rfl rfl (by simp only [In]; omega)) ?_ | refine WL.y rfl (Yld.quo rfl rfl (by omega) (by omega) (by simp only [In]; omega)) ?_ | refine WL.y rfl (Yld.rem rfl rfl (by omega) (by omega)) ?_ | refine WL.y rfl (Yld.shl rfl rfl (by omega)) ?_ | refine WL.y rfl (Yld.shr rfl rfl (by omega)) ?_ | refine WL.y rfl (Yld.pure tab_ok rfl) ?_ | refine WL.y rfl (Yld.fld flds_ok rfl rfl rfl) ?_ | refine WL.y rfl (Yld.max2 rfl rfl) ?_ | refine WL.y rfl (Yld.min2 rfl rfl) ?_ | refine WL.y rfl (Yld.pickV rfl rfl rfl) ?_ | refine WL.gno rfl rfl rfl rfl ?_ | refine WL.gyes rfl rfl rfl rfl (Yld.add rfl rfl (by simp only [In]; omega)) ?_ | refine WL.gyes rfl rfl rfl rfl (Yld.sub rfl rfl (by simp only [In]; omega)) ?_ | refine WL.gyes rfl rfl rfl rfl (Yld.mul rfl rfl (by simp only [In]; omega)) ?_ | refine WL.gyes rfl rfl rfl rfl (Yld.convB tab_ok rfl rfl rfl rfl) ?_ | refine WL.gyes rfl rfl rfl rfl (Yld.conv tab_ok rfl rfl rfl (by simp only [In]; omega)) ?_ | refine WL.gyes rfl rfl rfl rfl (Yld.quo rfl rfl (by omega) (by omega) (by simp only [In]; omega)) ?_ | refine WL.gyes rfl rfl rfl rfl (Yld.rem rfl rfl (by omega) (by omega)) ?_ | refine WL.gyes rfl rfl rfl rfl (Yld.shl rfl rfl (by omega)) ?_ | refine WL.gyes rfl rfl rfl rfl (Yld.shr rfl rfl (by omega)) ?_ | refine WL.gyes rfl rfl rfl rfl (Yld.pure tab_ok rfl) ?_ | refine WL.gyes rfl rfl rfl rfl (Yld.fld flds_ok rfl rfl rfl) ?_ | refine WL.gyes rfl rfl rfl rfl (Yld.max2 rfl rfl) ?_ | refine WL.gyes rfl rfl rfl rfl (Yld.min2 rfl rfl) ?_ | refine WL.gyes rfl rfl rfl rfl (Yld.pickV rfl rfl rfl) ?_)
  refine WL.box (us := [.bool neg, .slice A l.length c]) rfl rfl rfl (fun g1 w1 hB1 hg1 hl1 => ?_)
  repeat (first | refine WC.seq ?_ | refine WC.block ?_ | refine WC.region ?_ | refine WL.nil ?_ | refine WX.then_normal ?_ | refine WC.skip ?_ | refine WC.exit ?_ | refine WC.ret ?_ | refine WX.then_exit ?_ | refine WX.then_ret ?_ | refine WX.block_normal ?_ | refine WX.block_ret ?_ | refine WX.block_same ?_ | refine WX.block_other rfl ?_ | refine WC.label ?_ | refine WC.scope ?_ | refine WX.scope_normal ?_ | refine WX.scope_ret ?_ | refine WX.scope_exit ?_ | refine WL.y rfl (Yld.add rfl rfl (by simp only [In]; omega)) ?_ | refine WL.y rfl (Yld.sub rfl rfl (by simp only [In]; omega)) ?_ | refine WL.y rfl (Yld.mul rfl rfl (by simp only [In]; omega)) ?_ | refine WL.y rfl (Yld.convB tab_ok rfl rfl rfl rfl) ?_ | refine WL.y rfl (Yld.conv tab_ok rfl rfl rfl (by simp only [In]; omega)) ?_ | refine WL.y rfl (Yld.quo rfl rfl (by omega) (by omega) (by simp only [In]; omega)) ?_ | refine WL.y rfl (Yld.rem rfl rfl (by omega) (by omega)) ?_ | refine WL.y rfl (Yld.shl rfl rfl (by omega)) ?_ | refine WL.y rfl (Yld.shr rfl rfl (by omega)) ?_ | refine WL.y rfl (Yld.pure tab_ok rfl) ?_ | refine WL.y rfl (Yld.fld flds_ok rfl rfl rfl) ?_ | refine WL.y rfl (Yld.max2 rfl rfl) ?_ | refine WL.y rfl (Yld.min2 rfl rfl) ?_ | refine WL.y rfl (Yld.pickV rfl rfl rfl) ?_ | refine WL.gno rfl rfl rfl rfl ?_ | refine WL.gyes rfl rfl rfl rfl (Yld.add rfl rfl (by simp only [In]; omega)) ?_ | refine WL.gyes rfl rfl rfl rfl (Yld.sub rfl rfl (by simp only [In]; omega)) ?_ | refine WL.gyes rfl rfl rfl rfl (Yld.mul rfl rfl (by simp only [In]; omega)) ?_ | refine WL.gyes rfl rfl rfl rfl (Yld.convB tab_ok rfl rfl rfl rfl) ?_ | refine WL.gyes rfl rfl rfl rfl (Yld.conv tab_ok rfl rfl rfl (by simp only [In]; omega)) ?_ | refine WL.gyes rfl rfl rfl rfl (Yld.quo rfl rfl (by omega) (by omega) (by simp only [In]; omega)) ?_ | refine WL.gyes rfl rfl rfl rfl (Yld.rem rfl rfl (by omega) (by omega)) ?_ | refine WL.gyes rfl rfl rfl rfl (Yld.shl rfl rfl (by omega)) ?_ | refine WL.gyes rfl rfl rfl rfl (Yld.shr rfl rfl (by omega)) ?_ | refine WL.gyes rfl rfl rfl rfl (Yld.pure tab_ok rfl) ?_ | refine WL.gyes rfl rfl rfl rfl (Yld.fld flds_ok rfl rfl rfl) ?_ | refine WL.gyes rfl rfl rfl rfl (Yld.max2 rfl rfl) ?_ | refine WL.gyes rfl rfl rfl rfl (Yld.min2 rfl rfl) ?_ | refine WL.gyes rfl rfl rfl rfl (Yld.pickV rfl rfl rfl) ?_)
  refine WL.alloc rfl zero44 (fun g2 w2 hB2 hg2 hl2 => ?_)
  have hB12 := hB1.keep hg2 (by simp)
  repeat (first | refine WL.y rfl (Yld.bload tab_ok hB12 rfl rfl rfl) ?_ | refine WC.seq ?_ | refine WC.block ?_ | refine WC.region ?_ | refine WL.nil ?_ | refine WX.then_normal ?_ | refine WC.skip ?_ | refine WC.exit ?_ | refine WC.ret ?_ | refine WX.then_exit ?_ | refine WX.then_ret ?_ | refine WX.block_normal ?_ | refine WX.block_ret ?_ | refine WX.block_same ?_ | refine WX.block_other rfl ?_ | refine WC.label ?_ | refine WC.scope ?_ | refine WX.scope_normal ?_ | refine WX.scope_ret ?_ | refine WX.scope_exit ?_ | refine WL.y rfl (Yld.add rfl rfl (by simp only [In]; omega)) ?_ | refine WL.y rfl (Yld.sub rfl rfl (by simp only [In]; omega)) ?_ | refine WL.y rfl (Yld.mul rfl rfl (by simp only [In]; omega)) ?_ | refine WL.y rfl (Yld.convB tab_ok rfl rfl rfl rfl) ?_ | refine WL.y rfl (Yld.conv tab_ok rfl rfl rfl (by simp only [In]; omega)) ?_ | refine WL.y rfl (Yld.quo rfl rfl (by omega) (by omega) (by simp only [In]; omega)) ?_ | refine WL.y rfl (Yld.rem rfl rfl (by omega) (by omega)) ?_ | refine WL.y rfl (Yld.shl rfl rfl (by omega)) ?_ | refine WL.y rfl (Yld.shr rfl rfl (by omega)) ?_ | refine WL.y rfl (Yld.pure tab_ok rfl) ?_ | refine WL.y rfl (Yld.fld flds_ok rfl rfl rfl) ?_ | refine WL.y rfl (Yld.max2 rfl rfl) ?_ | refine WL.y rfl (Yld.min2 rfl rfl) ?_ | refine WL.y rfl (Yld.pickV rfl rfl rfl) ?_ | refine WL.gno rfl rfl rfl rfl ?_ | refine WL.gyes rfl rfl rfl rfl (Yld.add rfl rfl (by simp only [In]; omega)) ?_ | refine WL.gyes rfl rfl rfl rfl (Yld.sub rfl rfl (by simp only [In]; omega)) ?_ | refine WL.gyes rfl rfl rfl rfl (Yld.mul rfl rfl (by simp only [In]; omega)) ?_ | refine WL.gyes rfl rfl rfl rfl (Yld.convB tab_ok rfl rfl rfl rfl) ?_ | refine WL.gyes rfl rfl rfl rfl (Yld.conv tab_ok rfl rfl rfl (by simp only [In]; omega)) ?_ | refine WL.gyes rfl rfl rfl rfl (Yld.quo rfl rfl (by omega) (by omega) (by simp only [In]; omega)) ?_ | refine WL.gyes rfl rfl rfl rfl (Yld.rem rfl rfl (by omega) (by omega)) ?_ | refine WL.gyes rfl rfl rfl rfl (Yld.shl rfl rfl (by omega)) ?_ | refine WL.gyes rfl rfl rfl rfl (Yld.shr rfl rfl (by omega)) ?_ | refine WL.gyes rfl rfl rfl rfl (Yld.pure tab_ok rfl) ?_ | refine WL.gyes rfl rfl rfl rfl (Yld.fld flds_ok rfl rfl rfl) ?_ | refine WL.gyes rfl rfl rfl rfl (Yld.max2 rfl rfl) ?_ | refine WL.gyes rfl rfl rfl rfl (Yld.min2 rfl rfl) ?_ | refine WL.gyes rfl rfl rfl rfl (Yld.pickV rfl rfl rfl) ?_)
  have hg12 := gr_trans hg1 hg2
  refine WL.call rfl rfl (made_fn (!neg) A c l w2 (hR.grown hg12) hD (by omega)) ?_
  rintro r w3 ⟨hN, hg3⟩
  have hB23 := hB2.keep hg3 (by simp)
  have hlt1 := hg1.size
  obtain ⟨a, b, rfl, ha, hb⟩ := hN.agg
  refine WL.storeW (vs := [a, b]) tab_ok rfl rfl rfl (by intro u hu; simp at hu; rcases hu with rfl | rfl <;> assumption) hB23 rfl rfl (fun w4 hB4 hg4 => ?_)
  repeat (first | refine WC.seq ?_ | refine WC.block ?_ | refine WC.region ?_ | refine WL.nil ?_ | refine WX.then_normal ?_ | refine WC.skip ?_ | refine WC.exit ?_ | refine WC.ret ?_ | refine WX.then_exit ?_ | refine WX.then_ret ?_ | refine WX.block_normal ?_ | refine WX.block_ret ?_ | refine WX.block_same ?_ | refine WX.block_other rfl ?_ | refine WC.label ?_ | refine WC.scope ?_ | refine WX.scope_normal ?_ | refine WX.scope_ret ?_ | refine WX.scope_exit ?_ | refine WL.y rfl (Yld.add rfl rfl (by simp only [In]; omega)) ?_ | refine WL.y rfl (Yld.sub rfl rfl (by simp only [In]; omega)) ?_ | refine WL.y rfl (Yld.mul rfl rfl (by simp only [In]; omega)) ?_ | refine WL.y rfl (Yld.convB tab_ok rfl rfl rfl rfl) ?_ | refine WL.y rfl (Yld.conv tab_ok rfl rfl rfl (by simp only [In]; omega)) ?_ | refine WL.y rfl (Yld.quo rfl rfl (by omega) (by omega) (by simp only [In]; omega)) ?_ | refine WL.y rfl (Yld.rem rfl rfl (by omega) (by omega)) ?_ | refine WL.y rfl (Yld.shl rfl rfl (by omega)) ?_ | refine WL.y rfl (Yld.shr rfl rfl (by omega)) ?_ | refine WL.y rfl (Yld.pure tab_ok rfl) ?_ | refine WL.y rfl (Yld.fld flds_ok rfl rfl rfl) ?_ | refine WL.y rfl (Yld.max2 rfl rfl) ?_ | refine WL.y rfl (Yld.min2 rfl rfl) ?_ | refine WL.y rfl (Yld.pickV rfl rfl rfl) ?_ | refine WL.gno rfl rfl rfl rfl ?_ | refine WL.gyes rfl rfl rfl rfl (Yld.add rfl rfl (by simp only [In]; omega)) ?_ | refine WL.gyes rfl rfl rfl rfl (Yld.sub rfl rfl (by simp only [In]; omega)) ?_ | refine WL.gyes rfl rfl rfl rfl (Yld.mul rfl rfl (by simp only [In]; omega)) ?_ | refine WL.gyes rfl rfl rfl rfl (Yld.convB tab_ok rfl rfl rfl rfl) ?_ | refine WL.gyes rfl rfl rfl rfl (Yld.conv tab_ok rfl rfl rfl (by simp only [In]; omega)) ?_ | refine WL.gyes rfl rfl rfl rfl (Yld.quo rfl rfl (by omega) (by omega) (by simp only [In]; omega)) ?_ | refine WL.gyes rfl rfl rfl rfl (Yld.rem rfl rfl (by omega) (by omega)) ?_ | refine WL.gyes rfl rfl rfl rfl (Yld.shl rfl rfl (by omega)) ?_ | refine WL.gyes rfl rfl rfl rfl (Yld.shr rfl rfl (by omega)) ?_ | refine WL.gyes rfl rfl rfl rfl (Yld.pure tab_ok rfl) ?_ | refine WL.gyes rfl rfl rfl rfl (Yld.fld flds_ok rfl rfl rfl) ?_ | refine WL.gyes rfl rfl rfl rfl (Yld.max2 rfl rfl) ?_ | refine WL.gyes rfl rfl rfl rfl (Yld.min2 rfl rfl) ?_ | refine WL.gyes rfl rfl rfl rfl (Yld.pickV rfl rfl rfl) ?_)
  have hz : (bif !neg then -(val l : Int) else (val l : Int)) = -(bif neg then -(val l : Int) else (val l : Int)) := by cases neg <;> simp
  rw [hz] at hN
  exact WX.retc tab_ok rfl rfl rfl hB4 rfl ⟨(hN.stored hB23 zero_no hg4).mono hl, gr_new (gr_trans hg12 hg3) hg4 (by omega)⟩
end Go.Proofs.YtilphcippnfklaaDoor
 namespace Go.Proofs.YtilphcippnfklaaDoor
open Go Go.RowKit
attribute [local irreducible] WL WC WX WQ WK Yld Eff Ef0 Fn
theorem add_fn (va vb_ : Value) (x y : Int) (m : Nat) (w : World) (ha : Nm w va x m) (hb : Nm w vb_ y m) (hm : m ≤ 900000) : Fn Tryd.prog 22 ⟨[va, vb_]⟩ w fun r w' => Nm w' r (x + y) (m + 1) ∧ w.grownBy w' none := by
  obtain ⟨na, A, c, la, rfl, hA, hDa, hCa, hla, hna, rfl⟩ := ha
  obtain ⟨nb, B, cb, lb, rfl, hB, hDb, hCb, hlb, hnb, rfl⟩ := hb
  refine Fn.enter (by kernel_rfl) Tryd.func22 rfl Tryd.ntmps22 rfl ?_
  repeat (first | refine WC.seq ?_ | refine WC.block ?_ | refine WC.region ?_ | refine WL.nil ?_ | refine WX.then_normal ?_ | refine WC.skip ?_ | refine WC.exit ?_ | refine WC.ret ?_ | refine WX.then_exit ?_ | refine WX.then_ret ?_ | refine WX.block_normal ?_ | refine WX.block_ret ?_ | refine WX.block_same ?_ | refine WX.block_other rfl ?_ | refine WC.label ?_ | refine WC.scope ?_ | refine WX.scope_normal ?_ | refine WX.scope_ret ?_ | refine WX.scope_exit ?_ | refine WL.y rfl (Yld.pure tab_ok rfl) ?_)
  refine WL.box (us := [.bool na, .slice A la.length c]) rfl rfl rfl (fun g1 w1 hB1 hg1 hl1 => ?_)
  repeat (first | refine WC.seq ?_ | refine WC.block ?_ | refine WC.region ?_ | refine WL.nil ?_ | refine WX.then_normal ?_ | refine WC.skip ?_ | refine WC.exit ?_ | refine WC.ret ?_ | refine WX.then_exit ?_ | refine WX.then_ret ?_ | refine WX.block_normal ?_ | refine WX.block_ret ?_ | refine WX.block_same ?_ | refine WX.block_other rfl ?_ | refine WC.label ?_ | refine WC.scope ?_ | refine WX.scope_normal ?_ | refine WX.scope_ret ?_ | refine WX.scope_exit ?_ | refine WL.y rfl (Yld.pure tab_ok rfl) ?_)
  refine WL.box (us := [.bool nb, .slice B lb.length cb]) rfl rfl rfl (fun g2 w2 hB2 hg2 hl2 => ?_)
  repeat (first | refine WC.seq ?_ | refine WC.block ?_ | refine WC.region ?_ | refine WL.nil ?_ | refine WX.then_normal ?_ | refine WC.skip ?_ | refine WC.exit ?_ | refine WC.ret ?_ | refine WX.then_exit ?_ | refine WX.then_ret ?_ | refine WX.block_normal ?_ | refine WX.block_ret ?_ | refine WX.block_same ?_ | refine WX.block_other rfl ?_ | refine WC.label ?_ | refine WC.scope ?_ | refine WX.scope_normal ?_ | refine WX.scope_ret ?_ | refine WX.scope_exit ?_ | refine WL.y rfl (Yld.pure tab_ok rfl) ?_)
  refine WL.alloc rfl zero44 (fun g4 w3 hB4 hg3 hl4 => ?_)
  have h1 := hB1.lt
  have h2 := hB2.lt
  have hz1 := hg1.size
  have hz2 := hg2.size
  have hB13 := (hB1.keep hg2 (by simp)).keep hg3 (by simp)
  have hB23 := hB2.keep hg3 (by simp)
  have hg13 := gr_trans (gr_trans hg1 hg2) hg3
  have hA3 := hA.grown hg13
  have hB3 := hB.grown hg13
  have hbt := Tryd.underlying4
  repeat (first | refine WL.y rfl (Yld.bload tab_ok hB13 rfl rfl rfl) ?_ | refine WL.y rfl (Yld.bload tab_ok hB23 rfl rfl rfl) ?_ | refine WL.y rfl (Yld.beql hbt rfl rfl) ?_ | refine WC.seq ?_ | refine WC.block ?_ | refine WC.region ?_ | refine WL.nil ?_ | refine WX.then_normal ?_ | refine WC.skip ?_ | refine WC.exit ?_ | refine WC.ret ?_ | refine WX.then_exit ?_ | refine WX.then_ret ?_ | refine WX.block_normal ?_ | refine WX.block_ret ?_ | refine WX.block_same ?_ | refine WX.block_other rfl ?_ | refine WC.label ?_ | refine WC.scope ?_ | refine WX.scope_normal ?_ | refine WX.scope_ret ?_ | refine WX.scope_exit ?_ | refine WL.y rfl (Yld.pure tab_ok rfl) ?_)
  refine WC.cond rfl (fun h => ?_) (fun h => ?_)
  · simp only [beq_iff_eq] at h
    subst h
    repeat (first | refine WC.seq ?_ | refine WC.block ?_ | refine WC.region ?_ | refine WL.nil ?_ | refine WX.then_normal ?_ | refine WC.skip ?_ | refine WC.exit ?_ | refine WC.ret ?_ | refine WX.then_exit ?_ | refine WX.then_ret ?_ | refine WX.block_normal ?_ | refine WX.block_ret ?_ | refine WX.block_same ?_ | refine WX.block_other rfl ?_ | refine WC.label ?_ | refine WC.scope ?_ | refine WX.scope_normal ?_ | refine WX.scope_ret ?_ | refine WX.scope_exit ?_ | refine WL.y rfl (Yld.pure tab_ok rfl) ?_)
    refine WC.chain (fun k => Nat.blt k 6) (fun w' => w3.grownBy w' (some g4)) mixed (by kernel_rfl) (fun w' e => gr_eqv (gr_refl _ _) e) ?_
    repeat (first | refine WK.y rfl rfl (fun w' h => Yld.bload tab_ok (hB13.keep h (by simp; omega)) rfl rfl rfl) ?_ | refine WK.y rfl rfl (fun w' h => Yld.bload tab_ok (hB23.keep h (by simp; omega)) rfl rfl rfl) ?_ | refine WK.y rfl rfl (fun _ _ => Yld.pure tab_ok rfl) ?_)
    refine WK.call rfl wants_none rfl rfl (plus_fn A c la B cb lb w3 hA3 hB3 hDa hDb (by omega) (by omega)) (fun v w' ⟨_, _, _, _, _, _, _, _, h⟩ w2 e => gr_some (gr_eqv h e) _) ?_
    rintro _ w5 ⟨A5, c5, o, rfl, hR5, hD5, hv5, hl5, hg5⟩
    refine WK.call rfl wants_none rfl rfl (made_fn na A5 c5 o w5 hR5 hD5 (by omega)) (fun v w' ⟨_, h⟩ w2 e => gr_some (gr_eqv (gr_trans hg5 h) e) _) ?_
    rintro r w6 ⟨hN, hg6⟩
    have hB46 := (hB4.keep hg5 (by simp)).keep hg6 (by simp)
    have hg36 := gr_trans hg5 hg6
    obtain ⟨a, b, rfl, ha, hb⟩ := hN.agg
    refine WK.eff rfl (Ef0.storeW (vs := [a, b]) tab_ok rfl rfl rfl (by intro u hu; simp at hu; rcases hu with rfl | rfl <;> assumption) hB46 rfl rfl) (fun w' h => gr_trans (gr_some hg36 _) h.2) ?_
    rintro w7 ⟨hB7, hg7⟩
    refine WK.nil ?_
    repeat (first | refine WC.seq ?_ | refine WC.block ?_ | refine WC.region ?_ | refine WL.nil ?_ | refine WX.then_normal ?_ | refine WC.skip ?_ | refine WC.exit ?_ | refine WC.ret ?_ | refine WX.then_exit ?_ | refine WX.then_ret ?_ | refine WX.block_normal ?_ | refine WX.block_ret ?_ | refine WX.block_same ?_ | refine WX.block_other rfl ?_ | refine WC.label ?_ | refine WC.scope ?_ | refine WX.scope_normal ?_ | refine WX.scope_ret ?_ | refine WX.scope_exit ?_ | refine WL.y rfl (Yld.pure tab_ok rfl) ?_)
    have hzz : (bif na then -(val o : Int) else (val o : Int)) = (bif na then -(val la : Int) else (val la : Int)) + (bif na then -(val lb : Int) else (val lb : Int)) := by rw [hv5]; cases na <;> simp <;> omega
    rw [hzz] at hN
    exact WX.retc tab_ok rfl rfl rfl hB7 rfl ⟨(hN.stored hB46 zero_no hg7).mono (by omega), gr_new (gr_trans hg13 hg36) hg7 (by omega)⟩
  · simp only [beq_eq_false_iff_ne, ne_eq] at h
    repeat (first | refine WL.y rfl (Yld.bload tab_ok hB13 rfl rfl rfl) ?_ | refine WL.y rfl (Yld.bload tab_ok hB23 rfl rfl rfl) ?_ | refine WL.y rfl (Yld.beql hbt rfl rfl) ?_ | refine WC.seq ?_ | refine WC.block ?_ | refine WC.region ?_ | refine WL.nil ?_ | refine WX.then_normal ?_ | refine WC.skip ?_ | refine WC.exit ?_ | refine WC.ret ?_ | refine WX.then_exit ?_ | refine WX.then_ret ?_ | refine WX.block_normal ?_ | refine WX.block_ret ?_ | refine WX.block_same ?_ | refine WX.block_other rfl ?_ | refine WC.label ?_ | refine WC.scope ?_ | refine WX.scope_normal ?_ | refine WX.scope_ret ?_ | refine WX.scope_exit ?_ | refine WL.y rfl (Yld.pure tab_ok rfl) ?_)
    refine WL.call rfl rfl (cmp_fn A c la B cb lb w3 hA3 hB3 hDa hDb hCa hCb (by omega) (by omega)) ?_
    rintro _ w3b ⟨⟨n, rfl, ht⟩, hw3⟩
    have hw4 := hw3.symm
    subst hw4
    repeat (first | refine WC.seq ?_ | refine WC.block ?_ | refine WC.region ?_ | refine WL.nil ?_ | refine WX.then_normal ?_ | refine WC.skip ?_ | refine WC.exit ?_ | refine WC.ret ?_ | refine WX.then_exit ?_ | refine WX.then_ret ?_ | refine WX.block_normal ?_ | refine WX.block_ret ?_ | refine WX.block_same ?_ | refine WX.block_other rfl ?_ | refine WC.label ?_ | refine WC.scope ?_ | refine WX.scope_normal ?_ | refine WX.scope_ret ?_ | refine WX.scope_exit ?_ | refine WL.y rfl (Yld.pure tab_ok rfl) ?_)
    refine WC.cond rfl (fun h0 => ?_) (fun h0 => ?_)
    · simp only [decide_eq_true_eq] at h0
      have hle : val lb ≤ val la := by rcases ht with h | h | h <;> omega
      have hlen : lb.length ≤ la.length := by
        rcases Nat.lt_or_ge la.length lb.length with h5 | h5
        · have := val_lt_len hDa hCb h5; omega
        · exact h5
      repeat (first | refine WC.seq ?_ | refine WC.block ?_ | refine WC.region ?_ | refine WL.nil ?_ | refine WX.then_normal ?_ | refine WC.skip ?_ | refine WC.exit ?_ | refine WC.ret ?_ | refine WX.then_exit ?_ | refine WX.then_ret ?_ | refine WX.block_normal ?_ | refine WX.block_ret ?_ | refine WX.block_same ?_ | refine WX.block_other rfl ?_ | refine WC.label ?_ | refine WC.scope ?_ | refine WX.scope_normal ?_ | refine WX.scope_ret ?_ | refine WX.scope_exit ?_ | refine WL.y rfl (Yld.pure tab_ok rfl) ?_)
      refine WC.chain (fun k => Nat.blt k 6) (fun w' => w3.grownBy w' (some g4)) mixed (by kernel_rfl) (fun w' e => gr_eqv (gr_refl _ _) e) ?_
      repeat (first | refine WK.y rfl rfl (fun w' h => Yld.bload tab_ok (hB13.keep h (by simp; omega)) rfl rfl rfl) ?_ | refine WK.y rfl rfl (fun w' h => Yld.bload tab_ok (hB23.keep h (by simp; omega)) rfl rfl rfl) ?_ | refine WK.y rfl rfl (fun _ _ => Yld.pure tab_ok rfl) ?_)
      refine WK.call rfl wants_none rfl rfl (minus_fn A c la B cb lb w3 hA3 hB3 hDa hDb (by omega) hlen hle) (fun v w' ⟨_, _, _, _, _, _, _, _, h⟩ w2 e => gr_some (gr_eqv h e) _) ?_
      rintro _ w5 ⟨A5, c5, o, rfl, hR5, hD5, hv5, hl5, hg5⟩
      refine WK.call rfl wants_none rfl rfl (made_fn na A5 c5 o w5 hR5 hD5 (by omega)) (fun v w' ⟨_, h⟩ w2 e => gr_some (gr_eqv (gr_trans hg5 h) e) _) ?_
      rintro r w6 ⟨hN, hg6⟩
      have hB46 := (hB4.keep hg5 (by simp)).keep hg6 (by simp)
      have hg36 := gr_trans hg5 hg6
      obtain ⟨a, b, rfl, ha, hb⟩ := hN.agg
      refine WK.eff rfl (Ef0.storeW (vs := [a, b]) tab_ok rfl rfl rfl (by intro u hu; simp at hu; rcases hu with rfl | rfl <;> assumption) hB46 rfl rfl) (fun w' h => gr_trans (gr_some hg36 _) h.2) ?_
      rintro w7 ⟨hB7, hg7⟩
      refine WK.nil ?_
      repeat (first | refine WC.seq ?_ | refine WC.block ?_ | refine WC.region ?_ | refine WL.nil ?_ | refine WX.then_normal ?_ | refine WC.skip ?_ | refine WC.exit ?_ | refine WC.ret ?_ | refine WX.then_exit ?_ | refine WX.then_ret ?_ | refine WX.block_normal ?_ | refine WX.block_ret ?_ | refine WX.block_same ?_ | refine WX.block_other rfl ?_ | refine WC.label ?_ | refine WC.scope ?_ | refine WX.scope_normal ?_ | refine WX.scope_ret ?_ | refine WX.scope_exit ?_ | refine WL.y rfl (Yld.pure tab_ok rfl) ?_)
      have hzz : (bif na then -(val o : Int) else (val o : Int)) = (bif na then -(val la : Int) else (val la : Int)) + (bif nb then -(val lb : Int) else (val lb : Int)) := by cases na <;> cases nb <;> simp at h ⊢ <;> omega
      rw [hzz] at hN
      exact WX.retc tab_ok rfl rfl rfl hB7 rfl ⟨(hN.stored hB46 zero_no hg7).mono (by omega), gr_new (gr_trans hg13 hg36) hg7 (by omega)⟩
    · simp only [decide_eq_false_iff_not] at h0
      have hle : val la ≤ val lb := by rcases ht with h | h | h <;> omega
      have hlen : la.length ≤ lb.length := by
        rcases Nat.lt_or_ge lb.length la.length with h5 | h5
        · have := val_lt_len hDb hCa h5; omega
        · exact h5
      repeat (first | refine WC.seq ?_ | refine WC.block ?_ | refine WC.region ?_ | refine WL.nil ?_ | refine WX.then_normal ?_ | refine WC.skip ?_ | refine WC.exit ?_ | refine WC.ret ?_ | refine WX.then_exit ?_ | refine WX.then_ret ?_ | refine WX.block_normal ?_ | refine WX.block_ret ?_ | refine WX.block_same ?_ | refine WX.block_other rfl ?_ | refine WC.label ?_ | refine WC.scope ?_ | refine WX.scope_normal ?_ | refine WX.scope_ret ?_ | refine WX.scope_exit ?_ | refine WL.y rfl (Yld.pure tab_ok rfl) ?_)
      refine WC.chain (fun k => Nat.blt k 6) (fun w' => w3.grownBy w' (some g4)) mixed (by kernel_rfl) (fun w' e => gr_eqv (gr_refl _ _) e) ?_
      repeat (first | refine WK.y rfl rfl (fun w' h => Yld.bload tab_ok (hB13.keep h (by simp; omega)) rfl rfl rfl) ?_ | refine WK.y rfl rfl (fun w' h => Yld.bload tab_ok (hB23.keep h (by simp; omega)) rfl rfl rfl) ?_ | refine WK.y rfl rfl (fun _ _ => Yld.pure tab_ok rfl) ?_)
      refine WK.call rfl wants_none rfl rfl (minus_fn B cb lb A c la w3 hB3 hA3 hDb hDa (by omega) hlen hle) (fun v w' ⟨_, _, _, _, _, _, _, _, h⟩ w2 e => gr_some (gr_eqv h e) _) ?_
      rintro _ w5 ⟨A5, c5, o, rfl, hR5, hD5, hv5, hl5, hg5⟩
      refine WK.call rfl wants_none rfl rfl (made_fn nb A5 c5 o w5 hR5 hD5 (by omega)) (fun v w' ⟨_, h⟩ w2 e => gr_some (gr_eqv (gr_trans hg5 h) e) _) ?_
      rintro r w6 ⟨hN, hg6⟩
      have hB46 := (hB4.keep hg5 (by simp)).keep hg6 (by simp)
      have hg36 := gr_trans hg5 hg6
      obtain ⟨a, b, rfl, ha, hb⟩ := hN.agg
      refine WK.eff rfl (Ef0.storeW (vs := [a, b]) tab_ok rfl rfl rfl (by intro u hu; simp at hu; rcases hu with rfl | rfl <;> assumption) hB46 rfl rfl) (fun w' h => gr_trans (gr_some hg36 _) h.2) ?_
      rintro w7 ⟨hB7, hg7⟩
      refine WK.nil ?_
      repeat (first | refine WC.seq ?_ | refine WC.block ?_ | refine WC.region ?_ | refine WL.nil ?_ | refine WX.then_normal ?_ | refine WC.skip ?_ | refine WC.exit ?_ | refine WC.ret ?_ | refine WX.then_exit ?_ | refine WX.then_ret ?_ | refine WX.block_normal ?_ | refine WX.block_ret ?_ | refine WX.block_same ?_ | refine WX.block_other rfl ?_ | refine WC.label ?_ | refine WC.scope ?_ | refine WX.scope_normal ?_ | refine WX.scope_ret ?_ | refine WX.scope_exit ?_ | refine WL.y rfl (Yld.pure tab_ok rfl) ?_)
      have hzz : (bif nb then -(val o : Int) else (val o : Int)) = (bif na then -(val la : Int) else (val la : Int)) + (bif nb then -(val lb : Int) else (val lb : Int)) := by cases na <;> cases nb <;> simp at h ⊢ <;> omega
      rw [hzz] at hN
      exact WX.retc tab_ok rfl rfl rfl hB7 rfl ⟨(hN.stored hB46 zero_no hg7).mono (by omega), gr_new (gr_trans hg13 hg36) hg7 (by omega)⟩
end Go.Proofs.YtilphcippnfklaaDoor
 namespace Go.Proofs.YtilphcippnfklaaDoor
open Go Go.RowKit
attribute [local irreducible] WL WC WX WQ WK Yld Eff Ef0 Fn
theorem sub_fn (va vb_ : Value) (x y : Int) (m : Nat) (w : World) (ha : Nm w va x m) (hb : Nm w vb_ y m) (hm : m ≤ 900000) : Fn Tryd.prog 25 ⟨[va, vb_]⟩ w fun r w' => Nm w' r (x - y) (m + 1) ∧ w.grownBy w' none := by
  obtain ⟨a1, a2, rfl, ho1, ho2⟩ := ha.agg
  obtain ⟨b1, b2, rfl, ho3, ho4⟩ := hb.agg
  refine Fn.enter (by kernel_rfl) Tryd.func25 rfl Tryd.ntmps25 rfl ?_
  repeat (first | refine WC.seq ?_ | refine WC.block ?_ | refine WC.region ?_ | refine WL.nil ?_ | refine WX.then_normal ?_ | refine WC.skip ?_ | refine WC.exit ?_ | refine WC.ret ?_ | refine WX.then_exit ?_ | refine WX.then_ret ?_ | refine WX.block_normal ?_ | refine WX.block_ret ?_ | refine WX.block_same ?_ | refine WX.block_other rfl ?_ | refine WC.label ?_ | refine WC.scope ?_ | refine WX.scope_normal ?_ | refine WX.scope_ret ?_ | refine WX.scope_exit ?_ | refine WL.y rfl (Yld.add rfl rfl (by simp only [In]; omega)) ?_ | refine WL.y rfl (Yld.sub rfl rfl (by simp only [In]; omega)) ?_ | refine WL.y rfl (Yld.mul rfl rfl (by simp only [In]; omega)) ?_ | refine WL.y rfl (Yld.convB tab_ok rfl rfl rfl rfl) ?_ | refine WL.y rfl (Yld.conv tab_ok rfl rfl rfl (by simp only [In]; omega)) ?_ | refine WL.y rfl (Yld.quo rfl rfl (by omega) (by omega) (by simp only [In]; omega)) ?_ | refine WL.y rfl (Yld.rem rfl rfl (by omega) (by omega)) ?_ | refine WL.y rfl (Yld.shl rfl rfl (by omega)) ?_ | refine WL.y rfl (Yld.shr rfl rfl (by omega)) ?_ | refine WL.y rfl (Yld.pure tab_ok rfl) ?_ | refine WL.y rfl (Yld.fld flds_ok rfl rfl rfl) ?_ | refine WL.y rfl (Yld.max2 rfl rfl) ?_ | refine WL.y rfl (Yld.min2 rfl rfl) ?_ | refine WL.y rfl (Yld.pickV rfl rfl rfl) ?_ | refine WL.gno rfl rfl rfl rfl ?_ | refine WL.gyes rfl rfl rfl rfl (Yld.add rfl rfl (by simp only [In]; omega)) ?_ | refine WL.gyes rfl rfl rfl rfl (Yld.sub rfl rfl (by simp only [In]; omega)) ?_ | refine WL.gyes rfl rfl rfl rfl (Yld.mul rfl rfl (by simp only [In]; omega)) ?_ | refine WL.gyes rfl rfl rfl rfl (Yld.convB tab_ok rfl rfl rfl rfl) ?_ | refine WL.gyes rfl rfl rfl rfl (Yld.conv tab_ok rfl rfl rfl (by simp only [In]; omega)) ?_ | refine WL.gyes rfl rfl rfl rfl (Yld.quo rfl rfl (by omega) (by omega) (by simp only [In]; omega)) ?_ | refine WL.gyes rfl rfl rfl rfl (Yld.rem rfl rfl (by omega) (by omega)) ?_ | refine WL.gyes rfl rfl rfl rfl (Yld.shl rfl rfl (by omega)) ?_ | refine WL.gyes rfl rfl rfl rfl (Yld.shr rfl rfl (by omega)) ?_ | refine WL.gyes rfl rfl rfl rfl (Yld.pure tab_ok rfl) ?_ | refine WL.gyes rfl rfl rfl rfl (Yld.fld flds_ok rfl rfl rfl) ?_ | refine WL.gyes rfl rfl rfl rfl (Yld.max2 rfl rfl) ?_ | refine WL.gyes rfl rfl rfl rfl (Yld.min2 rfl rfl) ?_ | refine WL.gyes rfl rfl rfl rfl (Yld.pickV rfl rfl rfl) ?_)
  refine WL.box (us := [a1, a2]) rfl rfl rfl (fun g1 w1 hB1 hg1 hl1 => ?_)
  repeat (first | refine WC.seq ?_ | refine WC.block ?_ | refine WC.region ?_ | refine WL.nil ?_ | refine WX.then_normal ?_ | refine WC.skip ?_ | refine WC.exit ?_ | refine WC.ret ?_ | refine WX.then_exit ?_ | refine WX.then_ret ?_ | refine WX.block_normal ?_ | refine WX.block_ret ?_ | refine WX.block_same ?_ | refine WX.block_other rfl ?_ | refine WC.label ?_ | refine WC.scope ?_ | refine WX.scope_normal ?_ | refine WX.scope_ret ?_ | refine WX.scope_exit ?_ | refine WL.y rfl (Yld.add rfl rfl (by simp only [In]; omega)) ?_ | refine WL.y rfl (Yld.sub rfl rfl (by simp only [In]; omega)) ?_ | refine WL.y rfl (Yld.mul rfl rfl (by simp only [In]; omega)) ?_ | refine WL.y rfl (Yld.convB tab_ok rfl rfl rfl rfl) ?_ | refine WL.y rfl (Yld.conv tab_ok rfl rfl rfl (by simp only [In]; omega)) ?_ | refine WL.y rfl (Yld.quo rfl rfl (by omega) (by omega) (by simp only [In]; omega)) ?_ | refine WL.y rfl (Yld.rem rfl rfl (by omega) (by omega)) ?_ | refine WL.y rfl (Yld.shl rfl rfl (by omega)) ?_ | refine WL.y rfl (Yld.shr rfl rfl (by omega)) ?_ | refine WL.y rfl (Yld.pure tab_ok rfl) ?_ | refine WL.y rfl (Yld.fld flds_ok rfl rfl rfl) ?_ | refine WL.y rfl (Yld.max2 rfl rfl) ?_ | refine WL.y rfl (Yld.min2 rfl rfl) ?_ | refine WL.y rfl (Yld.pickV rfl rfl rfl) ?_ | refine WL.gno rfl rfl rfl rfl ?_ | refine WL.gyes rfl rfl rfl rfl (Yld.add rfl rfl (by simp only [In]; omega)) ?_ | refine WL.gyes rfl rfl rfl rfl (Yld.sub rfl rfl (by simp only [In]; omega)) ?_ | refine WL.gyes rfl rfl rfl rfl (Yld.mul rfl rfl (by simp only [In]; omega)) ?_ | refine WL.gyes rfl rfl rfl rfl (Yld.convB tab_ok rfl rfl rfl rfl) ?_ | refine WL.gyes rfl rfl rfl rfl (Yld.conv tab_ok rfl rfl rfl (by simp only [In]; omega)) ?_ | refine WL.gyes rfl rfl rfl rfl (Yld.quo rfl rfl (by omega) (by omega) (by simp only [In]; omega)) ?_ | refine WL.gyes rfl rfl rfl rfl (Yld.rem rfl rfl (by omega) (by omega)) ?_ | refine WL.gyes rfl rfl rfl rfl (Yld.shl rfl rfl (by omega)) ?_ | refine WL.gyes rfl rfl rfl rfl (Yld.shr rfl rfl (by omega)) ?_ | refine WL.gyes rfl rfl rfl rfl (Yld.pure tab_ok rfl) ?_ | refine WL.gyes rfl rfl rfl rfl (Yld.fld flds_ok rfl rfl rfl) ?_ | refine WL.gyes rfl rfl rfl rfl (Yld.max2 rfl rfl) ?_ | refine WL.gyes rfl rfl rfl rfl (Yld.min2 rfl rfl) ?_ | refine WL.gyes rfl rfl rfl rfl (Yld.pickV rfl rfl rfl) ?_)
  refine WL.box (us := [b1, b2]) rfl rfl rfl (fun g2 w2 hB2 hg2 hl2 => ?_)
  repeat (first | refine WC.seq ?_ | refine WC.block ?_ | refine WC.region ?_ | refine WL.nil ?_ | refine WX.then_normal ?_ | refine WC.skip ?_ | refine WC.exit ?_ | refine WC.ret ?_ | refine WX.then_exit ?_ | refine WX.then_ret ?_ | refine WX.block_normal ?_ | refine WX.block_ret ?_ | refine WX.block_same ?_ | refine WX.block_other rfl ?_ | refine WC.label ?_ | refine WC.scope ?_ | refine WX.scope_normal ?_ | refine WX.scope_ret ?_ | refine WX.scope_exit ?_ | refine WL.y rfl (Yld.add rfl rfl (by simp only [In]; omega)) ?_ | refine WL.y rfl (Yld.sub rfl rfl (by simp only [In]; omega)) ?_ | refine WL.y rfl (Yld.mul rfl rfl (by simp only [In]; omega)) ?_ | refine WL.y rfl (Yld.convB tab_ok rfl rfl rfl rfl) ?_ | refine WL.y rfl (Yld.conv tab_ok rfl rfl rfl (by simp only [In]; omega)) ?_ | refine WL.y rfl (Yld.quo rfl rfl (by omega) (by omega) (by simp only [In]; omega)) ?_ | refine WL.y rfl (Yld.rem rfl rfl (by omega) (by omega)) ?_ | refine WL.y rfl (Yld.shl rfl rfl (by omega)) ?_ | refine WL.y rfl (Yld.shr rfl rfl (by omega)) ?_ | refine WL.y rfl (Yld.pure tab_ok rfl) ?_ | refine WL.y rfl (Yld.fld flds_ok rfl rfl rfl) ?_ | refine WL.y rfl (Yld.max2 rfl rfl) ?_ | refine WL.y rfl (Yld.min2 rfl rfl) ?_ | refine WL.y rfl (Yld.pickV rfl rfl rfl) ?_ | refine WL.gno rfl rfl rfl rfl ?_ | refine WL.gyes rfl rfl rfl rfl (Yld.add rfl rfl (by simp only [In]; omega)) ?_ | refine WL.gyes rfl rfl rfl rfl (Yld.sub rfl rfl (by simp only [In]; omega)) ?_ | refine WL.gyes rfl rfl rfl rfl (Yld.mul rfl rfl (by simp only [In]; omega)) ?_ | refine WL.gyes rfl rfl rfl rfl (Yld.convB tab_ok rfl rfl rfl rfl) ?_ | refine WL.gyes rfl rfl rfl rfl (Yld.conv tab_ok rfl rfl rfl (by simp only [In]; omega)) ?_ | refine WL.gyes rfl rfl rfl rfl (Yld.quo rfl rfl (by omega) (by omega) (by simp only [In]; omega)) ?_ | refine WL.gyes rfl rfl rfl rfl (Yld.rem rfl rfl (by omega) (by omega)) ?_ | refine WL.gyes rfl rfl rfl rfl (Yld.shl rfl rfl (by omega)) ?_ | refine WL.gyes rfl rfl rfl rfl (Yld.shr rfl rfl (by omega)) ?_ | refine WL.gyes rfl rfl rfl rfl (Yld.pure tab_ok rfl) ?_ | refine WL.gyes rfl rfl rfl rfl (Yld.fld flds_ok rfl rfl rfl) ?_ | refine WL.gyes rfl rfl rfl rfl (Yld.max2 rfl rfl) ?_ | refine WL.gyes rfl rfl rfl rfl (Yld.min2 rfl rfl) ?_ | refine WL.gyes rfl rfl rfl rfl (Yld.pickV rfl rfl rfl) ?_)
  refine WL.alloc rfl zero44 (fun g4 w3 hB4 hg3 hl4 => ?_)
  have h1 := hB1.lt
  have h2 := hB2.lt
  have hz1 := hg1.size
  have hz2 := hg2.size
  have hB13 := (hB1.keep hg2 (by simp)).keep hg3 (by simp)
  have hB23 := hB2.keep hg3 (by simp)
  have hg13 := gr_trans (gr_trans hg1 hg2) hg3
  repeat (first | refine WC.seq ?_ | refine WC.block ?_ | refine WC.region ?_ | refine WL.nil ?_ | refine WX.then_normal ?_ | refine WC.skip ?_ | refine WC.exit ?_ | refine WC.ret ?_ | refine WX.then_exit ?_ | refine WX.then_ret ?_ | refine WX.block_normal ?_ | refine WX.block_ret ?_ | refine WX.block_same ?_ | refine WX.block_other rfl ?_ | refine WC.label ?_ | refine WC.scope ?_ | refine WX.scope_normal ?_ | refine WX.scope_ret ?_ | refine WX.scope_exit ?_ | refine WL.y rfl (Yld.add rfl rfl (by simp only [In]; omega)) ?_ | refine WL.y rfl (Yld.sub rfl rfl (by simp only [In]; omega)) ?_ | refine WL.y rfl (Yld.mul rfl rfl (by simp only [In]; omega)) ?_ | refine WL.y rfl (Yld.convB tab_ok rfl rfl rfl rfl) ?_ | refine WL.y rfl (Yld.conv tab_ok rfl rfl rfl (by simp only [In]; omega)) ?_ | refine WL.y rfl (Yld.quo rfl rfl (by omega) (by omega) (by simp only [In]; omega)) ?_ | refine WL.y rfl (Yld.rem rfl rfl (by omega) (by omega)) ?_ | refine WL.y rfl (Yld.shl rfl rfl (by omega)) ?_ | refine WL.y rfl (Yld.shr rfl rfl (by omega)) ?_ | refine WL.y rfl (Yld.pure tab_ok rfl) ?_ | refine WL.y rfl (Yld.fld flds_ok rfl rfl rfl) ?_ | refine WL.y rfl (Yld.max2 rfl rfl) ?_ | refine WL.y rfl (Yld.min2 rfl rfl) ?_ | refine WL.y rfl (Yld.pickV rfl rfl rfl) ?_ | refine WL.gno rfl rfl rfl rfl ?_ | refine WL.gyes rfl rfl rfl rfl (Yld.add rfl rfl (by simp only [In]; omega)) ?_ | refine WL.gyes rfl rfl rfl rfl (Yld.sub rfl rfl (by simp only [In]; omega)) ?_ | refine WL.gyes rfl rfl rfl rfl (Yld.mul rfl rfl (by simp only [In]; omega)) ?_ | refine WL.gyes rfl rfl rfl rfl (Yld.convB tab_ok rfl rfl rfl rfl) ?_ | refine WL.gyes rfl rfl rfl rfl (Yld.conv tab_ok rfl rfl rfl (by simp only [In]; omega)) ?_ | refine WL.gyes rfl rfl rfl rfl (Yld.quo rfl rfl (by omega) (by omega) (by simp only [In]; omega)) ?_ | refine WL.gyes rfl rfl rfl rfl (Yld.rem rfl rfl (by omega) (by omega)) ?_ | refine WL.gyes rfl rfl rfl rfl (Yld.shl rfl rfl (by omega)) ?_ | refine WL.gyes rfl rfl rfl rfl (Yld.shr rfl rfl (by omega)) ?_ | refine WL.gyes rfl rfl rfl rfl (Yld.pure tab_ok rfl) ?_ | refine WL.gyes rfl rfl rfl rfl (Yld.fld flds_ok rfl rfl rfl) ?_ | refine WL.gyes rfl rfl rfl rfl (Yld.max2 rfl rfl) ?_ | refine WL.gyes rfl rfl rfl rfl (Yld.min2 rfl rfl) ?_ | refine WL.gyes rfl rfl rfl rfl (Yld.pickV rfl rfl rfl) ?_)
  refine WC.chain (fun k => Nat.blt k 2) (fun w' => w3.grownBy w' (some g4)) mixed (by kernel_rfl) (fun w' e => gr_eqv (gr_refl _ _) e) ?_
  refine WK.y rfl rfl (fun w' h => Yld.bagg (vs := [a1, a2]) tab_ok (hB13.keep h (by simp; omega)) rfl rfl rfl rfl) ?_
  refine WK.y rfl rfl (fun w' h => Yld.bagg (vs := [b1, b2]) tab_ok (hB23.keep h (by simp; omega)) rfl rfl rfl rfl) ?_
  refine WK.call rfl wants_none rfl rfl (neg_fn _ y m w3 (hb.grown hg13) (by omega)) (fun v w' h w2 e => gr_some (gr_eqv h.2 e) _) ?_
  rintro r5 w5 ⟨hN5, hg5⟩
  refine WK.call rfl wants_none rfl rfl (add_fn _ _ x (-y) m w5 ((ha.grown hg13).grown hg5) hN5 hm) (fun v w' h w2 e => gr_some (gr_eqv (gr_trans hg5 h.2) e) _) ?_
  rintro r w6 ⟨hN, hg6⟩
  have hB46 := (hB4.keep hg5 (by simp)).keep hg6 (by simp)
  have hg36 := gr_trans hg5 hg6
  obtain ⟨a, b, rfl, hoa, hob⟩ := hN.agg
  refine WK.eff rfl (Ef0.storeW (vs := [a, b]) tab_ok rfl rfl rfl (by intro u hu; simp at hu; rcases hu with rfl | rfl <;> assumption) hB46 rfl rfl) (fun w' h => gr_trans (gr_some hg36 _) h.2) ?_
  rintro w7 ⟨hB7, hg7⟩
  refine WK.nil ?_
  repeat (first | refine WC.seq ?_ | refine WC.block ?_ | refine WC.region ?_ | refine WL.nil ?_ | refine WX.then_normal ?_ | refine WC.skip ?_ | refine WC.exit ?_ | refine WC.ret ?_ | refine WX.then_exit ?_ | refine WX.then_ret ?_ | refine WX.block_normal ?_ | refine WX.block_ret ?_ | refine WX.block_same ?_ | refine WX.block_other rfl ?_ | refine WC.label ?_ | refine WC.scope ?_ | refine WX.scope_normal ?_ | refine WX.scope_ret ?_ | refine WX.scope_exit ?_ | refine WL.y rfl (Yld.add rfl rfl (by simp only [In]; omega)) ?_ | refine WL.y rfl (Yld.sub rfl rfl (by simp only [In]; omega)) ?_ | refine WL.y rfl (Yld.mul rfl rfl (by simp only [In]; omega)) ?_ | refine WL.y rfl (Yld.convB tab_ok rfl rfl rfl rfl) ?_ | refine WL.y rfl (Yld.conv tab_ok rfl rfl rfl (by simp only [In]; omega)) ?_ | refine WL.y rfl (Yld.quo rfl rfl (by omega) (by omega) (by simp only [In]; omega)) ?_ | refine WL.y rfl (Yld.rem rfl rfl (by omega) (by omega)) ?_ | refine WL.y rfl (Yld.shl rfl rfl (by omega)) ?_ | refine WL.y rfl (Yld.shr rfl rfl (by omega)) ?_ | refine WL.y rfl (Yld.pure tab_ok rfl) ?_ | refine WL.y rfl (Yld.fld flds_ok rfl rfl rfl) ?_ | refine WL.y rfl (Yld.max2 rfl rfl) ?_ | refine WL.y rfl (Yld.min2 rfl rfl) ?_ | refine WL.y rfl (Yld.pickV rfl rfl rfl) ?_ | refine WL.gno rfl rfl rfl rfl ?_ | refine WL.gyes rfl rfl rfl rfl (Yld.add rfl rfl (by simp only [In]; omega)) ?_ | refine WL.gyes rfl rfl rfl rfl (Yld.sub rfl rfl (by simp only [In]; omega)) ?_ | refine WL.gyes rfl rfl rfl rfl (Yld.mul rfl rfl (by simp only [In]; omega)) ?_ | refine WL.gyes rfl rfl rfl rfl (Yld.convB tab_ok rfl rfl rfl rfl) ?_ | refine WL.gyes rfl rfl rfl rfl (Yld.conv tab_ok rfl rfl rfl (by simp only [In]; omega)) ?_ | refine WL.gyes rfl rfl rfl rfl (Yld.quo rfl rfl (by omega) (by omega) (by simp only [In]; omega)) ?_ | refine WL.gyes rfl rfl rfl rfl (Yld.rem rfl rfl (by omega) (by omega)) ?_ | refine WL.gyes rfl rfl rfl rfl (Yld.shl rfl rfl (by omega)) ?_ | refine WL.gyes rfl rfl rfl rfl (Yld.shr rfl rfl (by omega)) ?_ | refine WL.gyes rfl rfl rfl rfl (Yld.pure tab_ok rfl) ?_ | refine WL.gyes rfl rfl rfl rfl (Yld.fld flds_ok rfl rfl rfl) ?_ | refine WL.gyes rfl rfl rfl rfl (Yld.max2 rfl rfl) ?_ | refine WL.gyes rfl rfl rfl rfl (Yld.min2 rfl rfl) ?_ | refine WL.gyes rfl rfl rfl rfl (Yld.pickV rfl rfl rfl) ?_)
  rw [show x + -y = x - y by omega] at hN
  exact WX.retc tab_ok rfl rfl rfl hB7 rfl ⟨hN.stored hB46 zero_no hg7, gr_new (gr_trans hg13 hg36) hg7 (by omega)⟩
end Go.Proofs.YtilphcippnfklaaDoor
 namespace Go.Proofs.YtilphcippnfklaaDoor
open Go Go.RowKit
attribute [local irreducible] WL WC WX WQ WK Yld Eff Ef0 Fn
theorem val_pos {l : List Nat} (hC : Can l) (h : l ≠ []) : 0 < val l := by
  have := (val_zero hC).mp
  rcases Nat.eq_zero_or_pos (val l) with e | e
  · exact absurd (this e) h
  · exact e
theorem tells_sign {n : Int} {x y : Nat} (ht : Tells n x y) : (if n < 0 then (-1 : Int) else if n > 0 then 1 else 0) = if (x : Int) < (y : Int) then -1 else if (y : Int) < (x : Int) then 1 else 0 := by
  rcases ht with h | h | h <;> (repeat' split) <;> omega
theorem tells_sign' {n : Int} {x y : Nat} (ht : Tells n y x) : (if n < 0 then (-1 : Int) else if n > 0 then 1 else 0) = if -(x : Int) < -(y : Int) then -1 else if -(y : Int) < -(x : Int) then 1 else 0 := by
  rcases ht with h | h | h <;> (repeat' split) <;> omega
set_option maxHeartbeats 1000000 in
theorem ncmp_fn (va vb_ : Value) (x y : Int) (m : Nat) (w : World) (ha : Nm w va x m) (hb : Nm w vb_ y m) (hm : m ≤ 900000) : Fn Tryd.prog 26 ⟨[va, vb_]⟩ w fun r w' => r = vi (if x < y then -1 else if y < x then 1 else 0) ∧ w.grownBy w' none := by
  obtain ⟨na, A, c, la, rfl, hA, hDa, hCa, hla, hna, rfl⟩ := ha
  obtain ⟨nb, B, cb, lb, rfl, hB, hDb, hCb, hlb, hnb, rfl⟩ := hb
  refine Fn.enter (by kernel_rfl) Tryd.func26 rfl Tryd.ntmps26 rfl ?_
  repeat (first | refine WC.seq ?_ | refine WC.block ?_ | refine WC.region ?_ | refine WL.nil ?_ | refine WX.then_normal ?_ | refine WC.skip ?_ | refine WC.exit ?_ | refine WC.ret ?_ | refine WX.then_exit ?_ | refine WX.then_ret ?_ | refine WX.block_normal ?_ | refine WX.block_ret ?_ | refine WX.block_same ?_ | refine WX.block_other rfl ?_ | refine WC.label ?_ | refine WC.scope ?_ | refine WX.scope_normal ?_ | refine WX.scope_ret ?_ | refine WX.scope_exit ?_ | refine WL.y rfl (Yld.pure tab_ok rfl) ?_ | refine WL.y rfl (Yld.pickV rfl rfl rfl) ?_ | refine WL.gno rfl rfl rfl rfl ?_ | refine WL.gyes rfl rfl rfl rfl (Yld.pure tab_ok rfl) ?_)
  refine WL.box (us := [.bool na, .slice A la.length c]) rfl rfl rfl (fun g1 w1 hB1 hg1 hl1 => ?_)
  repeat (first | refine WC.seq ?_ | refine WC.block ?_ | refine WC.region ?_ | refine WL.nil ?_ | refine WX.then_normal ?_ | refine WC.skip ?_ | refine WC.exit ?_ | refine WC.ret ?_ | refine WX.then_exit ?_ | refine WX.then_ret ?_ | refine WX.block_normal ?_ | refine WX.block_ret ?_ | refine WX.block_same ?_ | refine WX.block_other rfl ?_ | refine WC.label ?_ | refine WC.scope ?_ | refine WX.scope_normal ?_ | refine WX.scope_ret ?_ | refine WX.scope_exit ?_ | refine WL.y rfl (Yld.pure tab_ok rfl) ?_ | refine WL.y rfl (Yld.pickV rfl rfl rfl) ?_ | refine WL.gno rfl rfl rfl rfl ?_ | refine WL.gyes rfl rfl rfl rfl (Yld.pure tab_ok rfl) ?_)
  refine WL.box (us := [.bool nb, .slice B lb.length cb]) rfl rfl rfl (fun g2 w2 hB2 hg2 hl2 => ?_)
  have hB12 := hB1.keep hg2 (by simp)
  have hg12 := gr_trans hg1 hg2
  have hA2 := hA.grown hg12
  have hB22 := hB.grown hg12
  have hbt := Tryd.underlying4
  cases na <;> cases nb
  · repeat (first | refine WL.y rfl (Yld.bload tab_ok hB12 rfl rfl rfl) ?_ | refine WL.y rfl (Yld.bload tab_ok hB2 rfl rfl rfl) ?_ | refine WL.y rfl (Yld.bneq hbt rfl rfl) ?_ | refine WL.gyes rfl rfl rfl rfl (Yld.bload tab_ok hB12 rfl rfl rfl) ?_ | refine WC.seq ?_ | refine WC.block ?_ | refine WC.region ?_ | refine WL.nil ?_ | refine WX.then_normal ?_ | refine WC.skip ?_ | refine WC.exit ?_ | refine WC.ret ?_ | refine WX.then_exit ?_ | refine WX.then_ret ?_ | refine WX.block_normal ?_ | refine WX.block_ret ?_ | refine WX.block_same ?_ | refine WX.block_other rfl ?_ | refine WC.label ?_ | refine WC.scope ?_ | refine WX.scope_normal ?_ | refine WX.scope_ret ?_ | refine WX.scope_exit ?_ | refine WL.y rfl (Yld.pure tab_ok rfl) ?_ | refine WL.y rfl (Yld.pickV rfl rfl rfl) ?_ | refine WL.gno rfl rfl rfl rfl ?_ | refine WL.gyes rfl rfl rfl rfl (Yld.pure tab_ok rfl) ?_)
    refine WC.cond rfl (fun h => by cases h) (fun _ => ?_)
    repeat (first | refine WL.y rfl (Yld.bload tab_ok hB12 rfl rfl rfl) ?_ | refine WL.y rfl (Yld.bload tab_ok hB2 rfl rfl rfl) ?_ | refine WL.y rfl (Yld.bneq hbt rfl rfl) ?_ | refine WL.gyes rfl rfl rfl rfl (Yld.bload tab_ok hB12 rfl rfl rfl) ?_ | refine WC.seq ?_ | refine WC.block ?_ | refine WC.region ?_ | refine WL.nil ?_ | refine WX.then_normal ?_ | refine WC.skip ?_ | refine WC.exit ?_ | refine WC.ret ?_ | refine WX.then_exit ?_ | refine WX.then_ret ?_ | refine WX.block_normal ?_ | refine WX.block_ret ?_ | refine WX.block_same ?_ | refine WX.block_other rfl ?_ | refine WC.label ?_ | refine WC.scope ?_ | refine WX.scope_normal ?_ | refine WX.scope_ret ?_ | refine WX.scope_exit ?_ | refine WL.y rfl (Yld.pure tab_ok rfl) ?_ | refine WL.y rfl (Yld.pickV rfl rfl rfl) ?_ | refine WL.gno rfl rfl rfl rfl ?_ | refine WL.gyes rfl rfl rfl rfl (Yld.pure tab_ok rfl) ?_)
    refine WC.cond rfl (fun h => by cases h) (fun _ => ?_)
    repeat (first | refine WL.y rfl (Yld.bload tab_ok hB12 rfl rfl rfl) ?_ | refine WL.y rfl (Yld.bload tab_ok hB2 rfl rfl rfl) ?_ | refine WL.y rfl (Yld.bneq hbt rfl rfl) ?_ | refine WL.gyes rfl rfl rfl rfl (Yld.bload tab_ok hB12 rfl rfl rfl) ?_ | refine WC.seq ?_ | refine WC.block ?_ | refine WC.region ?_ | refine WL.nil ?_ | refine WX.then_normal ?_ | refine WC.skip ?_ | refine WC.exit ?_ | refine WC.ret ?_ | refine WX.then_exit ?_ | refine WX.then_ret ?_ | refine WX.block_normal ?_ | refine WX.block_ret ?_ | refine WX.block_same ?_ | refine WX.block_other rfl ?_ | refine WC.label ?_ | refine WC.scope ?_ | refine WX.scope_normal ?_ | refine WX.scope_ret ?_ | refine WX.scope_exit ?_ | refine WL.y rfl (Yld.pure tab_ok rfl) ?_ | refine WL.y rfl (Yld.pickV rfl rfl rfl) ?_ | refine WL.gno rfl rfl rfl rfl ?_ | refine WL.gyes rfl rfl rfl rfl (Yld.pure tab_ok rfl) ?_)
    refine WC.cond rfl (fun h => by cases h) (fun _ => ?_)
    repeat (first | refine WL.y rfl (Yld.bload tab_ok hB12 rfl rfl rfl) ?_ | refine WL.y rfl (Yld.bload tab_ok hB2 rfl rfl rfl) ?_ | refine WL.y rfl (Yld.bneq hbt rfl rfl) ?_ | refine WL.gyes rfl rfl rfl rfl (Yld.bload tab_ok hB12 rfl rfl rfl) ?_ | refine WC.seq ?_ | refine WC.block ?_ | refine WC.region ?_ | refine WL.nil ?_ | refine WX.then_normal ?_ | refine WC.skip ?_ | refine WC.exit ?_ | refine WC.ret ?_ | refine WX.then_exit ?_ | refine WX.then_ret ?_ | refine WX.block_normal ?_ | refine WX.block_ret ?_ | refine WX.block_same ?_ | refine WX.block_other rfl ?_ | refine WC.label ?_ | refine WC.scope ?_ | refine WX.scope_normal ?_ | refine WX.scope_ret ?_ | refine WX.scope_exit ?_ | refine WL.y rfl (Yld.pure tab_ok rfl) ?_ | refine WL.y rfl (Yld.pickV rfl rfl rfl) ?_ | refine WL.gno rfl rfl rfl rfl ?_ | refine WL.gyes rfl rfl rfl rfl (Yld.pure tab_ok rfl) ?_)
    refine WL.call rfl rfl (cmp_fn A c la B cb lb w2 hA2 hB22 hDa hDb hCa hCb (by omega) (by omega)) ?_
    rintro _ w3 ⟨⟨n, rfl, ht⟩, hw3⟩
    have hw4 := hw3.symm
    subst hw4
    refine WL.call rfl rfl (sign_fn n w2) ?_
    rintro _ w4 ⟨rfl, hw5⟩
    have hw6 := hw5.symm
    subst hw6
    repeat (first | refine WC.seq ?_ | refine WC.block ?_ | refine WC.region ?_ | refine WL.nil ?_ | refine WX.then_normal ?_ | refine WC.skip ?_ | refine WC.exit ?_ | refine WC.ret ?_ | refine WX.then_exit ?_ | refine WX.then_ret ?_ | refine WX.block_normal ?_ | refine WX.block_ret ?_ | refine WX.block_same ?_ | refine WX.block_other rfl ?_ | refine WC.label ?_ | refine WC.scope ?_ | refine WX.scope_normal ?_ | refine WX.scope_ret ?_ | refine WX.scope_exit ?_ | refine WL.y rfl (Yld.pure tab_ok rfl) ?_ | refine WL.y rfl (Yld.pickV rfl rfl rfl) ?_ | refine WL.gno rfl rfl rfl rfl ?_ | refine WL.gyes rfl rfl rfl rfl (Yld.pure tab_ok rfl) ?_)
    refine WX.ret1 rfl rfl ⟨?_, hg12⟩
    simp only [cond_false]
    exact congrArg vi (tells_sign ht)
  · repeat (first | refine WL.y rfl (Yld.bload tab_ok hB12 rfl rfl rfl) ?_ | refine WL.y rfl (Yld.bload tab_ok hB2 rfl rfl rfl) ?_ | refine WL.y rfl (Yld.bneq hbt rfl rfl) ?_ | refine WL.gyes rfl rfl rfl rfl (Yld.bload tab_ok hB12 rfl rfl rfl) ?_ | refine WC.seq ?_ | refine WC.block ?_ | refine WC.region ?_ | refine WL.nil ?_ | refine WX.then_normal ?_ | refine WC.skip ?_ | refine WC.exit ?_ | refine WC.ret ?_ | refine WX.then_exit ?_ | refine WX.then_ret ?_ | refine WX.block_normal ?_ | refine WX.block_ret ?_ | refine WX.block_same ?_ | refine WX.block_other rfl ?_ | refine WC.label ?_ | refine WC.scope ?_ | refine WX.scope_normal ?_ | refine WX.scope_ret ?_ | refine WX.scope_exit ?_ | refine WL.y rfl (Yld.pure tab_ok rfl) ?_ | refine WL.y rfl (Yld.pickV rfl rfl rfl) ?_ | refine WL.gno rfl rfl rfl rfl ?_ | refine WL.gyes rfl rfl rfl rfl (Yld.pure tab_ok rfl) ?_)
    refine WC.cond rfl (fun h => by cases h) (fun _ => ?_)
    repeat (first | refine WL.y rfl (Yld.bload tab_ok hB12 rfl rfl rfl) ?_ | refine WL.y rfl (Yld.bload tab_ok hB2 rfl rfl rfl) ?_ | refine WL.y rfl (Yld.bneq hbt rfl rfl) ?_ | refine WL.gyes rfl rfl rfl rfl (Yld.bload tab_ok hB12 rfl rfl rfl) ?_ | refine WC.seq ?_ | refine WC.block ?_ | refine WC.region ?_ | refine WL.nil ?_ | refine WX.then_normal ?_ | refine WC.skip ?_ | refine WC.exit ?_ | refine WC.ret ?_ | refine WX.then_exit ?_ | refine WX.then_ret ?_ | refine WX.block_normal ?_ | refine WX.block_ret ?_ | refine WX.block_same ?_ | refine WX.block_other rfl ?_ | refine WC.label ?_ | refine WC.scope ?_ | refine WX.scope_normal ?_ | refine WX.scope_ret ?_ | refine WX.scope_exit ?_ | refine WL.y rfl (Yld.pure tab_ok rfl) ?_ | refine WL.y rfl (Yld.pickV rfl rfl rfl) ?_ | refine WL.gno rfl rfl rfl rfl ?_ | refine WL.gyes rfl rfl rfl rfl (Yld.pure tab_ok rfl) ?_)
    refine WC.cond rfl (fun _ => ?_) (fun h => by cases h)
    repeat (first | refine WL.y rfl (Yld.bload tab_ok hB12 rfl rfl rfl) ?_ | refine WL.y rfl (Yld.bload tab_ok hB2 rfl rfl rfl) ?_ | refine WL.y rfl (Yld.bneq hbt rfl rfl) ?_ | refine WL.gyes rfl rfl rfl rfl (Yld.bload tab_ok hB12 rfl rfl rfl) ?_ | refine WC.seq ?_ | refine WC.block ?_ | refine WC.region ?_ | refine WL.nil ?_ | refine WX.then_normal ?_ | refine WC.skip ?_ | refine WC.exit ?_ | refine WC.ret ?_ | refine WX.then_exit ?_ | refine WX.then_ret ?_ | refine WX.block_normal ?_ | refine WX.block_ret ?_ | refine WX.block_same ?_ | refine WX.block_other rfl ?_ | refine WC.label ?_ | refine WC.scope ?_ | refine WX.scope_normal ?_ | refine WX.scope_ret ?_ | refine WX.scope_exit ?_ | refine WL.y rfl (Yld.pure tab_ok rfl) ?_ | refine WL.y rfl (Yld.pickV rfl rfl rfl) ?_ | refine WL.gno rfl rfl rfl rfl ?_ | refine WL.gyes rfl rfl rfl rfl (Yld.pure tab_ok rfl) ?_)
    have hp := val_pos hCb (hnb rfl)
    refine WX.ret1 rfl rfl ⟨?_, hg12⟩
    simp only [cond_true, cond_false]
    rw [if_neg (by omega), if_pos (by omega)]
    rfl
  · repeat (first | refine WL.y rfl (Yld.bload tab_ok hB12 rfl rfl rfl) ?_ | refine WL.y rfl (Yld.bload tab_ok hB2 rfl rfl rfl) ?_ | refine WL.y rfl (Yld.bneq hbt rfl rfl) ?_ | refine WL.gyes rfl rfl rfl rfl (Yld.bload tab_ok hB12 rfl rfl rfl) ?_ | refine WC.seq ?_ | refine WC.block ?_ | refine WC.region ?_ | refine WL.nil ?_ | refine WX.then_normal ?_ | refine WC.skip ?_ | refine WC.exit ?_ | refine WC.ret ?_ | refine WX.then_exit ?_ | refine WX.then_ret ?_ | refine WX.block_normal ?_ | refine WX.block_ret ?_ | refine WX.block_same ?_ | refine WX.block_other rfl ?_ | refine WC.label ?_ | refine WC.scope ?_ | refine WX.scope_normal ?_ | refine WX.scope_ret ?_ | refine WX.scope_exit ?_ | refine WL.y rfl (Yld.pure tab_ok rfl) ?_ | refine WL.y rfl (Yld.pickV rfl rfl rfl) ?_ | refine WL.gno rfl rfl rfl rfl ?_ | refine WL.gyes rfl rfl rfl rfl (Yld.pure tab_ok rfl) ?_)
    refine WC.cond rfl (fun _ => ?_) (fun h => by cases h)
    repeat (first | refine WL.y rfl (Yld.bload tab_ok hB12 rfl rfl rfl) ?_ | refine WL.y rfl (Yld.bload tab_ok hB2 rfl rfl rfl) ?_ | refine WL.y rfl (Yld.bneq hbt rfl rfl) ?_ | refine WL.gyes rfl rfl rfl rfl (Yld.bload tab_ok hB12 rfl rfl rfl) ?_ | refine WC.seq ?_ | refine WC.block ?_ | refine WC.region ?_ | refine WL.nil ?_ | refine WX.then_normal ?_ | refine WC.skip ?_ | refine WC.exit ?_ | refine WC.ret ?_ | refine WX.then_exit ?_ | refine WX.then_ret ?_ | refine WX.block_normal ?_ | refine WX.block_ret ?_ | refine WX.block_same ?_ | refine WX.block_other rfl ?_ | refine WC.label ?_ | refine WC.scope ?_ | refine WX.scope_normal ?_ | refine WX.scope_ret ?_ | refine WX.scope_exit ?_ | refine WL.y rfl (Yld.pure tab_ok rfl) ?_ | refine WL.y rfl (Yld.pickV rfl rfl rfl) ?_ | refine WL.gno rfl rfl rfl rfl ?_ | refine WL.gyes rfl rfl rfl rfl (Yld.pure tab_ok rfl) ?_)
    have hp := val_pos hCa (hna rfl)
    refine WX.ret1 rfl rfl ⟨?_, hg12⟩
    simp only [cond_true, cond_false]
    rw [if_pos (by omega)]
    rfl
  · repeat (first | refine WL.y rfl (Yld.bload tab_ok hB12 rfl rfl rfl) ?_ | refine WL.y rfl (Yld.bload tab_ok hB2 rfl rfl rfl) ?_ | refine WL.y rfl (Yld.bneq hbt rfl rfl) ?_ | refine WL.gyes rfl rfl rfl rfl (Yld.bload tab_ok hB12 rfl rfl rfl) ?_ | refine WC.seq ?_ | refine WC.block ?_ | refine WC.region ?_ | refine WL.nil ?_ | refine WX.then_normal ?_ | refine WC.skip ?_ | refine WC.exit ?_ | refine WC.ret ?_ | refine WX.then_exit ?_ | refine WX.then_ret ?_ | refine WX.block_normal ?_ | refine WX.block_ret ?_ | refine WX.block_same ?_ | refine WX.block_other rfl ?_ | refine WC.label ?_ | refine WC.scope ?_ | refine WX.scope_normal ?_ | refine WX.scope_ret ?_ | refine WX.scope_exit ?_ | refine WL.y rfl (Yld.pure tab_ok rfl) ?_ | refine WL.y rfl (Yld.pickV rfl rfl rfl) ?_ | refine WL.gno rfl rfl rfl rfl ?_ | refine WL.gyes rfl rfl rfl rfl (Yld.pure tab_ok rfl) ?_)
    refine WC.cond rfl (fun h => by cases h) (fun _ => ?_)
    repeat (first | refine WL.y rfl (Yld.bload tab_ok hB12 rfl rfl rfl) ?_ | refine WL.y rfl (Yld.bload tab_ok hB2 rfl rfl rfl) ?_ | refine WL.y rfl (Yld.bneq hbt rfl rfl) ?_ | refine WL.gyes rfl rfl rfl rfl (Yld.bload tab_ok hB12 rfl rfl rfl) ?_ | refine WC.seq ?_ | refine WC.block ?_ | refine WC.region ?_ | refine WL.nil ?_ | refine WX.then_normal ?_ | refine WC.skip ?_ | refine WC.exit ?_ | refine WC.ret ?_ | refine WX.then_exit ?_ | refine WX.then_ret ?_ | refine WX.block_normal ?_ | refine WX.block_ret ?_ | refine WX.block_same ?_ | refine WX.block_other rfl ?_ | refine WC.label ?_ | refine WC.scope ?_ | refine WX.scope_normal ?_ | refine WX.scope_ret ?_ | refine WX.scope_exit ?_ | refine WL.y rfl (Yld.pure tab_ok rfl) ?_ | refine WL.y rfl (Yld.pickV rfl rfl rfl) ?_ | refine WL.gno rfl rfl rfl rfl ?_ | refine WL.gyes rfl rfl rfl rfl (Yld.pure tab_ok rfl) ?_)
    refine WC.cond rfl (fun h => by cases h) (fun _ => ?_)
    repeat (first | refine WL.y rfl (Yld.bload tab_ok hB12 rfl rfl rfl) ?_ | refine WL.y rfl (Yld.bload tab_ok hB2 rfl rfl rfl) ?_ | refine WL.y rfl (Yld.bneq hbt rfl rfl) ?_ | refine WL.gyes rfl rfl rfl rfl (Yld.bload tab_ok hB12 rfl rfl rfl) ?_ | refine WC.seq ?_ | refine WC.block ?_ | refine WC.region ?_ | refine WL.nil ?_ | refine WX.then_normal ?_ | refine WC.skip ?_ | refine WC.exit ?_ | refine WC.ret ?_ | refine WX.then_exit ?_ | refine WX.then_ret ?_ | refine WX.block_normal ?_ | refine WX.block_ret ?_ | refine WX.block_same ?_ | refine WX.block_other rfl ?_ | refine WC.label ?_ | refine WC.scope ?_ | refine WX.scope_normal ?_ | refine WX.scope_ret ?_ | refine WX.scope_exit ?_ | refine WL.y rfl (Yld.pure tab_ok rfl) ?_ | refine WL.y rfl (Yld.pickV rfl rfl rfl) ?_ | refine WL.gno rfl rfl rfl rfl ?_ | refine WL.gyes rfl rfl rfl rfl (Yld.pure tab_ok rfl) ?_)
    refine WC.cond rfl (fun _ => ?_) (fun h => by cases h)
    repeat (first | refine WL.y rfl (Yld.bload tab_ok hB12 rfl rfl rfl) ?_ | refine WL.y rfl (Yld.bload tab_ok hB2 rfl rfl rfl) ?_ | refine WL.y rfl (Yld.bneq hbt rfl rfl) ?_ | refine WL.gyes rfl rfl rfl rfl (Yld.bload tab_ok hB12 rfl rfl rfl) ?_ | refine WC.seq ?_ | refine WC.block ?_ | refine WC.region ?_ | refine WL.nil ?_ | refine WX.then_normal ?_ | refine WC.skip ?_ | refine WC.exit ?_ | refine WC.ret ?_ | refine WX.then_exit ?_ | refine WX.then_ret ?_ | refine WX.block_normal ?_ | refine WX.block_ret ?_ | refine WX.block_same ?_ | refine WX.block_other rfl ?_ | refine WC.label ?_ | refine WC.scope ?_ | refine WX.scope_normal ?_ | refine WX.scope_ret ?_ | refine WX.scope_exit ?_ | refine WL.y rfl (Yld.pure tab_ok rfl) ?_ | refine WL.y rfl (Yld.pickV rfl rfl rfl) ?_ | refine WL.gno rfl rfl rfl rfl ?_ | refine WL.gyes rfl rfl rfl rfl (Yld.pure tab_ok rfl) ?_)
    refine WL.call rfl rfl (cmp_fn B cb lb A c la w2 hB22 hA2 hDb hDa hCb hCa (by omega) (by omega)) ?_
    rintro _ w3 ⟨⟨n, rfl, ht⟩, hw3⟩
    have hw4 := hw3.symm
    subst hw4
    refine WL.call rfl rfl (sign_fn n w2) ?_
    rintro _ w4 ⟨rfl, hw5⟩
    have hw6 := hw5.symm
    subst hw6
    repeat (first | refine WC.seq ?_ | refine WC.block ?_ | refine WC.region ?_ | refine WL.nil ?_ | refine WX.then_normal ?_ | refine WC.skip ?_ | refine WC.exit ?_ | refine WC.ret ?_ | refine WX.then_exit ?_ | refine WX.then_ret ?_ | refine WX.block_normal ?_ | refine WX.block_ret ?_ | refine WX.block_same ?_ | refine WX.block_other rfl ?_ | refine WC.label ?_ | refine WC.scope ?_ | refine WX.scope_normal ?_ | refine WX.scope_ret ?_ | refine WX.scope_exit ?_ | refine WL.y rfl (Yld.pure tab_ok rfl) ?_ | refine WL.y rfl (Yld.pickV rfl rfl rfl) ?_ | refine WL.gno rfl rfl rfl rfl ?_ | refine WL.gyes rfl rfl rfl rfl (Yld.pure tab_ok rfl) ?_)
    refine WX.ret1 rfl rfl ⟨?_, hg12⟩
    simp only [cond_true]
    exact congrArg vi (tells_sign' ht)
end Go.Proofs.YtilphcippnfklaaDoor
 namespace Go.Proofs.YtilphcippnfklaaDoor
open Go Go.RowKit
attribute [local irreducible] WL WC WX WQ WK Yld Eff Ef0 Fn
theorem val_set : ∀ (l : List Nat) (j d : Nat), j < l.length → val (l.set j d) + 1000000000 ^ j * l.getD j 0 = val l + 1000000000 ^ j * d
  | [], j, d, h => by simp at h
  | x :: l, 0, d, _ => by simp [val]; omega
  | x :: l, j + 1, d, h => by
    have := val_set l j d (by simpa using h)
    simp only [List.set_cons_succ, val, List.getD_cons_succ, Nat.pow_succ]
    grind
theorem getD_set_eq (l : List Nat) (j d : Nat) (h : j < l.length) : (l.set j d).getD j 0 = d := by simp [List.getD, h]
theorem getD_set_ne (l : List Nat) (j i d : Nat) (h : j ≠ i) : (l.set j d).getD i 0 = l.getD i 0 := by simp [List.getD, List.getElem?_set_ne h]
theorem Dg.set {l : List Nat} (h : Dg l) (j : Nat) {d : Nat} (hd : d < 1000000000) : Dg (l.set j d) := fun i => by
  rcases Nat.lt_or_ge j l.length with hj | hj
  · rcases Classical.em (j = i) with e | e
    · subst e; rw [getD_set_eq l j d hj]; exact hd
    · rw [getD_set_ne l j i d e]; exact h i
  · rw [List.set_eq_of_length_le hj]; exact h i
theorem Dg.zeros (m : Nat) : Dg (List.replicate m 0) := fun i => by
  simp only [List.getD, List.getElem?_replicate]; split <;> simp
theorem val_zeros (m : Nat) : val (List.replicate m 0) = 0 := by
  induction m with
  | zero => rfl
  | succ m ih => simp [List.replicate_succ, val, ih]
theorem val_cut (l : List Nat) (k : Nat) (h : k ≤ l.length) : val l = val (l.take k) + 1000000000 ^ k * val (l.drop k) := by
  have := val_app (l.take k) (l.drop k)
  rw [List.take_append_drop, List.length_take, Nat.min_eq_left h] at this
  exact this
/-- one step of a row of the product -/
theorem mul_step (o old p x y c c' d V t : Nat) (h : d + 1000000000 * c' = old + x * y + c) (hs : o + p * old = V + p * d) (h0 : V + c * p = t) : o + c' * (p * 1000000000) = t + x * y * p := by grind
set_option maxHeartbeats 4000000 in
theorem mul_fn (na nb : Bool) (A : Option Addr) (c : Nat) (la : List Nat) (B : Option Addr) (cb : Nat) (lb : List Nat) (w : World) (hA : Rd vd w A c la) (hB : Rd vd w B cb lb) (hDa : Dg la) (hDb : Dg lb) (hla : la.length ≤ 400000) (hlb : lb.length ≤ 400000) :
    Fn Tryd.prog 24 ⟨[.agg ⟨[.bool na, .slice A la.length c]⟩, .agg ⟨[.bool nb, .slice B lb.length cb]⟩]⟩ w fun r w' => Nm w' r (bif na != nb then -((val la * val lb : Nat) : Int) else ((val la * val lb : Nat) : Int)) (la.length + lb.length) ∧ w.grownBy w' none := by
  refine Fn.enter (by kernel_rfl) Tryd.func24 rfl Tryd.ntmps24 rfl ?_
  repeat (first | refine WC.seq ?_ | refine WC.block ?_ | refine WC.region ?_ | refine WL.nil ?_ | refine WX.then_normal ?_ | refine WC.skip ?_ | refine WC.exit ?_ | refine WC.ret ?_ | refine WX.then_exit ?_ | refine WX.then_ret ?_ | refine WX.block_normal ?_ | refine WX.block_ret ?_ | refine WX.block_same ?_ | refine WX.block_other rfl ?_ | refine WC.label ?_ | refine WC.scope ?_ | refine WX.scope_normal ?_ | refine WX.scope_ret ?_ | refine WX.scope_exit ?_ | refine WL.y rfl (Yld.add rfl rfl (by simp only [In]; omega)) ?_ | refine WL.y rfl (Yld.mul rfl rfl (by simp only [In]; omega)) ?_ | refine WL.y rfl (Yld.convB tab_ok rfl rfl rfl rfl) ?_ | refine WL.y rfl (Yld.conv tab_ok rfl rfl rfl (by simp only [In]; omega)) ?_ | refine WL.y rfl (Yld.quo rfl rfl (by omega) (by omega) (by simp only [In]; omega)) ?_ | refine WL.y rfl (Yld.rem rfl rfl (by omega) (by omega)) ?_ | refine WL.y rfl (Yld.pure tab_ok rfl) ?_)
  refine WL.box (us := [.bool na, .slice A la.length c]) rfl rfl rfl (fun g1 w1 hB1 hg1 hl1 => ?_)
  repeat (first | refine WC.seq ?_ | refine WC.block ?_ | refine WC.region ?_ | refine WL.nil ?_ | refine WX.then_normal ?_ | refine WC.skip ?_ | refine WC.exit ?_ | refine WC.ret ?_ | refine WX.then_exit ?_ | refine WX.then_ret ?_ | refine WX.block_normal ?_ | refine WX.block_ret ?_ | refine WX.block_same ?_ | refine WX.block_other rfl ?_ | refine WC.label ?_ | refine WC.scope ?_ | refine WX.scope_normal ?_ | refine WX.scope_ret ?_ | refine WX.scope_exit ?_ | refine WL.y rfl (Yld.add rfl rfl (by simp only [In]; omega)) ?_ | refine WL.y rfl (Yld.mul rfl rfl (by simp only [In]; omega)) ?_ | refine WL.y rfl (Yld.convB tab_ok rfl rfl rfl rfl) ?_ | refine WL.y rfl (Yld.conv tab_ok rfl rfl rfl (by simp only [In]; omega)) ?_ | refine WL.y rfl (Yld.quo rfl rfl (by omega) (by omega) (by simp only [In]; omega)) ?_ | refine WL.y rfl (Yld.rem rfl rfl (by omega) (by omega)) ?_ | refine WL.y rfl (Yld.pure tab_ok rfl) ?_)
  refine WL.box (us := [.bool nb, .slice B lb.length cb]) rfl rfl rfl (fun g2 w2 hB2 hg2 hl2 => ?_)
  repeat (first | refine WC.seq ?_ | refine WC.block ?_ | refine WC.region ?_ | refine WL.nil ?_ | refine WX.then_normal ?_ | refine WC.skip ?_ | refine WC.exit ?_ | refine WC.ret ?_ | refine WX.then_exit ?_ | refine WX.then_ret ?_ | refine WX.block_normal ?_ | refine WX.block_ret ?_ | refine WX.block_same ?_ | refine WX.block_other rfl ?_ | refine WC.label ?_ | refine WC.scope ?_ | refine WX.scope_normal ?_ | refine WX.scope_ret ?_ | refine WX.scope_exit ?_ | refine WL.y rfl (Yld.add rfl rfl (by simp only [In]; omega)) ?_ | refine WL.y rfl (Yld.mul rfl rfl (by simp only [In]; omega)) ?_ | refine WL.y rfl (Yld.convB tab_ok rfl rfl rfl rfl) ?_ | refine WL.y rfl (Yld.conv tab_ok rfl rfl rfl (by simp only [In]; omega)) ?_ | refine WL.y rfl (Yld.quo rfl rfl (by omega) (by omega) (by simp only [In]; omega)) ?_ | refine WL.y rfl (Yld.rem rfl rfl (by omega) (by omega)) ?_ | refine WL.y rfl (Yld.pure tab_ok rfl) ?_)
  refine WL.alloc rfl zero44 (fun g4 w3 hB4 hg3 hl4 => ?_)
  have h1 := hB1.lt
  have h2 := hB2.lt
  have hz1 := hg1.size
  have hz2 := hg2.size
  have hz3 := hg3.size
  have h4 := hB4.lt
  have hB13 := (hB1.keep hg2 (by simp)).keep hg3 (by simp)
  have hB23 := hB2.keep hg3 (by simp)
  have hg13 := gr_trans (gr_trans hg1 hg2) hg3
  have hA3 := hA.grown hg13
  have hB3 := hB.grown hg13
  repeat (first | refine WL.y rfl (Yld.bload tab_ok hB13 rfl rfl rfl) ?_ | refine WL.y rfl (Yld.bload tab_ok hB23 rfl rfl rfl) ?_ | refine WC.seq ?_ | refine WC.block ?_ | refine WC.region ?_ | refine WL.nil ?_ | refine WX.then_normal ?_ | refine WC.skip ?_ | refine WC.exit ?_ | refine WC.ret ?_ | refine WX.then_exit ?_ | refine WX.then_ret ?_ | refine WX.block_normal ?_ | refine WX.block_ret ?_ | refine WX.block_same ?_ | refine WX.block_other rfl ?_ | refine WC.label ?_ | refine WC.scope ?_ | refine WX.scope_normal ?_ | refine WX.scope_ret ?_ | refine WX.scope_exit ?_ | refine WL.y rfl (Yld.add rfl rfl (by simp only [In]; omega)) ?_ | refine WL.y rfl (Yld.mul rfl rfl (by simp only [In]; omega)) ?_ | refine WL.y rfl (Yld.convB tab_ok rfl rfl rfl rfl) ?_ | refine WL.y rfl (Yld.conv tab_ok rfl rfl rfl (by simp only [In]; omega)) ?_ | refine WL.y rfl (Yld.quo rfl rfl (by omega) (by omega) (by simp only [In]; omega)) ?_ | refine WL.y rfl (Yld.rem rfl rfl (by omega) (by omega)) ?_ | refine WL.y rfl (Yld.pure tab_ok rfl) ?_)
  have hM : (la.length : Int) + (lb.length : Int) = ((la.length + lb.length : Nat) : Int) := by omega
  rw [hM]
  refine WL.makeZ (f := vd) (z := 0) (B := w3.heap.size) tab_ok rfl rfl zero98 rfl rfl (by omega) (by omega) (Nat.le_refl _) (fun g w5 hO5 hg5 hl5 => ?_)
  have hB15 := hB13.keep hg5 (by simp)
  have hB25 := hB23.keep hg5 (by simp)
  repeat (first | refine WL.y rfl (Yld.bload tab_ok hB15 rfl rfl rfl) ?_ | refine WL.y rfl (Yld.bload tab_ok hB25 rfl rfl rfl) ?_ | refine WC.seq ?_ | refine WC.block ?_ | refine WC.region ?_ | refine WL.nil ?_ | refine WX.then_normal ?_ | refine WC.skip ?_ | refine WC.exit ?_ | refine WC.ret ?_ | refine WX.then_exit ?_ | refine WX.then_ret ?_ | refine WX.block_normal ?_ | refine WX.block_ret ?_ | refine WX.block_same ?_ | refine WX.block_other rfl ?_ | refine WC.label ?_ | refine WC.scope ?_ | refine WX.scope_normal ?_ | refine WX.scope_ret ?_ | refine WX.scope_exit ?_ | refine WL.y rfl (Yld.add rfl rfl (by simp only [In]; omega)) ?_ | refine WL.y rfl (Yld.mul rfl rfl (by simp only [In]; omega)) ?_ | refine WL.y rfl (Yld.convB tab_ok rfl rfl rfl rfl) ?_ | refine WL.y rfl (Yld.conv tab_ok rfl rfl rfl (by simp only [In]; omega)) ?_ | refine WL.y rfl (Yld.quo rfl rfl (by omega) (by omega) (by simp only [In]; omega)) ?_ | refine WL.y rfl (Yld.rem rfl rfl (by omega) (by omega)) ?_ | refine WL.y rfl (Yld.pure tab_ok rfl) ?_)
  refine WC.loop2 (S1 := Nat) (S2 := List Nat) (fun i _ => la.length - i)
    (fun i _ => [(23, vi i), (22, .int .i64 (la.length : Int)), (21, .slice A la.length c), (5, .slice (some ⟨g, 0, none⟩) (la.length + lb.length) (la.length + lb.length)), (2, .pointer (some ⟨g1, 0, none⟩)), (3, .pointer (some ⟨g2, 0, none⟩)), (4, .pointer (some ⟨g4, 0, none⟩))])
    (fun i o w6 => i ≤ la.length ∧ o.length = la.length + lb.length ∧ Dg o ∧ val o = val (la.take i) * val lb ∧ (∀ j, i + lb.length ≤ j → o.getD j 0 = 0) ∧ Own vd w6 w3.heap.size 98 (some ⟨g, 0, none⟩) (la.length + lb.length) o ∧ w3.grownBy w6 none)
    0 (List.replicate (la.length + lb.length) 0) ⟨by omega, by simp, Dg.zeros _, by simp [val_zeros, val], fun j _ => by simp only [List.getD, List.getElem?_replicate]; split <;> simp, hO5, hg5⟩ (by repeat (first | exact Sub.nil | refine Sub.cons rfl ?_)) (fun i o w6 ⟨hi, hol, hDo, hv, hz, hO, hg6⟩ => ?_)
  have hA6 := hA3.grown hg6
  have hB26 := hB23.keep hg6 (by simp)
  repeat (first | refine WC.seq ?_ | refine WC.block ?_ | refine WC.region ?_ | refine WL.nil ?_ | refine WX.then_normal ?_ | refine WC.skip ?_ | refine WC.exit ?_ | refine WC.ret ?_ | refine WX.then_exit ?_ | refine WX.then_ret ?_ | refine WX.block_normal ?_ | refine WX.block_ret ?_ | refine WX.block_same ?_ | refine WX.block_other rfl ?_ | refine WC.label ?_ | refine WC.scope ?_ | refine WX.scope_normal ?_ | refine WX.scope_ret ?_ | refine WX.scope_exit ?_ | refine WL.y rfl (Yld.add rfl rfl (by simp only [In]; omega)) ?_ | refine WL.y rfl (Yld.mul rfl rfl (by simp only [In]; omega)) ?_ | refine WL.y rfl (Yld.convB tab_ok rfl rfl rfl rfl) ?_ | refine WL.y rfl (Yld.conv tab_ok rfl rfl rfl (by simp only [In]; omega)) ?_ | refine WL.y rfl (Yld.quo rfl rfl (by omega) (by omega) (by simp only [In]; omega)) ?_ | refine WL.y rfl (Yld.rem rfl rfl (by omega) (by omega)) ?_ | refine WL.y rfl (Yld.pure tab_ok rfl) ?_)
  refine WC.cond rfl (fun h => ?_) (fun h => ?_)
  · simp only [decide_eq_true_eq] at h
    have hxi := hDa i
    repeat (first | refine WL.y rfl (Yld.bload tab_ok hB26 rfl rfl rfl) ?_ | refine WL.y rfl (Yld.iaddrN tab_ok hA6 rfl rfl rfl rfl (by omega)) ?_ | refine WL.y rfl (Yld.iload 0 tab_ok hA6 rfl rfl (by omega)) ?_ | refine WC.seq ?_ | refine WC.block ?_ | refine WC.region ?_ | refine WL.nil ?_ | refine WX.then_normal ?_ | refine WC.skip ?_ | refine WC.exit ?_ | refine WC.ret ?_ | refine WX.then_exit ?_ | refine WX.then_ret ?_ | refine WX.block_normal ?_ | refine WX.block_ret ?_ | refine WX.block_same ?_ | refine WX.block_other rfl ?_ | refine WC.label ?_ | refine WC.scope ?_ | refine WX.scope_normal ?_ | refine WX.scope_ret ?_ | refine WX.scope_exit ?_ | refine WL.y rfl (Yld.add rfl rfl (by simp only [In]; omega)) ?_ | refine WL.y rfl (Yld.mul rfl rfl (by simp only [In]; omega)) ?_ | refine WL.y rfl (Yld.convB tab_ok rfl rfl rfl rfl) ?_ | refine WL.y rfl (Yld.conv tab_ok rfl rfl rfl (by simp only [In]; omega)) ?_ | refine WL.y rfl (Yld.quo rfl rfl (by omega) (by omega) (by simp only [In]; omega)) ?_ | refine WL.y rfl (Yld.rem rfl rfl (by omega) (by omega)) ?_ | refine WL.y rfl (Yld.pure tab_ok rfl) ?_)
    have hti := val_take la i
    generalize la.getD i 0 = x at *
    refine WC.loop3 (S1 := Nat) (S2 := List Nat) (S3 := Nat) (fun k _ _ => lb.length - k)
      (fun k _ cr => [(31, vi k), (30, .int .i64 (lb.length : Int)), (29, .slice B lb.length cb), (6, vi i), (7, vd x), (8, .int .u64 (cr : Int)), (23, vi i), (22, .int .i64 (la.length : Int)), (21, .slice A la.length c), (5, .slice (some ⟨g, 0, none⟩) (la.length + lb.length) (la.length + lb.length)), (2, .pointer (some ⟨g1, 0, none⟩)), (3, .pointer (some ⟨g2, 0, none⟩)), (4, .pointer (some ⟨g4, 0, none⟩))])
      (fun k o' cr w7 => k ≤ lb.length ∧ o'.length = la.length + lb.length ∧ Dg o' ∧ cr < 1000000000 ∧ val o' + cr * 1000000000 ^ (i + k) = val o + x * val (lb.take k) * 1000000000 ^ i ∧ (∀ j, i + k ≤ j → o'.getD j 0 = o.getD j 0) ∧ Own vd w7 w3.heap.size 98 (some ⟨g, 0, none⟩) (la.length + lb.length) o' ∧ w3.grownBy w7 none)
      0 o 0 ⟨by omega, hol, hDo, by omega, by simp [val], fun _ _ => rfl, hO, hg6⟩ (by repeat (first | exact Sub.nil | refine Sub.cons rfl ?_)) (fun k o' cr w7 ⟨hk, hol', hDo', hcr, hv', hz', hO', hg7⟩ => ?_)
    have hB7 := hB3.grown hg7
    have hB27 := hB23.keep hg7 (by simp)
    repeat (first | refine WC.seq ?_ | refine WC.block ?_ | refine WC.region ?_ | refine WL.nil ?_ | refine WX.then_normal ?_ | refine WC.skip ?_ | refine WC.exit ?_ | refine WC.ret ?_ | refine WX.then_exit ?_ | refine WX.then_ret ?_ | refine WX.block_normal ?_ | refine WX.block_ret ?_ | refine WX.block_same ?_ | refine WX.block_other rfl ?_ | refine WC.label ?_ | refine WC.scope ?_ | refine WX.scope_normal ?_ | refine WX.scope_ret ?_ | refine WX.scope_exit ?_ | refine WL.y rfl (Yld.add rfl rfl (by simp only [In]; omega)) ?_ | refine WL.y rfl (Yld.mul rfl rfl (by simp only [In]; omega)) ?_ | refine WL.y rfl (Yld.convB tab_ok rfl rfl rfl rfl) ?_ | refine WL.y rfl (Yld.conv tab_ok rfl rfl rfl (by simp only [In]; omega)) ?_ | refine WL.y rfl (Yld.quo rfl rfl (by omega) (by omega) (by simp only [In]; omega)) ?_ | refine WL.y rfl (Yld.rem rfl rfl (by omega) (by omega)) ?_ | refine WL.y rfl (Yld.pure tab_ok rfl) ?_)
    refine WC.cond rfl (fun h' => ?_) (fun h' => ?_)
    · simp only [decide_eq_true_eq] at h'
      have hyk := hDb k
      have hoik := hDo' (i + k)
      have hik : ((i : Int) + (k : Int)).toNat = i + k := by omega
      have hoik2 := hDo' ((i : Int) + (k : Int)).toNat
      have htk := val_take lb k
      have hs2 := val_set o' (i + k)
      repeat (first | refine WL.y rfl (Yld.iaddrN tab_ok hB7 rfl rfl rfl rfl (by omega)) ?_ | refine WL.y rfl (Yld.iload 0 tab_ok hB7 rfl rfl (by omega)) ?_ | refine WC.seq ?_ | refine WC.block ?_ | refine WC.region ?_ | refine WL.nil ?_ | refine WX.then_normal ?_ | refine WC.skip ?_ | refine WC.exit ?_ | refine WC.ret ?_ | refine WX.then_exit ?_ | refine WX.then_ret ?_ | refine WX.block_normal ?_ | refine WX.block_ret ?_ | refine WX.block_same ?_ | refine WX.block_other rfl ?_ | refine WC.label ?_ | refine WC.scope ?_ | refine WX.scope_normal ?_ | refine WX.scope_ret ?_ | refine WX.scope_exit ?_ | refine WL.y rfl (Yld.add rfl rfl (by simp only [In]; omega)) ?_ | refine WL.y rfl (Yld.mul rfl rfl (by simp only [In]; omega)) ?_ | refine WL.y rfl (Yld.convB tab_ok rfl rfl rfl rfl) ?_ | refine WL.y rfl (Yld.conv tab_ok rfl rfl rfl (by simp only [In]; omega)) ?_ | refine WL.y rfl (Yld.quo rfl rfl (by omega) (by omega) (by simp only [In]; omega)) ?_ | refine WL.y rfl (Yld.rem rfl rfl (by omega) (by omega)) ?_ | refine WL.y rfl (Yld.pure tab_ok rfl) ?_)
      generalize lb.getD k 0 = y at *
      have hlook : x * y ≤ 999999999 * 999999999 := Nat.mul_le_mul (by omega) (by omega)
      have hxy1 : (x : Int) * (y : Int) ≤ 999999999 * 999999999 := by rw [← Int.natCast_mul]; omega
      have hxy0 : (0 : Int) ≤ (x : Int) * (y : Int) := by rw [← Int.natCast_mul]; omega
      repeat (first | refine WL.y rfl (Yld.iaddr tab_ok hO'.rd rfl rfl hol'.symm rfl (by omega) (by omega)) ?_ | refine WL.y rfl (Yld.iload 0 tab_ok hO'.rd rfl rfl (by omega)) ?_ | refine WC.seq ?_ | refine WC.block ?_ | refine WC.region ?_ | refine WL.nil ?_ | refine WX.then_normal ?_ | refine WC.skip ?_ | refine WC.exit ?_ | refine WC.ret ?_ | refine WX.then_exit ?_ | refine WX.then_ret ?_ | refine WX.block_normal ?_ | refine WX.block_ret ?_ | refine WX.block_same ?_ | refine WX.block_other rfl ?_ | refine WC.label ?_ | refine WC.scope ?_ | refine WX.scope_normal ?_ | refine WX.scope_ret ?_ | refine WX.scope_exit ?_ | refine WL.y rfl (Yld.add rfl rfl (by simp only [In]; omega)) ?_ | refine WL.y rfl (Yld.mul rfl rfl (by simp only [In]; omega)) ?_ | refine WL.y rfl (Yld.convB tab_ok rfl rfl rfl rfl) ?_ | refine WL.y rfl (Yld.conv tab_ok rfl rfl rfl (by simp only [In]; omega)) ?_ | refine WL.y rfl (Yld.quo rfl rfl (by omega) (by omega) (by simp only [In]; omega)) ?_ | refine WL.y rfl (Yld.rem rfl rfl (by omega) (by omega)) ?_ | refine WL.y rfl (Yld.pure tab_ok rfl) ?_)
      rw [hik]
      have hd : ((o'.getD (i + k) 0 : Int) + (x : Int) * (y : Int) + (cr : Int)) % 1000000000 = (((o'.getD (i + k) 0 + x * y + cr) % 1000000000 : Nat) : Int) := by rw [← Int.natCast_mul]; omega
      have hq : ((o'.getD (i + k) 0 : Int) + (x : Int) * (y : Int) + (cr : Int)) / 1000000000 = (((o'.getD (i + k) 0 + x * y + cr) / 1000000000 : Nat) : Int) := by rw [← Int.natCast_mul]; omega
      rw [hd]
      refine WL.ostore (v := (o'.getD (i + k) 0 + x * y + cr) % 1000000000) one98 One.d hO' rfl rfl (by omega) (fun w8 hO8 hg8 => ?_)
      repeat (first | refine WC.seq ?_ | refine WC.block ?_ | refine WC.region ?_ | refine WL.nil ?_ | refine WX.then_normal ?_ | refine WC.skip ?_ | refine WC.exit ?_ | refine WC.ret ?_ | refine WX.then_exit ?_ | refine WX.then_ret ?_ | refine WX.block_normal ?_ | refine WX.block_ret ?_ | refine WX.block_same ?_ | refine WX.block_other rfl ?_ | refine WC.label ?_ | refine WC.scope ?_ | refine WX.scope_normal ?_ | refine WX.scope_ret ?_ | refine WX.scope_exit ?_ | refine WL.y rfl (Yld.add rfl rfl (by simp only [In]; omega)) ?_ | refine WL.y rfl (Yld.mul rfl rfl (by simp only [In]; omega)) ?_ | refine WL.y rfl (Yld.convB tab_ok rfl rfl rfl rfl) ?_ | refine WL.y rfl (Yld.conv tab_ok rfl rfl rfl (by simp only [In]; omega)) ?_ | refine WL.y rfl (Yld.quo rfl rfl (by omega) (by omega) (by simp only [In]; omega)) ?_ | refine WL.y rfl (Yld.rem rfl rfl (by omega) (by omega)) ?_ | refine WL.y rfl (Yld.pure tab_ok rfl) ?_)
      rw [hq]
      have hsum : o'.getD (i + k) 0 + x * y + cr ≤ 999999999 + 999999999 * 999999999 + 999999999 := by omega
      refine WX.round3 (k + 1) (o'.set (i + k) ((o'.getD (i + k) 0 + x * y + cr) % 1000000000)) ((o'.getD (i + k) 0 + x * y + cr) / 1000000000) ⟨by omega, by simp [hol'], hDo'.set _ (by omega), by omega, ?_, fun j hj => ?_, hO8, gr_own hg7 hO' hg8 (Nat.le_refl _)⟩ (by omega) (by repeat (first | exact Sub.nil | refine Sub.cons rfl ?_))
      · have hs3 := hs2 ((o'.getD (i + k) 0 + x * y + cr) % 1000000000) (by omega)
        rw [htk, show i + (k + 1) = i + k + 1 by omega, Nat.pow_succ]
        have := mul_step _ (o'.getD (i + k) 0) (1000000000 ^ (i + k)) x y cr ((o'.getD (i + k) 0 + x * y + cr) / 1000000000) _ _ _ (by omega) hs3 hv'
        rw [this, Nat.pow_add]
        grind
      · rw [getD_set_ne _ _ _ _ (by omega)]
        exact hz' j (by omega)
    · simp only [decide_eq_false_iff_not] at h'
      obtain rfl : k = lb.length := by omega
      rw [List.take_of_length_le (Nat.le_refl _)] at hv'
      have hik : ((i : Int) + (lb.length : Int)).toNat = i + lb.length := by omega
      have hs2 := val_set o' (i + lb.length) cr (by omega)
      rw [hz' (i + lb.length) (by omega), hz (i + lb.length) (by omega)] at hs2
      repeat (first | refine WL.y rfl (Yld.bload tab_ok hB27 rfl rfl rfl) ?_ | refine WL.y rfl (Yld.iaddr tab_ok hO'.rd rfl rfl hol'.symm rfl (by omega) (by omega)) ?_ | refine WC.seq ?_ | refine WC.block ?_ | refine WC.region ?_ | refine WL.nil ?_ | refine WX.then_normal ?_ | refine WC.skip ?_ | refine WC.exit ?_ | refine WC.ret ?_ | refine WX.then_exit ?_ | refine WX.then_ret ?_ | refine WX.block_normal ?_ | refine WX.block_ret ?_ | refine WX.block_same ?_ | refine WX.block_other rfl ?_ | refine WC.label ?_ | refine WC.scope ?_ | refine WX.scope_normal ?_ | refine WX.scope_ret ?_ | refine WX.scope_exit ?_ | refine WL.y rfl (Yld.add rfl rfl (by simp only [In]; omega)) ?_ | refine WL.y rfl (Yld.mul rfl rfl (by simp only [In]; omega)) ?_ | refine WL.y rfl (Yld.convB tab_ok rfl rfl rfl rfl) ?_ | refine WL.y rfl (Yld.conv tab_ok rfl rfl rfl (by simp only [In]; omega)) ?_ | refine WL.y rfl (Yld.quo rfl rfl (by omega) (by omega) (by simp only [In]; omega)) ?_ | refine WL.y rfl (Yld.rem rfl rfl (by omega) (by omega)) ?_ | refine WL.y rfl (Yld.pure tab_ok rfl) ?_)
      rw [hik]
      refine WL.ostore (v := cr) one98 One.d hO' rfl rfl (by omega) (fun w8 hO8 hg8 => ?_)
      repeat (first | refine WC.seq ?_ | refine WC.block ?_ | refine WC.region ?_ | refine WL.nil ?_ | refine WX.then_normal ?_ | refine WC.skip ?_ | refine WC.exit ?_ | refine WC.ret ?_ | refine WX.then_exit ?_ | refine WX.then_ret ?_ | refine WX.block_normal ?_ | refine WX.block_ret ?_ | refine WX.block_same ?_ | refine WX.block_other rfl ?_ | refine WC.label ?_ | refine WC.scope ?_ | refine WX.scope_normal ?_ | refine WX.scope_ret ?_ | refine WX.scope_exit ?_ | refine WL.y rfl (Yld.add rfl rfl (by simp only [In]; omega)) ?_ | refine WL.y rfl (Yld.mul rfl rfl (by simp only [In]; omega)) ?_ | refine WL.y rfl (Yld.convB tab_ok rfl rfl rfl rfl) ?_ | refine WL.y rfl (Yld.conv tab_ok rfl rfl rfl (by simp only [In]; omega)) ?_ | refine WL.y rfl (Yld.quo rfl rfl (by omega) (by omega) (by simp only [In]; omega)) ?_ | refine WL.y rfl (Yld.rem rfl rfl (by omega) (by omega)) ?_ | refine WL.y rfl (Yld.pure tab_ok rfl) ?_)
      refine WX.round2 (i + 1) (o'.set (i + lb.length) cr) ⟨by omega, by simp [hol'], hDo'.set _ hcr, ?_, fun j hj => ?_, hO8, gr_own hg7 hO' hg8 (Nat.le_refl _)⟩ (by omega) (by repeat (first | exact Sub.nil | refine Sub.cons rfl ?_))
      · rw [hti]
        grind
      · rw [getD_set_ne _ _ _ _ (by omega), hz' j (by omega)]
        exact hz j (by omega)
  · simp only [decide_eq_false_iff_not] at h
    obtain rfl : i = la.length := by omega
    rw [List.take_of_length_le (Nat.le_refl _)] at hv
    have hB16 := hB13.keep hg6 (by simp)
    have hB46 := hB4.keep hg6 (by simp)
    have hbt := Tryd.underlying4
    repeat (first | refine WL.y rfl (Yld.bload tab_ok hB16 rfl rfl rfl) ?_ | refine WL.y rfl (Yld.bload tab_ok hB26 rfl rfl rfl) ?_ | refine WL.y rfl (Yld.bneq hbt rfl rfl) ?_ | refine WC.seq ?_ | refine WC.block ?_ | refine WC.region ?_ | refine WL.nil ?_ | refine WX.then_normal ?_ | refine WC.skip ?_ | refine WC.exit ?_ | refine WC.ret ?_ | refine WX.then_exit ?_ | refine WX.then_ret ?_ | refine WX.block_normal ?_ | refine WX.block_ret ?_ | refine WX.block_same ?_ | refine WX.block_other rfl ?_ | refine WC.label ?_ | refine WC.scope ?_ | refine WX.scope_normal ?_ | refine WX.scope_ret ?_ | refine WX.scope_exit ?_ | refine WL.y rfl (Yld.add rfl rfl (by simp only [In]; omega)) ?_ | refine WL.y rfl (Yld.mul rfl rfl (by simp only [In]; omega)) ?_ | refine WL.y rfl (Yld.convB tab_ok rfl rfl rfl rfl) ?_ | refine WL.y rfl (Yld.conv tab_ok rfl rfl rfl (by simp only [In]; omega)) ?_ | refine WL.y rfl (Yld.quo rfl rfl (by omega) (by omega) (by simp only [In]; omega)) ?_ | refine WL.y rfl (Yld.rem rfl rfl (by omega) (by omega)) ?_ | refine WL.y rfl (Yld.pure tab_ok rfl) ?_)
    have hMl := made_fn (na != nb) (some ⟨g, 0, none⟩) (la.length + lb.length) o w6 hO.rd hDo (by omega)
    rw [hol] at hMl
    refine WL.call rfl rfl hMl ?_
    rintro r w8 ⟨hN, hg8⟩
    have hB48 := hB46.keep hg8 (by simp)
    obtain ⟨a, b, rfl, ha, hb⟩ := hN.agg
    refine WL.storeW (vs := [a, b]) tab_ok rfl rfl rfl (by intro u hu; simp at hu; rcases hu with rfl | rfl <;> assumption) hB48 rfl rfl (fun w9 hB9 hg9 => ?_)
    repeat (first | refine WC.seq ?_ | refine WC.block ?_ | refine WC.region ?_ | refine WL.nil ?_ | refine WX.then_normal ?_ | refine WC.skip ?_ | refine WC.exit ?_ | refine WC.ret ?_ | refine WX.then_exit ?_ | refine WX.then_ret ?_ | refine WX.block_normal ?_ | refine WX.block_ret ?_ | refine WX.block_same ?_ | refine WX.block_other rfl ?_ | refine WC.label ?_ | refine WC.scope ?_ | refine WX.scope_normal ?_ | refine WX.scope_ret ?_ | refine WX.scope_exit ?_ | refine WL.y rfl (Yld.add rfl rfl (by simp only [In]; omega)) ?_ | refine WL.y rfl (Yld.mul rfl rfl (by simp only [In]; omega)) ?_ | refine WL.y rfl (Yld.convB tab_ok rfl rfl rfl rfl) ?_ | refine WL.y rfl (Yld.conv tab_ok rfl rfl rfl (by simp only [In]; omega)) ?_ | refine WL.y rfl (Yld.quo rfl rfl (by omega) (by omega) (by simp only [In]; omega)) ?_ | refine WL.y rfl (Yld.rem rfl rfl (by omega) (by omega)) ?_ | refine WL.y rfl (Yld.pure tab_ok rfl) ?_)
    rw [hv] at hN
    exact WX.retc tab_ok rfl rfl rfl hB9 rfl ⟨hN.stored hB48 zero_no hg9, gr_new (gr_trans (gr_trans hg13 hg6) hg8) hg9 (by omega)⟩
end Go.Proofs.YtilphcippnfklaaDoor
 namespace Go.Proofs.YtilphcippnfklaaDoor
open Go Go.RowKit
attribute [local irreducible] WL WC WX WQ WK Yld Eff Ef0 Fn
theorem Nm.nat {w : World} {v : Value} {n m : Nat} (h : Nm w v (n : Int) m) : ∃ A c l, v = .agg ⟨[.bool false, .slice A l.length c]⟩ ∧ Rd vd w A c l ∧ Dg l ∧ Can l ∧ l.length ≤ m ∧ val l = n := by
  obtain ⟨neg, A, c, l, rfl, hR, hD, hC, hl, hn, hz⟩ := h
  cases neg with
  | false => exact ⟨A, c, l, rfl, hR, hD, hC, hl, by simp only [cond_false] at hz; omega⟩
  | true =>
    have := val_pos hC (hn rfl)
    simp only [cond_true] at hz
    omega
theorem mul_nm (va vb_ : Value) (x y : Int) (m : Nat) (w : World) (ha : Nm w va x m) (hb : Nm w vb_ y m) (hm : m ≤ 400000) : Fn Tryd.prog 24 ⟨[va, vb_]⟩ w fun r w' => Nm w' r (x * y) (m + m) ∧ w.grownBy w' none := by
  obtain ⟨na, A, c, la, rfl, hA, hDa, hCa, hla, hna, rfl⟩ := ha
  obtain ⟨nb, B, cb, lb, rfl, hB, hDb, hCb, hlb, hnb, rfl⟩ := hb
  refine (mul_fn na nb A c la B cb lb w hA hB hDa hDb (by omega) (by omega)).mono fun r w' ⟨h1, h2⟩ => ⟨?_, h2⟩
  have e : (bif na != nb then -((val la * val lb : Nat) : Int) else ((val la * val lb : Nat) : Int)) = (bif na then -(val la : Int) else (val la : Int)) * (bif nb then -(val lb : Int) else (val lb : Int)) := by
    cases na <;> cases nb <;> simp [Int.natCast_mul, Int.neg_mul, Int.mul_neg]
  rw [e] at h1
  exact h1.mono (by omega)
theorem val_len_le {la lb : List Nat} (hDb : Dg lb) (hCa : Can la) (h : val la ≤ val lb) : la.length ≤ lb.length := by
  rcases Nat.lt_or_ge lb.length la.length with h5 | h5
  · have := val_lt_len hDb hCa h5; omega
  · exact h5
theorem times_fn (A : Option Addr) (c : Nat) (la : List Nat) (n : Nat) (w : World) (hA : Rd vd w A c la) (hDa : Dg la) (hn : n < 1000000000) (hla : la.length ≤ 300000) :
    Fn Tryd.prog 127 ⟨[.slice A la.length c, vd n]⟩ w fun v w' => ∃ A' c' l, v = .slice A' l.length c' ∧ Rd vd w' A' c' l ∧ Dg l ∧ Can l ∧ l.length ≤ la.length + 1 ∧ val l = val la * n ∧ w.grownBy w' none := by
  refine Fn.enter (by kernel_rfl) Tryd.func127 rfl Tryd.ntmps127 rfl ?_
  repeat (first | refine WC.seq ?_ | refine WC.block ?_ | refine WC.region ?_ | refine WL.nil ?_ | refine WX.then_normal ?_ | refine WC.skip ?_ | refine WC.exit ?_ | refine WC.ret ?_ | refine WX.then_exit ?_ | refine WX.then_ret ?_ | refine WX.block_normal ?_ | refine WX.block_ret ?_ | refine WX.block_same ?_ | refine WX.block_other rfl ?_ | refine WC.label ?_ | refine WC.scope ?_ | refine WX.scope_normal ?_ | refine WX.scope_ret ?_ | refine WX.scope_exit ?_ | refine WL.y rfl (Yld.add rfl rfl (by simp only [In]; omega)) ?_ | refine WL.y rfl (Yld.sub rfl rfl (by simp only [In]; omega)) ?_ | refine WL.y rfl (Yld.mul rfl rfl (by simp only [In]; omega)) ?_ | refine WL.y rfl (Yld.convB tab_ok rfl rfl rfl rfl) ?_ | refine WL.y rfl (Yld.conv tab_ok rfl rfl rfl (by simp only [In]; omega)) ?_ | refine WL.y rfl (Yld.quo rfl rfl (by omega) (by omega) (by simp only [In]; omega)) ?_ | refine WL.y rfl (Yld.rem rfl rfl (by omega) (by omega)) ?_ | refine WL.y rfl (Yld.shl rfl rfl (by omega)) ?_ | refine WL.y rfl (Yld.shr rfl rfl (by omega)) ?_ | refine WL.y rfl (Yld.pure tab_ok rfl) ?_ | refine WL.y rfl (Yld.fld flds_ok rfl rfl rfl) ?_ | refine WL.y rfl (Yld.max2 rfl rfl) ?_ | refine WL.y rfl (Yld.min2 rfl rfl) ?_ | refine WL.y rfl (Yld.pickV rfl rfl rfl) ?_ | refine WL.gno rfl rfl rfl rfl ?_ | refine WL.gyes rfl rfl rfl rfl (Yld.add rfl rfl (by simp only [In]; omega)) ?_ | refine WL.gyes rfl rfl rfl rfl (Yld.sub rfl rfl (by simp only [In]; omega)) ?_ | refine WL.gyes rfl rfl rfl rfl (Yld.mul rfl rfl (by simp only [In]; omega)) ?_ | refine WL.gyes rfl rfl rfl rfl (Yld.convB tab_ok rfl rfl rfl rfl) ?_ | refine WL.gyes rfl rfl rfl rfl (Yld.conv tab_ok rfl rfl rfl (by simp only [In]; omega)) ?_ | refine WL.gyes rfl rfl rfl rfl (Yld.quo rfl rfl (by omega) (by omega) (by simp only [In]; omega)) ?_ | refine WL.gyes rfl rfl rfl rfl (Yld.rem rfl rfl (by omega) (by omega)) ?_ | refine WL.gyes rfl rfl rfl rfl (Yld.shl rfl rfl (by omega)) ?_ | refine WL.gyes rfl rfl rfl rfl (Yld.shr rfl rfl (by omega)) ?_ | refine WL.gyes rfl rfl rfl rfl (Yld.pure tab_ok rfl) ?_ | refine WL.gyes rfl rfl rfl rfl (Yld.fld flds_ok rfl rfl rfl) ?_ | refine WL.gyes rfl rfl rfl rfl (Yld.max2 rfl rfl) ?_ | refine WL.gyes rfl rfl rfl rfl (Yld.min2 rfl rfl) ?_ | refine WL.gyes rfl rfl rfl rfl (Yld.pickV rfl rfl rfl) ?_)
  refine WL.y rfl (Yld.struct (us := [.bool false, .slice A la.length c]) zero44 places44 rfl rfl) ?_
  repeat (first | refine WC.seq ?_ | refine WC.block ?_ | refine WC.region ?_ | refine WL.nil ?_ | refine WX.then_normal ?_ | refine WC.skip ?_ | refine WC.exit ?_ | refine WC.ret ?_ | refine WX.then_exit ?_ | refine WX.then_ret ?_ | refine WX.block_normal ?_ | refine WX.block_ret ?_ | refine WX.block_same ?_ | refine WX.block_other rfl ?_ | refine WC.label ?_ | refine WC.scope ?_ | refine WX.scope_normal ?_ | refine WX.scope_ret ?_ | refine WX.scope_exit ?_ | refine WL.y rfl (Yld.add rfl rfl (by simp only [In]; omega)) ?_ | refine WL.y rfl (Yld.sub rfl rfl (by simp only [In]; omega)) ?_ | refine WL.y rfl (Yld.mul rfl rfl (by simp only [In]; omega)) ?_ | refine WL.y rfl (Yld.convB tab_ok rfl rfl rfl rfl) ?_ | refine WL.y rfl (Yld.conv tab_ok rfl rfl rfl (by simp only [In]; omega)) ?_ | refine WL.y rfl (Yld.quo rfl rfl (by omega) (by omega) (by simp only [In]; omega)) ?_ | refine WL.y rfl (Yld.rem rfl rfl (by omega) (by omega)) ?_ | refine WL.y rfl (Yld.shl rfl rfl (by omega)) ?_ | refine WL.y rfl (Yld.shr rfl rfl (by omega)) ?_ | refine WL.y rfl (Yld.pure tab_ok rfl) ?_ | refine WL.y rfl (Yld.fld flds_ok rfl rfl rfl) ?_ | refine WL.y rfl (Yld.max2 rfl rfl) ?_ | refine WL.y rfl (Yld.min2 rfl rfl) ?_ | refine WL.y rfl (Yld.pickV rfl rfl rfl) ?_ | refine WL.gno rfl rfl rfl rfl ?_ | refine WL.gyes rfl rfl rfl rfl (Yld.add rfl rfl (by simp only [In]; omega)) ?_ | refine WL.gyes rfl rfl rfl rfl (Yld.sub rfl rfl (by simp only [In]; omega)) ?_ | refine WL.gyes rfl rfl rfl rfl (Yld.mul rfl rfl (by simp only [In]; omega)) ?_ | refine WL.gyes rfl rfl rfl rfl (Yld.convB tab_ok rfl rfl rfl rfl) ?_ | refine WL.gyes rfl rfl rfl rfl (Yld.conv tab_ok rfl rfl rfl (by simp only [In]; omega)) ?_ | refine WL.gyes rfl rfl rfl rfl (Yld.quo rfl rfl (by omega) (by omega) (by simp only [In]; omega)) ?_ | refine WL.gyes rfl rfl rfl rfl (Yld.rem rfl rfl (by omega) (by omega)) ?_ | refine WL.gyes rfl rfl rfl rfl (Yld.shl rfl rfl (by omega)) ?_ | refine WL.gyes rfl rfl rfl rfl (Yld.shr rfl rfl (by omega)) ?_ | refine WL.gyes rfl rfl rfl rfl (Yld.pure tab_ok rfl) ?_ | refine WL.gyes rfl rfl rfl rfl (Yld.fld flds_ok rfl rfl rfl) ?_ | refine WL.gyes rfl rfl rfl rfl (Yld.max2 rfl rfl) ?_ | refine WL.gyes rfl rfl rfl rfl (Yld.min2 rfl rfl) ?_ | refine WL.gyes rfl rfl rfl rfl (Yld.pickV rfl rfl rfl) ?_)
  refine WL.lit (us := [vd n]) tab_ok rfl rfl rfl (by intro u hu; rw [List.mem_singleton] at hu; rw [hu]; rfl) rfl (by omega) (fun g w1 hL1 hg1 hl1 => ?_)
  have hR1 : Rd vd w1 (some ⟨g, 0, none⟩) 1 [n] := Rd.ofBl' hL1 (by simp) (by simp [maxLen])
  refine WL.y rfl (Yld.struct (us := [.bool false, .slice (some ⟨g, 0, none⟩) 1 1]) zero44 places44 rfl rfl) ?_
  have hDn : Dg [n] := Dg.nil.push hn
  refine WL.call rfl rfl (mul_fn false false A c la (some ⟨g, 0, none⟩) 1 [n] w1 (hA.grown hg1) hR1 hDa hDn (by omega) (by simp)) ?_
  rintro r w2 ⟨hN, hg2⟩
  obtain ⟨A2, c2, l2, rfl, hR2, hD2, hC2, hl2, hv2⟩ := Nm.nat hN
  repeat (first | refine WC.seq ?_ | refine WC.block ?_ | refine WC.region ?_ | refine WL.nil ?_ | refine WX.then_normal ?_ | refine WC.skip ?_ | refine WC.exit ?_ | refine WC.ret ?_ | refine WX.then_exit ?_ | refine WX.then_ret ?_ | refine WX.block_normal ?_ | refine WX.block_ret ?_ | refine WX.block_same ?_ | refine WX.block_other rfl ?_ | refine WC.label ?_ | refine WC.scope ?_ | refine WX.scope_normal ?_ | refine WX.scope_ret ?_ | refine WX.scope_exit ?_ | refine WL.y rfl (Yld.add rfl rfl (by simp only [In]; omega)) ?_ | refine WL.y rfl (Yld.sub rfl rfl (by simp only [In]; omega)) ?_ | refine WL.y rfl (Yld.mul rfl rfl (by simp only [In]; omega)) ?_ | refine WL.y rfl (Yld.convB tab_ok rfl rfl rfl rfl) ?_ | refine WL.y rfl (Yld.conv tab_ok rfl rfl rfl (by simp only [In]; omega)) ?_ | refine WL.y rfl (Yld.quo rfl rfl (by omega) (by omega) (by simp only [In]; omega)) ?_ | refine WL.y rfl (Yld.rem rfl rfl (by omega) (by omega)) ?_ | refine WL.y rfl (Yld.shl rfl rfl (by omega)) ?_ | refine WL.y rfl (Yld.shr rfl rfl (by omega)) ?_ | refine WL.y rfl (Yld.pure tab_ok rfl) ?_ | refine WL.y rfl (Yld.fld flds_ok rfl rfl rfl) ?_ | refine WL.y rfl (Yld.max2 rfl rfl) ?_ | refine WL.y rfl (Yld.min2 rfl rfl) ?_ | refine WL.y rfl (Yld.pickV rfl rfl rfl) ?_ | refine WL.gno rfl rfl rfl rfl ?_ | refine WL.gyes rfl rfl rfl rfl (Yld.add rfl rfl (by simp only [In]; omega)) ?_ | refine WL.gyes rfl rfl rfl rfl (Yld.sub rfl rfl (by simp only [In]; omega)) ?_ | refine WL.gyes rfl rfl rfl rfl (Yld.mul rfl rfl (by simp only [In]; omega)) ?_ | refine WL.gyes rfl rfl rfl rfl (Yld.convB tab_ok rfl rfl rfl rfl) ?_ | refine WL.gyes rfl rfl rfl rfl (Yld.conv tab_ok rfl rfl rfl (by simp only [In]; omega)) ?_ | refine WL.gyes rfl rfl rfl rfl (Yld.quo rfl rfl (by omega) (by omega) (by simp only [In]; omega)) ?_ | refine WL.gyes rfl rfl rfl rfl (Yld.rem rfl rfl (by omega) (by omega)) ?_ | refine WL.gyes rfl rfl rfl rfl (Yld.shl rfl rfl (by omega)) ?_ | refine WL.gyes rfl rfl rfl rfl (Yld.shr rfl rfl (by omega)) ?_ | refine WL.gyes rfl rfl rfl rfl (Yld.pure tab_ok rfl) ?_ | refine WL.gyes rfl rfl rfl rfl (Yld.fld flds_ok rfl rfl rfl) ?_ | refine WL.gyes rfl rfl rfl rfl (Yld.max2 rfl rfl) ?_ | refine WL.gyes rfl rfl rfl rfl (Yld.min2 rfl rfl) ?_ | refine WL.gyes rfl rfl rfl rfl (Yld.pickV rfl rfl rfl) ?_)
  refine WL.call rfl rfl (made_fn false A2 c2 l2 w2 hR2 hD2 (by simp at hl2; omega)) ?_
  rintro r w3 ⟨hN3, hg3⟩
  obtain ⟨A3, c3, l3, rfl, hR3, hD3, hC3, hl3, hv3⟩ := Nm.nat hN3
  repeat (first | refine WC.seq ?_ | refine WC.block ?_ | refine WC.region ?_ | refine WL.nil ?_ | refine WX.then_normal ?_ | refine WC.skip ?_ | refine WC.exit ?_ | refine WC.ret ?_ | refine WX.then_exit ?_ | refine WX.then_ret ?_ | refine WX.block_normal ?_ | refine WX.block_ret ?_ | refine WX.block_same ?_ | refine WX.block_other rfl ?_ | refine WC.label ?_ | refine WC.scope ?_ | refine WX.scope_normal ?_ | refine WX.scope_ret ?_ | refine WX.scope_exit ?_ | refine WL.y rfl (Yld.add rfl rfl (by simp only [In]; omega)) ?_ | refine WL.y rfl (Yld.sub rfl rfl (by simp only [In]; omega)) ?_ | refine WL.y rfl (Yld.mul rfl rfl (by simp only [In]; omega)) ?_ | refine WL.y rfl (Yld.convB tab_ok rfl rfl rfl rfl) ?_ | refine WL.y rfl (Yld.conv tab_ok rfl rfl rfl (by simp only [In]; omega)) ?_ | refine WL.y rfl (Yld.quo rfl rfl (by omega) (by omega) (by simp only [In]; omega)) ?_ | refine WL.y rfl (Yld.rem rfl rfl (by omega) (by omega)) ?_ | refine WL.y rfl (Yld.shl rfl rfl (by omega)) ?_ | refine WL.y rfl (Yld.shr rfl rfl (by omega)) ?_ | refine WL.y rfl (Yld.pure tab_ok rfl) ?_ | refine WL.y rfl (Yld.fld flds_ok rfl rfl rfl) ?_ | refine WL.y rfl (Yld.max2 rfl rfl) ?_ | refine WL.y rfl (Yld.min2 rfl rfl) ?_ | refine WL.y rfl (Yld.pickV rfl rfl rfl) ?_ | refine WL.gno rfl rfl rfl rfl ?_ | refine WL.gyes rfl rfl rfl rfl (Yld.add rfl rfl (by simp only [In]; omega)) ?_ | refine WL.gyes rfl rfl rfl rfl (Yld.sub rfl rfl (by simp only [In]; omega)) ?_ | refine WL.gyes rfl rfl rfl rfl (Yld.mul rfl rfl (by simp only [In]; omega)) ?_ | refine WL.gyes rfl rfl rfl rfl (Yld.convB tab_ok rfl rfl rfl rfl) ?_ | refine WL.gyes rfl rfl rfl rfl (Yld.conv tab_ok rfl rfl rfl (by simp only [In]; omega)) ?_ | refine WL.gyes rfl rfl rfl rfl (Yld.quo rfl rfl (by omega) (by omega) (by simp only [In]; omega)) ?_ | refine WL.gyes rfl rfl rfl rfl (Yld.rem rfl rfl (by omega) (by omega)) ?_ | refine WL.gyes rfl rfl rfl rfl (Yld.shl rfl rfl (by omega)) ?_ | refine WL.gyes rfl rfl rfl rfl (Yld.shr rfl rfl (by omega)) ?_ | refine WL.gyes rfl rfl rfl rfl (Yld.pure tab_ok rfl) ?_ | refine WL.gyes rfl rfl rfl rfl (Yld.fld flds_ok rfl rfl rfl) ?_ | refine WL.gyes rfl rfl rfl rfl (Yld.max2 rfl rfl) ?_ | refine WL.gyes rfl rfl rfl rfl (Yld.min2 rfl rfl) ?_ | refine WL.gyes rfl rfl rfl rfl (Yld.pickV rfl rfl rfl) ?_)
  refine WX.ret1 rfl rfl ⟨A3, c3, l3, rfl, hR3, hD3, hC3, by simp at hl2; omega, by rw [hv3, hv2]; simp [val], gr_trans (gr_trans hg1 hg2) hg3⟩
end Go.Proofs.YtilphcippnfklaaDoor
 namespace Go.Proofs.YtilphcippnfklaaDoor
open Go Go.RowKit
attribute [local irreducible] WL WC WX WQ WK Yld Eff Ef0 Fn
theorem drop_cons (l : List Nat) (i : Nat) (h : i < l.length) : l.drop i = l.getD i 0 :: l.drop (i + 1) := by
  rw [List.drop_eq_getElem_cons h]; simp [List.getD, h]
theorem drop_set_self (l : List Nat) (i d : Nat) (h : i < l.length) : (l.set i d).drop i = d :: l.drop (i + 1) := by
  rw [drop_cons _ _ (by simpa using h), getD_set_eq l i d h]
  congr 1
  apply List.ext_getElem?
  intro j
  simp only [List.getElem?_drop]
  rw [List.getElem?_set_ne (by omega)]
theorem Dg.cons {l : List Nat} (h : Dg l) {d : Nat} (hd : d < 1000000000) : Dg (d :: l) := fun i => by
  cases i with
  | zero => simpa using hd
  | succ i => simpa using h i
theorem div_step (a q vb r r1 low s : Nat) (hs : s = q * vb + r) (h1 : r1 = a + 1000000000 * r) (h2 : vb * low ≤ r1) : a + 1000000000 * s = (low + 1000000000 * q) * vb + (r1 - vb * low) := by
  subst hs h1
  have : a + 1000000000 * (q * vb + r) = (1000000000 * q) * vb + (a + 1000000000 * r) := by grind
  rw [this, Nat.add_mul]
  have : low * vb = vb * low := Nat.mul_comm _ _
  omega
set_option maxHeartbeats 4000000 in
theorem divide_fn (A : Option Addr) (c : Nat) (la : List Nat) (B : Option Addr) (cb : Nat) (lb : List Nat) (w : World) (hA : Rd vd w A c la) (hB : Rd vd w B cb lb) (hDa : Dg la) (hDb : Dg lb) (hCb : Can lb) (hb0 : lb ≠ []) (hla : la.length ≤ 100000) (hlb : lb.length ≤ 100000) :
    Fn Tryd.prog 105 ⟨[.slice A la.length c, .slice B lb.length cb]⟩ w fun v w' => ∃ Q cq q R cr r, v = .tuple #[.slice Q q.length cq, .slice R r.length cr] ∧ Rd vd w' Q cq q ∧ Rd vd w' R cr r ∧ Dg q ∧ Dg r ∧ Can r ∧ q.length = la.length ∧ val la = val q * val lb + val r ∧ val r < val lb ∧ w.grownBy w' none := by
  have hvb := val_pos hCb hb0
  refine Fn.enter (by kernel_rfl) Tryd.func105 rfl Tryd.ntmps105 rfl ?_
  repeat (first | refine WC.seq ?_ | refine WC.block ?_ | refine WC.region ?_ | refine WL.nil ?_ | refine WX.then_normal ?_ | refine WC.skip ?_ | refine WC.exit ?_ | refine WC.ret ?_ | refine WX.then_exit ?_ | refine WX.then_ret ?_ | refine WX.block_normal ?_ | refine WX.block_ret ?_ | refine WX.block_same ?_ | refine WX.block_other rfl ?_ | refine WC.label ?_ | refine WC.scope ?_ | refine WX.scope_normal ?_ | refine WX.scope_ret ?_ | refine WX.scope_exit ?_ | refine WL.y rfl (Yld.add rfl rfl (by simp only [In]; omega)) ?_ | refine WL.y rfl (Yld.sub rfl rfl (by simp only [In]; omega)) ?_ | refine WL.y rfl (Yld.quo rfl rfl (by omega) (by omega) (by simp only [In]; omega)) ?_ | refine WL.y rfl (Yld.pure tab_ok rfl) ?_ | refine WL.y rfl (Yld.fld flds_ok rfl rfl rfl) ?_)
  refine WL.makeZ (f := vd) (z := 0) (B := w.heap.size) tab_ok rfl rfl zero98 rfl rfl (by omega) (by omega) (Nat.le_refl _) (fun g w1 hO1 hg1 hl1 => ?_)
  repeat (first | refine WC.seq ?_ | refine WC.block ?_ | refine WC.region ?_ | refine WL.nil ?_ | refine WX.then_normal ?_ | refine WC.skip ?_ | refine WC.exit ?_ | refine WC.ret ?_ | refine WX.then_exit ?_ | refine WX.then_ret ?_ | refine WX.block_normal ?_ | refine WX.block_ret ?_ | refine WX.block_same ?_ | refine WX.block_other rfl ?_ | refine WC.label ?_ | refine WC.scope ?_ | refine WX.scope_normal ?_ | refine WX.scope_ret ?_ | refine WX.scope_exit ?_ | refine WL.y rfl (Yld.add rfl rfl (by simp only [In]; omega)) ?_ | refine WL.y rfl (Yld.sub rfl rfl (by simp only [In]; omega)) ?_ | refine WL.y rfl (Yld.quo rfl rfl (by omega) (by omega) (by simp only [In]; omega)) ?_ | refine WL.y rfl (Yld.pure tab_ok rfl) ?_ | refine WL.y rfl (Yld.fld flds_ok rfl rfl rfl) ?_)
  refine WC.loop5 (S1 := Nat) (S2 := List Nat) (S3 := Option Addr) (S4 := Nat) (S5 := List Nat) (fun j _ _ _ _ => j)
    (fun j _ R cr r => [(8, .int .i64 ((j : Int) - 1)), (7, .slice R r.length cr), (6, .slice (some ⟨g, 0, none⟩) la.length la.length), (0, .slice A la.length c), (1, .slice B lb.length cb)])
    (fun j q R cr r w2 => j ≤ la.length ∧ q.length = la.length ∧ Dg q ∧ Rd vd w2 R cr r ∧ Dg r ∧ Can r ∧ val r < val lb ∧ val (la.drop j) = val (q.drop j) * val lb + val r ∧ Own vd w2 w.heap.size 98 (some ⟨g, 0, none⟩) la.length q ∧ w.grownBy w2 none)
    la.length (List.replicate la.length 0) none 0 [] ⟨by omega, by simp, Dg.zeros _, Rd.nil _ _ (by simp [maxLen]), Dg.nil, fun h => absurd rfl h, by simpa [val] using hvb, by simp [val], hO1, hg1⟩ (by repeat (first | exact Sub.nil | refine Sub.cons rfl ?_)) (fun j q R cr r w2 ⟨hj, hql, hDq, hR, hDr, hCr, hvr, hv, hO, hg⟩ => ?_)
  have hA2 := hA.grown hg
  have hB2 := hB.grown hg
  repeat (first | refine WC.seq ?_ | refine WC.block ?_ | refine WC.region ?_ | refine WL.nil ?_ | refine WX.then_normal ?_ | refine WC.skip ?_ | refine WC.exit ?_ | refine WC.ret ?_ | refine WX.then_exit ?_ | refine WX.then_ret ?_ | refine WX.block_normal ?_ | refine WX.block_ret ?_ | refine WX.block_same ?_ | refine WX.block_other rfl ?_ | refine WC.label ?_ | refine WC.scope ?_ | refine WX.scope_normal ?_ | refine WX.scope_ret ?_ | refine WX.scope_exit ?_ | refine WL.y rfl (Yld.add rfl rfl (by simp only [In]; omega)) ?_ | refine WL.y rfl (Yld.sub rfl rfl (by simp only [In]; omega)) ?_ | refine WL.y rfl (Yld.quo rfl rfl (by omega) (by omega) (by simp only [In]; omega)) ?_ | refine WL.y rfl (Yld.pure tab_ok rfl) ?_ | refine WL.y rfl (Yld.fld flds_ok rfl rfl rfl) ?_)
  refine WC.cond rfl (fun h => ?_) (fun h => ?_)
  · simp only [decide_eq_true_eq] at h
    obtain ⟨i, rfl⟩ : ∃ i, j = i + 1 := ⟨j - 1, by omega⟩
    have hit : (((i + 1 : Nat) : Int) - 1).toNat = i := by omega
    have hxi := hDa i
    have hdc := drop_cons la i (by omega)
    repeat (first | refine WL.y rfl (Yld.iaddr tab_ok hA2 rfl rfl rfl rfl (by omega) (by omega)) ?_ | refine WL.y rfl (Yld.iload 0 tab_ok hA2 rfl rfl (by omega)) ?_ | refine WC.seq ?_ | refine WC.block ?_ | refine WC.region ?_ | refine WL.nil ?_ | refine WX.then_normal ?_ | refine WC.skip ?_ | refine WC.exit ?_ | refine WC.ret ?_ | refine WX.then_exit ?_ | refine WX.then_ret ?_ | refine WX.block_normal ?_ | refine WX.block_ret ?_ | refine WX.block_same ?_ | refine WX.block_other rfl ?_ | refine WC.label ?_ | refine WC.scope ?_ | refine WX.scope_normal ?_ | refine WX.scope_ret ?_ | refine WX.scope_exit ?_ | refine WL.y rfl (Yld.add rfl rfl (by simp only [In]; omega)) ?_ | refine WL.y rfl (Yld.sub rfl rfl (by simp only [In]; omega)) ?_ | refine WL.y rfl (Yld.quo rfl rfl (by omega) (by omega) (by simp only [In]; omega)) ?_ | refine WL.y rfl (Yld.pure tab_ok rfl) ?_ | refine WL.y rfl (Yld.fld flds_ok rfl rfl rfl) ?_)
    rw [hit]
    generalize la.getD i 0 = x at *
    refine WL.lit (us := [vd x]) tab_ok rfl rfl rfl (by intro u hu; rw [List.mem_singleton] at hu; rw [hu]; rfl) rfl (by omega) (fun g3 w3 hL3 hg3 hl3 => ?_)
    repeat (first | refine WC.seq ?_ | refine WC.block ?_ | refine WC.region ?_ | refine WL.nil ?_ | refine WX.then_normal ?_ | refine WC.skip ?_ | refine WC.exit ?_ | refine WC.ret ?_ | refine WX.then_exit ?_ | refine WX.then_ret ?_ | refine WX.block_normal ?_ | refine WX.block_ret ?_ | refine WX.block_same ?_ | refine WX.block_other rfl ?_ | refine WC.label ?_ | refine WC.scope ?_ | refine WX.scope_normal ?_ | refine WX.scope_ret ?_ | refine WX.scope_exit ?_ | refine WL.y rfl (Yld.add rfl rfl (by simp only [In]; omega)) ?_ | refine WL.y rfl (Yld.sub rfl rfl (by simp only [In]; omega)) ?_ | refine WL.y rfl (Yld.quo rfl rfl (by omega) (by omega) (by simp only [In]; omega)) ?_ | refine WL.y rfl (Yld.pure tab_ok rfl) ?_ | refine WL.y rfl (Yld.fld flds_ok rfl rfl rfl) ?_)
    have hrl := val_len_le hDb hCr (by omega : val r ≤ val lb)
    have hz1 := hg1.size
    have hz2 := hg.size
    have hO3 : Own vd w3 w2.heap.size 98 (some ⟨g3, 0, none⟩) 1 [x] := Own.ofBl hL3 hl3 (by simp [maxLen]) rfl
    refine WL.append tab_ok rfl rfl One.d hO3 rfl rfl (hR.grown hg3) rfl rfl (by simp only [List.length_cons, List.length_nil]; omega) (by simp only [maxLen, List.length_cons, List.length_nil]; omega) (by have := hg3.size; omega) (fun A4 c4 w4 hO4 hg4 hf4 => ?_)
    have hg24 := gr_own hg3 hO3 hg4 (Nat.le_refl _)
    have hA4b : ∀ q, blk A4 = some q → w2.heap.size ≤ q := fun q hq => (hO4.lt hq).1
    have hgl : g < w2.heap.size := (hO.lt rfl).2
    have hDx : Dg ([x] ++ r) := hDr.cons hxi
    refine WL.call rfl rfl (made_fn' false A4 c4 ([x] ++ r) w4 hO4.rd hDx (by simp; omega)) ?_
    rintro _ w5 ⟨hN5, hg5, hlies⟩
    obtain ⟨A5, c5, r1, rfl, hR5, hD5, hC5, hl5, hv5⟩ := Nm.nat hN5
    have hA5 : blk A5 ≠ some g := fun e => by have := hA4b _ (hlies _ _ _ _ rfl _ e); omega
    clear hlies
    have hg25 := gr_trans hg24 hg5
    have hv1 : val r1 = x + 1000000000 * val r := hv5
    have hr1 : val r1 < val lb * 1000000000 := by
      have : val r + 1 ≤ val lb := hvr
      omega
    have hl5' : r1.length ≤ 100001 := by simp at hl5; omega
    have hB5 := hB2.grown hg25
    have hO5 := hO.grown hg25
    repeat (first | refine WC.seq ?_ | refine WC.block ?_ | refine WC.region ?_ | refine WL.nil ?_ | refine WX.then_normal ?_ | refine WC.skip ?_ | refine WC.exit ?_ | refine WC.ret ?_ | refine WX.then_exit ?_ | refine WX.then_ret ?_ | refine WX.block_normal ?_ | refine WX.block_ret ?_ | refine WX.block_same ?_ | refine WX.block_other rfl ?_ | refine WC.label ?_ | refine WC.scope ?_ | refine WX.scope_normal ?_ | refine WX.scope_ret ?_ | refine WX.scope_exit ?_ | refine WL.y rfl (Yld.add rfl rfl (by simp only [In]; omega)) ?_ | refine WL.y rfl (Yld.sub rfl rfl (by simp only [In]; omega)) ?_ | refine WL.y rfl (Yld.quo rfl rfl (by omega) (by omega) (by simp only [In]; omega)) ?_ | refine WL.y rfl (Yld.pure tab_ok rfl) ?_ | refine WL.y rfl (Yld.fld flds_ok rfl rfl rfl) ?_)
    refine WC.loop2 (S1 := Nat) (S2 := Nat) (fun lo hi => hi - lo)
      (fun lo hi => [(9, vd lo), (10, vd hi), (8, .int .i64 (((i + 1 : Nat) : Int) - 1)), (7, .slice A5 r1.length c5), (6, .slice (some ⟨g, 0, none⟩) la.length la.length), (0, .slice A la.length c), (1, .slice B lb.length cb)])
      (fun lo hi w6 => lo ≤ hi ∧ hi ≤ 999999999 ∧ val lb * lo ≤ val r1 ∧ val r1 < val lb * (hi + 1) ∧ w5.grownBy w6 none) 0 999999999 ⟨by omega, by omega, by omega, hr1, gr_refl _ _⟩ (by repeat (first | exact Sub.nil | refine Sub.cons rfl ?_)) (fun lo hi w6 ⟨h1, h2, h3, h4, hg6⟩ => ?_)
    have hB6 := hB5.grown hg6
    have hR6 := hR5.grown hg6
    repeat (first | refine WC.seq ?_ | refine WC.block ?_ | refine WC.region ?_ | refine WL.nil ?_ | refine WX.then_normal ?_ | refine WC.skip ?_ | refine WC.exit ?_ | refine WC.ret ?_ | refine WX.then_exit ?_ | refine WX.then_ret ?_ | refine WX.block_normal ?_ | refine WX.block_ret ?_ | refine WX.block_same ?_ | refine WX.block_other rfl ?_ | refine WC.label ?_ | refine WC.scope ?_ | refine WX.scope_normal ?_ | refine WX.scope_ret ?_ | refine WX.scope_exit ?_ | refine WL.y rfl (Yld.add rfl rfl (by simp only [In]; omega)) ?_ | refine WL.y rfl (Yld.sub rfl rfl (by simp only [In]; omega)) ?_ | refine WL.y rfl (Yld.quo rfl rfl (by omega) (by omega) (by simp only [In]; omega)) ?_ | refine WL.y rfl (Yld.pure tab_ok rfl) ?_ | refine WL.y rfl (Yld.fld flds_ok rfl rfl rfl) ?_)
    refine WC.cond rfl (fun h' => ?_) (fun h' => ?_)
    · simp only [decide_eq_true_eq] at h'
      have hmid : ((lo : Int) + (hi : Int) + 1) / 2 = (((lo + hi + 1) / 2 : Nat) : Int) := by omega
      repeat (first | refine WC.seq ?_ | refine WC.block ?_ | refine WC.region ?_ | refine WL.nil ?_ | refine WX.then_normal ?_ | refine WC.skip ?_ | refine WC.exit ?_ | refine WC.ret ?_ | refine WX.then_exit ?_ | refine WX.then_ret ?_ | refine WX.block_normal ?_ | refine WX.block_ret ?_ | refine WX.block_same ?_ | refine WX.block_other rfl ?_ | refine WC.label ?_ | refine WC.scope ?_ | refine WX.scope_normal ?_ | refine WX.scope_ret ?_ | refine WX.scope_exit ?_ | refine WL.y rfl (Yld.add rfl rfl (by simp only [In]; omega)) ?_ | refine WL.y rfl (Yld.sub rfl rfl (by simp only [In]; omega)) ?_ | refine WL.y rfl (Yld.quo rfl rfl (by omega) (by omega) (by simp only [In]; omega)) ?_ | refine WL.y rfl (Yld.pure tab_ok rfl) ?_ | refine WL.y rfl (Yld.fld flds_ok rfl rfl rfl) ?_)
      rw [hmid]
      generalize hM : (lo + hi + 1) / 2 = M
      have hM1 : lo < M ∧ M ≤ hi := by omega
      refine WL.call rfl rfl (times_fn B cb lb M w6 hB6 hDb (by omega) (by omega)) ?_
      rintro _ w7 ⟨A7, c7, l7, rfl, hR7, hD7, hC7, hl7, hv7, hg7⟩
      repeat (first | refine WC.seq ?_ | refine WC.block ?_ | refine WC.region ?_ | refine WL.nil ?_ | refine WX.then_normal ?_ | refine WC.skip ?_ | refine WC.exit ?_ | refine WC.ret ?_ | refine WX.then_exit ?_ | refine WX.then_ret ?_ | refine WX.block_normal ?_ | refine WX.block_ret ?_ | refine WX.block_same ?_ | refine WX.block_other rfl ?_ | refine WC.label ?_ | refine WC.scope ?_ | refine WX.scope_normal ?_ | refine WX.scope_ret ?_ | refine WX.scope_exit ?_ | refine WL.y rfl (Yld.add rfl rfl (by simp only [In]; omega)) ?_ | refine WL.y rfl (Yld.sub rfl rfl (by simp only [In]; omega)) ?_ | refine WL.y rfl (Yld.quo rfl rfl (by omega) (by omega) (by simp only [In]; omega)) ?_ | refine WL.y rfl (Yld.pure tab_ok rfl) ?_ | refine WL.y rfl (Yld.fld flds_ok rfl rfl rfl) ?_)
      refine WL.call rfl rfl (cmp_fn A7 c7 l7 A5 c5 r1 w7 hR7 (hR6.grown hg7) hD7 hD5 hC7 hC5 (by omega) (by omega)) ?_
      rintro _ w8 ⟨⟨n, rfl, ht⟩, hw8⟩
      have hw9 := hw8.symm
      subst hw9
      repeat (first | refine WC.seq ?_ | refine WC.block ?_ | refine WC.region ?_ | refine WL.nil ?_ | refine WX.then_normal ?_ | refine WC.skip ?_ | refine WC.exit ?_ | refine WC.ret ?_ | refine WX.then_exit ?_ | refine WX.then_ret ?_ | refine WX.block_normal ?_ | refine WX.block_ret ?_ | refine WX.block_same ?_ | refine WX.block_other rfl ?_ | refine WC.label ?_ | refine WC.scope ?_ | refine WX.scope_normal ?_ | refine WX.scope_ret ?_ | refine WX.scope_exit ?_ | refine WL.y rfl (Yld.add rfl rfl (by simp only [In]; omega)) ?_ | refine WL.y rfl (Yld.sub rfl rfl (by simp only [In]; omega)) ?_ | refine WL.y rfl (Yld.quo rfl rfl (by omega) (by omega) (by simp only [In]; omega)) ?_ | refine WL.y rfl (Yld.pure tab_ok rfl) ?_ | refine WL.y rfl (Yld.fld flds_ok rfl rfl rfl) ?_)
      refine WC.cond rfl (fun h0 => ?_) (fun h0 => ?_)
      · simp only [decide_eq_true_eq] at h0
        have : val l7 ≤ val r1 := by rcases ht with h | h | h <;> omega
        repeat (first | refine WC.seq ?_ | refine WC.block ?_ | refine WC.region ?_ | refine WL.nil ?_ | refine WX.then_normal ?_ | refine WC.skip ?_ | refine WC.exit ?_ | refine WC.ret ?_ | refine WX.then_exit ?_ | refine WX.then_ret ?_ | refine WX.block_normal ?_ | refine WX.block_ret ?_ | refine WX.block_same ?_ | refine WX.block_other rfl ?_ | refine WC.label ?_ | refine WC.scope ?_ | refine WX.scope_normal ?_ | refine WX.scope_ret ?_ | refine WX.scope_exit ?_ | refine WL.y rfl (Yld.add rfl rfl (by simp only [In]; omega)) ?_ | refine WL.y rfl (Yld.sub rfl rfl (by simp only [In]; omega)) ?_ | refine WL.y rfl (Yld.quo rfl rfl (by omega) (by omega) (by simp only [In]; omega)) ?_ | refine WL.y rfl (Yld.pure tab_ok rfl) ?_ | refine WL.y rfl (Yld.fld flds_ok rfl rfl rfl) ?_)
        exact WX.round2 M hi ⟨by omega, h2, by omega, h4, gr_trans hg6 hg7⟩ (by omega) (by repeat (first | exact Sub.nil | refine Sub.cons rfl ?_))
      · simp only [decide_eq_false_iff_not] at h0
        have : val r1 < val l7 := by rcases ht with h | h | h <;> omega
        repeat (first | refine WC.seq ?_ | refine WC.block ?_ | refine WC.region ?_ | refine WL.nil ?_ | refine WX.then_normal ?_ | refine WC.skip ?_ | refine WC.exit ?_ | refine WC.ret ?_ | refine WX.then_exit ?_ | refine WX.then_ret ?_ | refine WX.block_normal ?_ | refine WX.block_ret ?_ | refine WX.block_same ?_ | refine WX.block_other rfl ?_ | refine WC.label ?_ | refine WC.scope ?_ | refine WX.scope_normal ?_ | refine WX.scope_ret ?_ | refine WX.scope_exit ?_ | refine WL.y rfl (Yld.add rfl rfl (by simp only [In]; omega)) ?_ | refine WL.y rfl (Yld.sub rfl rfl (by simp only [In]; omega)) ?_ | refine WL.y rfl (Yld.quo rfl rfl (by omega) (by omega) (by simp only [In]; omega)) ?_ | refine WL.y rfl (Yld.pure tab_ok rfl) ?_ | refine WL.y rfl (Yld.fld flds_ok rfl rfl rfl) ?_)
        have hM3 : (M : Int) - 1 = ((M - 1 : Nat) : Int) := by omega
        rw [hM3]
        exact WX.round2 lo (M - 1) ⟨by omega, by omega, h3, by rw [show M - 1 + 1 = M by omega]; omega, gr_trans hg6 hg7⟩ (by omega) (by repeat (first | exact Sub.nil | refine Sub.cons rfl ?_))
    · simp only [decide_eq_false_iff_not] at h'
      obtain rfl : hi = lo := by omega
      have hO6 := hO5.grown hg6
      repeat (first | refine WL.y rfl (Yld.iaddr tab_ok hO6.rd rfl rfl hql.symm rfl (by omega) (by omega)) ?_ | refine WC.seq ?_ | refine WC.block ?_ | refine WC.region ?_ | refine WL.nil ?_ | refine WX.then_normal ?_ | refine WC.skip ?_ | refine WC.exit ?_ | refine WC.ret ?_ | refine WX.then_exit ?_ | refine WX.then_ret ?_ | refine WX.block_normal ?_ | refine WX.block_ret ?_ | refine WX.block_same ?_ | refine WX.block_other rfl ?_ | refine WC.label ?_ | refine WC.scope ?_ | refine WX.scope_normal ?_ | refine WX.scope_ret ?_ | refine WX.scope_exit ?_ | refine WL.y rfl (Yld.add rfl rfl (by simp only [In]; omega)) ?_ | refine WL.y rfl (Yld.sub rfl rfl (by simp only [In]; omega)) ?_ | refine WL.y rfl (Yld.quo rfl rfl (by omega) (by omega) (by simp only [In]; omega)) ?_ | refine WL.y rfl (Yld.pure tab_ok rfl) ?_ | refine WL.y rfl (Yld.fld flds_ok rfl rfl rfl) ?_)
      rw [hit]
      refine WL.ostore (v := hi) one98 One.d hO6 rfl rfl (by omega) (fun w7 hO7 hg7 => ?_)
      have hR7 := hR6.keep hg7 (fun q hq e => hA5 (e.trans hq.symm))
      have hg27 := gr_own (gr_trans (gr_trans hg hg25) hg6) hO6 hg7 (Nat.le_refl _)
      have hB7 := hB.grown hg27
      repeat (first | refine WC.seq ?_ | refine WC.block ?_ | refine WC.region ?_ | refine WL.nil ?_ | refine WX.then_normal ?_ | refine WC.skip ?_ | refine WC.exit ?_ | refine WC.ret ?_ | refine WX.then_exit ?_ | refine WX.then_ret ?_ | refine WX.block_normal ?_ | refine WX.block_ret ?_ | refine WX.block_same ?_ | refine WX.block_other rfl ?_ | refine WC.label ?_ | refine WC.scope ?_ | refine WX.scope_normal ?_ | refine WX.scope_ret ?_ | refine WX.scope_exit ?_ | refine WL.y rfl (Yld.add rfl rfl (by simp only [In]; omega)) ?_ | refine WL.y rfl (Yld.sub rfl rfl (by simp only [In]; omega)) ?_ | refine WL.y rfl (Yld.quo rfl rfl (by omega) (by omega) (by simp only [In]; omega)) ?_ | refine WL.y rfl (Yld.pure tab_ok rfl) ?_ | refine WL.y rfl (Yld.fld flds_ok rfl rfl rfl) ?_)
      refine WL.call rfl rfl (times_fn B cb lb hi w7 hB7 hDb (by omega) (by omega)) ?_
      rintro _ w8 ⟨A8, c8, l8, rfl, hR8, hD8, hC8, hl8, hv8, hg8⟩
      repeat (first | refine WC.seq ?_ | refine WC.block ?_ | refine WC.region ?_ | refine WL.nil ?_ | refine WX.then_normal ?_ | refine WC.skip ?_ | refine WC.exit ?_ | refine WC.ret ?_ | refine WX.then_exit ?_ | refine WX.then_ret ?_ | refine WX.block_normal ?_ | refine WX.block_ret ?_ | refine WX.block_same ?_ | refine WX.block_other rfl ?_ | refine WC.label ?_ | refine WC.scope ?_ | refine WX.scope_normal ?_ | refine WX.scope_ret ?_ | refine WX.scope_exit ?_ | refine WL.y rfl (Yld.add rfl rfl (by simp only [In]; omega)) ?_ | refine WL.y rfl (Yld.sub rfl rfl (by simp only [In]; omega)) ?_ | refine WL.y rfl (Yld.quo rfl rfl (by omega) (by omega) (by simp only [In]; omega)) ?_ | refine WL.y rfl (Yld.pure tab_ok rfl) ?_ | refine WL.y rfl (Yld.fld flds_ok rfl rfl rfl) ?_)
      have hle8 : val l8 ≤ val r1 := by omega
      refine WL.call rfl rfl (minus_fn A5 c5 r1 A8 c8 l8 w8 (hR7.grown hg8) hR8 hD5 hD8 (by omega) (val_len_le hD5 hC8 hle8) hle8) ?_
      rintro _ w9 ⟨A9, c9, l9, rfl, hR9, hD9, hv9, hl9, hg9⟩
      repeat (first | refine WC.seq ?_ | refine WC.block ?_ | refine WC.region ?_ | refine WL.nil ?_ | refine WX.then_normal ?_ | refine WC.skip ?_ | refine WC.exit ?_ | refine WC.ret ?_ | refine WX.then_exit ?_ | refine WX.then_ret ?_ | refine WX.block_normal ?_ | refine WX.block_ret ?_ | refine WX.block_same ?_ | refine WX.block_other rfl ?_ | refine WC.label ?_ | refine WC.scope ?_ | refine WX.scope_normal ?_ | refine WX.scope_ret ?_ | refine WX.scope_exit ?_ | refine WL.y rfl (Yld.add rfl rfl (by simp only [In]; omega)) ?_ | refine WL.y rfl (Yld.sub rfl rfl (by simp only [In]; omega)) ?_ | refine WL.y rfl (Yld.quo rfl rfl (by omega) (by omega) (by simp only [In]; omega)) ?_ | refine WL.y rfl (Yld.pure tab_ok rfl) ?_ | refine WL.y rfl (Yld.fld flds_ok rfl rfl rfl) ?_)
      refine WL.call rfl rfl (made_fn false A9 c9 l9 w9 hR9 hD9 (by omega)) ?_
      rintro _ wa ⟨hNa, hga⟩
      obtain ⟨Aa, ca, ra, rfl, hRa, hDa', hCa, hla', hva⟩ := Nm.nat hNa
      repeat (first | refine WC.seq ?_ | refine WC.block ?_ | refine WC.region ?_ | refine WL.nil ?_ | refine WX.then_normal ?_ | refine WC.skip ?_ | refine WC.exit ?_ | refine WC.ret ?_ | refine WX.then_exit ?_ | refine WX.then_ret ?_ | refine WX.block_normal ?_ | refine WX.block_ret ?_ | refine WX.block_same ?_ | refine WX.block_other rfl ?_ | refine WC.label ?_ | refine WC.scope ?_ | refine WX.scope_normal ?_ | refine WX.scope_ret ?_ | refine WX.scope_exit ?_ | refine WL.y rfl (Yld.add rfl rfl (by simp only [In]; omega)) ?_ | refine WL.y rfl (Yld.sub rfl rfl (by simp only [In]; omega)) ?_ | refine WL.y rfl (Yld.quo rfl rfl (by omega) (by omega) (by simp only [In]; omega)) ?_ | refine WL.y rfl (Yld.pure tab_ok rfl) ?_ | refine WL.y rfl (Yld.fld flds_ok rfl rfl rfl) ?_)
      have hsl : ((i + 1 : Nat) : Int) - 1 - 1 = (i : Int) - 1 := by omega
      rw [hsl]
      have hgx := gr_trans (gr_trans hg8 hg9) hga
      have hva' : val ra = val r1 - val lb * hi := by omega
      refine WX.round5 i (q.set i hi) Aa ca ra ⟨by omega, by simp [hql], hDq.set _ (by omega), hRa, hDa', hCa, by rw [hva']; rw [Nat.mul_add] at h4; omega, ?_, hO7.grown hgx, gr_trans hg27 hgx⟩ (by omega) (by repeat (first | exact Sub.nil | refine Sub.cons rfl ?_))
      rw [hdc, drop_set_self _ _ _ (by omega), hva']
      exact div_step _ _ _ _ _ _ _ hv hv1 h3
  · simp only [decide_eq_false_iff_not] at h
    obtain rfl : j = 0 := by omega
    repeat (first | refine WC.seq ?_ | refine WC.block ?_ | refine WC.region ?_ | refine WL.nil ?_ | refine WX.then_normal ?_ | refine WC.skip ?_ | refine WC.exit ?_ | refine WC.ret ?_ | refine WX.then_exit ?_ | refine WX.then_ret ?_ | refine WX.block_normal ?_ | refine WX.block_ret ?_ | refine WX.block_same ?_ | refine WX.block_other rfl ?_ | refine WC.label ?_ | refine WC.scope ?_ | refine WX.scope_normal ?_ | refine WX.scope_ret ?_ | refine WX.scope_exit ?_ | refine WL.y rfl (Yld.add rfl rfl (by simp only [In]; omega)) ?_ | refine WL.y rfl (Yld.sub rfl rfl (by simp only [In]; omega)) ?_ | refine WL.y rfl (Yld.quo rfl rfl (by omega) (by omega) (by simp only [In]; omega)) ?_ | refine WL.y rfl (Yld.pure tab_ok rfl) ?_ | refine WL.y rfl (Yld.fld flds_ok rfl rfl rfl) ?_)
    simp only [List.drop_zero] at hv
    have hfin : Value.slice (some ⟨g, 0, none⟩) la.length la.length = Value.slice (some ⟨g, 0, none⟩) q.length la.length := by rw [hql]
    rw [hfin]
    exact WX.ret2 rfl rfl rfl ⟨_, _, q, R, cr, r, rfl, hO.rd, hR, hDq, hDr, hCr, hql, hv, hvr, hg⟩
end Go.Proofs.YtilphcippnfklaaDoor
 namespace Go.Proofs.YtilphcippnfklaaDoor
open Go Go.RowKit
attribute [local irreducible] WL WC WX WQ WK Yld Eff Ef0 Fn
theorem conv_u64 (n : Int) (h1 : -9223372036854775808 ≤ n) (h2 : n ≤ 9223372036854775807) : IntKind.u64.wrap n = if n < 0 then n + 18446744073709551616 else n := by
  split
  · simp [IntKind.wrap, IntKind.bits, IntKind.signed]; omega
  · simp [IntKind.wrap, IntKind.bits, IntKind.signed]; omega
theorem of_fn (n : Int) (w : World) (h1 : -9223372036854775808 ≤ n) (h2 : n ≤ 9223372036854775807) :
    Fn Tryd.prog 67 ⟨[.int .i64 n]⟩ w fun r w' => Nm w' r n 3 ∧ w.grownBy w' none := by
  refine Fn.enter (by kernel_rfl) Tryd.func67 rfl Tryd.ntmps67 rfl ?_
  repeat (first | refine WC.seq ?_ | refine WC.block ?_ | refine WC.region ?_ | refine WL.nil ?_ | refine WX.then_normal ?_ | refine WC.skip ?_ | refine WC.exit ?_ | refine WC.ret ?_ | refine WX.then_exit ?_ | refine WX.then_ret ?_ | refine WX.block_normal ?_ | refine WX.block_ret ?_ | refine WX.block_same ?_ | refine WX.block_other rfl ?_ | refine WC.label ?_ | refine WC.scope ?_ | refine WX.scope_normal ?_ | refine WX.scope_ret ?_ | refine WX.scope_exit ?_ | refine WL.y rfl (Yld.add rfl rfl (by simp only [In]; omega)) ?_ | refine WL.y rfl (Yld.sub rfl rfl (by simp only [In]; omega)) ?_ | refine WL.y rfl (Yld.mul rfl rfl (by simp only [In]; omega)) ?_ | refine WL.y rfl (Yld.convB tab_ok rfl rfl rfl rfl) ?_ | refine WL.y rfl (Yld.conv tab_ok rfl rfl rfl (by simp only [In]; omega)) ?_ | refine WL.y rfl (Yld.quo rfl rfl (by omega) (by omega) (by simp only [In]; omega)) ?_ | refine WL.y rfl (Yld.rem rfl rfl (by omega) (by omega)) ?_ | refine WL.y rfl (Yld.shl rfl rfl (by omega)) ?_ | refine WL.y rfl (Yld.shr rfl rfl (by omega)) ?_ | refine WL.y rfl (Yld.pure tab_ok rfl) ?_ | refine WL.y rfl (Yld.fld flds_ok rfl rfl rfl) ?_ | refine WL.y rfl (Yld.max2 rfl rfl) ?_ | refine WL.y rfl (Yld.min2 rfl rfl) ?_ | refine WL.y rfl (Yld.pickV rfl rfl rfl) ?_ | refine WL.gno rfl rfl rfl rfl ?_ | refine WL.gyes rfl rfl rfl rfl (Yld.add rfl rfl (by simp only [In]; omega)) ?_ | refine WL.gyes rfl rfl rfl rfl (Yld.sub rfl rfl (by simp only [In]; omega)) ?_ | refine WL.gyes rfl rfl rfl rfl (Yld.mul rfl rfl (by simp only [In]; omega)) ?_ | refine WL.gyes rfl rfl rfl rfl (Yld.convB tab_ok rfl rfl rfl rfl) ?_ | refine WL.gyes rfl rfl rfl rfl (Yld.conv tab_ok rfl rfl rfl (by simp only [In]; omega)) ?_ | refine WL.gyes rfl rfl rfl rfl (Yld.quo rfl rfl (by omega) (by omega) (by simp only [In]; omega)) ?_ | refine WL.gyes rfl rfl rfl rfl (Yld.rem rfl rfl (by omega) (by omega)) ?_ | refine WL.gyes rfl rfl rfl rfl (Yld.shl rfl rfl (by omega)) ?_ | refine WL.gyes rfl rfl rfl rfl (Yld.shr rfl rfl (by omega)) ?_ | refine WL.gyes rfl rfl rfl rfl (Yld.pure tab_ok rfl) ?_ | refine WL.gyes rfl rfl rfl rfl (Yld.fld flds_ok rfl rfl rfl) ?_ | refine WL.gyes rfl rfl rfl rfl (Yld.max2 rfl rfl) ?_ | refine WL.gyes rfl rfl rfl rfl (Yld.min2 rfl rfl) ?_ | refine WL.gyes rfl rfl rfl rfl (Yld.pickV rfl rfl rfl) ?_)
  refine WL.alloc rfl zero44 (fun g w1 hB1 hg1 hl1 => ?_)
  repeat (first | refine WC.seq ?_ | refine WC.block ?_ | refine WC.region ?_ | refine WL.nil ?_ | refine WX.then_normal ?_ | refine WC.skip ?_ | refine WC.exit ?_ | refine WC.ret ?_ | refine WX.then_exit ?_ | refine WX.then_ret ?_ | refine WX.block_normal ?_ | refine WX.block_ret ?_ | refine WX.block_same ?_ | refine WX.block_other rfl ?_ | refine WC.label ?_ | refine WC.scope ?_ | refine WX.scope_normal ?_ | refine WX.scope_ret ?_ | refine WX.scope_exit ?_ | refine WL.y rfl (Yld.add rfl rfl (by simp only [In]; omega)) ?_ | refine WL.y rfl (Yld.sub rfl rfl (by simp only [In]; omega)) ?_ | refine WL.y rfl (Yld.mul rfl rfl (by simp only [In]; omega)) ?_ | refine WL.y rfl (Yld.convB tab_ok rfl rfl rfl rfl) ?_ | refine WL.y rfl (Yld.conv tab_ok rfl rfl rfl (by simp only [In]; omega)) ?_ | refine WL.y rfl (Yld.quo rfl rfl (by omega) (by omega) (by simp only [In]; omega)) ?_ | refine WL.y rfl (Yld.rem rfl rfl (by omega) (by omega)) ?_ | refine WL.y rfl (Yld.shl rfl rfl (by omega)) ?_ | refine WL.y rfl (Yld.shr rfl rfl (by omega)) ?_ | refine WL.y rfl (Yld.pure tab_ok rfl) ?_ | refine WL.y rfl (Yld.fld flds_ok rfl rfl rfl) ?_ | refine WL.y rfl (Yld.max2 rfl rfl) ?_ | refine WL.y rfl (Yld.min2 rfl rfl) ?_ | refine WL.y rfl (Yld.pickV rfl rfl rfl) ?_ | refine WL.gno rfl rfl rfl rfl ?_ | refine WL.gyes rfl rfl rfl rfl (Yld.add rfl rfl (by simp only [In]; omega)) ?_ | refine WL.gyes rfl rfl rfl rfl (Yld.sub rfl rfl (by simp only [In]; omega)) ?_ | refine WL.gyes rfl rfl rfl rfl (Yld.mul rfl rfl (by simp only [In]; omega)) ?_ | refine WL.gyes rfl rfl rfl rfl (Yld.convB tab_ok rfl rfl rfl rfl) ?_ | refine WL.gyes rfl rfl rfl rfl (Yld.conv tab_ok rfl rfl rfl (by simp only [In]; omega)) ?_ | refine WL.gyes rfl rfl rfl rfl (Yld.quo rfl rfl (by omega) (by omega) (by simp only [In]; omega)) ?_ | refine WL.gyes rfl rfl rfl rfl (Yld.rem rfl rfl (by omega) (by omega)) ?_ | refine WL.gyes rfl rfl rfl rfl (Yld.shl rfl rfl (by omega)) ?_ | refine WL.gyes rfl rfl rfl rfl (Yld.shr rfl rfl (by omega)) ?_ | refine WL.gyes rfl rfl rfl rfl (Yld.pure tab_ok rfl) ?_ | refine WL.gyes rfl rfl rfl rfl (Yld.fld flds_ok rfl rfl rfl) ?_ | refine WL.gyes rfl rfl rfl rfl (Yld.max2 rfl rfl) ?_ | refine WL.gyes rfl rfl rfl rfl (Yld.min2 rfl rfl) ?_ | refine WL.gyes rfl rfl rfl rfl (Yld.pickV rfl rfl rfl) ?_)
  refine WC.merge [(3, .int .u64 ((n.natAbs : Nat) : Int)), (0, .int .i64 n), (2, .pointer (some ⟨g, 0, none⟩))] rfl (fun h Q' hQ => ?_) (fun h Q' hQ => ?_) ?_
  · simp only [decide_eq_true_eq] at h
    have hc := conv_u64 n h1 h2
    rw [if_pos h] at hc
    repeat (first | refine WC.seq ?_ | refine WC.block ?_ | refine WC.region ?_ | refine WL.nil ?_ | refine WX.then_normal ?_ | refine WC.skip ?_ | refine WC.exit ?_ | refine WC.ret ?_ | refine WX.then_exit ?_ | refine WX.then_ret ?_ | refine WX.block_normal ?_ | refine WX.block_ret ?_ | refine WX.block_same ?_ | refine WX.block_other rfl ?_ | refine WC.label ?_ | refine WC.scope ?_ | refine WX.scope_normal ?_ | refine WX.scope_ret ?_ | refine WX.scope_exit ?_ | refine WL.y rfl (Yld.add rfl rfl (by simp only [In]; omega)) ?_ | refine WL.y rfl (Yld.sub rfl rfl (by simp only [In]; omega)) ?_ | refine WL.y rfl (Yld.mul rfl rfl (by simp only [In]; omega)) ?_ | refine WL.y rfl (Yld.convB tab_ok rfl rfl rfl rfl) ?_ | refine WL.y rfl (Yld.conv tab_ok rfl rfl rfl (by simp only [In]; omega)) ?_ | refine WL.y rfl (Yld.quo rfl rfl (by omega) (by omega) (by simp only [In]; omega)) ?_ | refine WL.y rfl (Yld.rem rfl rfl (by omega) (by omega)) ?_ | refine WL.y rfl (Yld.shl rfl rfl (by omega)) ?_ | refine WL.y rfl (Yld.shr rfl rfl (by omega)) ?_ | refine WL.y rfl (Yld.pure tab_ok rfl) ?_ | refine WL.y rfl (Yld.fld flds_ok rfl rfl rfl) ?_ | refine WL.y rfl (Yld.max2 rfl rfl) ?_ | refine WL.y rfl (Yld.min2 rfl rfl) ?_ | refine WL.y rfl (Yld.pickV rfl rfl rfl) ?_ | refine WL.gno rfl rfl rfl rfl ?_ | refine WL.gyes rfl rfl rfl rfl (Yld.add rfl rfl (by simp only [In]; omega)) ?_ | refine WL.gyes rfl rfl rfl rfl (Yld.sub rfl rfl (by simp only [In]; omega)) ?_ | refine WL.gyes rfl rfl rfl rfl (Yld.mul rfl rfl (by simp only [In]; omega)) ?_ | refine WL.gyes rfl rfl rfl rfl (Yld.convB tab_ok rfl rfl rfl rfl) ?_ | refine WL.gyes rfl rfl rfl rfl (Yld.conv tab_ok rfl rfl rfl (by simp only [In]; omega)) ?_ | refine WL.gyes rfl rfl rfl rfl (Yld.quo rfl rfl (by omega) (by omega) (by simp only [In]; omega)) ?_ | refine WL.gyes rfl rfl rfl rfl (Yld.rem rfl rfl (by omega) (by omega)) ?_ | refine WL.gyes rfl rfl rfl rfl (Yld.shl rfl rfl (by omega)) ?_ | refine WL.gyes rfl rfl rfl rfl (Yld.shr rfl rfl (by omega)) ?_ | refine WL.gyes rfl rfl rfl rfl (Yld.pure tab_ok rfl) ?_ | refine WL.gyes rfl rfl rfl rfl (Yld.fld flds_ok rfl rfl rfl) ?_ | refine WL.gyes rfl rfl rfl rfl (Yld.max2 rfl rfl) ?_ | refine WL.gyes rfl rfl rfl rfl (Yld.min2 rfl rfl) ?_ | refine WL.gyes rfl rfl rfl rfl (Yld.pickV rfl rfl rfl) ?_)
    rw [hc]
    have hc2 : IntKind.u64.wrap (0 - (n + 18446744073709551616)) = ((n.natAbs : Nat) : Int) := by
      simp [IntKind.wrap, IntKind.bits, IntKind.signed]; omega
    rw [hc2]
    exact WX.weaken (by repeat (first | exact Sub.nil | refine Sub.cons rfl ?_)) hQ
  · simp only [decide_eq_false_iff_not] at h
    have hc : IntKind.u64.wrap n = ((n.natAbs : Nat) : Int) := by rw [conv_u64 n h1 h2, if_neg h]; omega
    rw [hc]
    repeat (first | refine WC.seq ?_ | refine WC.block ?_ | refine WC.region ?_ | refine WL.nil ?_ | refine WX.then_normal ?_ | refine WC.skip ?_ | refine WC.exit ?_ | refine WC.ret ?_ | refine WX.then_exit ?_ | refine WX.then_ret ?_ | refine WX.block_normal ?_ | refine WX.block_ret ?_ | refine WX.block_same ?_ | refine WX.block_other rfl ?_ | refine WC.label ?_ | refine WC.scope ?_ | refine WX.scope_normal ?_ | refine WX.scope_ret ?_ | refine WX.scope_exit ?_ | refine WL.y rfl (Yld.add rfl rfl (by simp only [In]; omega)) ?_ | refine WL.y rfl (Yld.sub rfl rfl (by simp only [In]; omega)) ?_ | refine WL.y rfl (Yld.mul rfl rfl (by simp only [In]; omega)) ?_ | refine WL.y rfl (Yld.convB tab_ok rfl rfl rfl rfl) ?_ | refine WL.y rfl (Yld.conv tab_ok rfl rfl rfl (by simp only [In]; omega)) ?_ | refine WL.y rfl (Yld.quo rfl rfl (by omega) (by omega) (by simp only [In]; omega)) ?_ | refine WL.y rfl (Yld.rem rfl rfl (by omega) (by omega)) ?_ | refine WL.y rfl (Yld.shl rfl rfl (by omega)) ?_ | refine WL.y rfl (Yld.shr rfl rfl (by omega)) ?_ | refine WL.y rfl (Yld.pure tab_ok rfl) ?_ | refine WL.y rfl (Yld.fld flds_ok rfl rfl rfl) ?_ | refine WL.y rfl (Yld.max2 rfl rfl) ?_ | refine WL.y rfl (Yld.min2 rfl rfl) ?_ | refine WL.y rfl (Yld.pickV rfl rfl rfl) ?_ | refine WL.gno rfl rfl rfl rfl ?_ | refine WL.gyes rfl rfl rfl rfl (Yld.add rfl rfl (by simp only [In]; omega)) ?_ | refine WL.gyes rfl rfl rfl rfl (Yld.sub rfl rfl (by simp only [In]; omega)) ?_ | refine WL.gyes rfl rfl rfl rfl (Yld.mul rfl rfl (by simp only [In]; omega)) ?_ | refine WL.gyes rfl rfl rfl rfl (Yld.convB tab_ok rfl rfl rfl rfl) ?_ | refine WL.gyes rfl rfl rfl rfl (Yld.conv tab_ok rfl rfl rfl (by simp only [In]; omega)) ?_ | refine WL.gyes rfl rfl rfl rfl (Yld.quo rfl rfl (by omega) (by omega) (by simp only [In]; omega)) ?_ | refine WL.gyes rfl rfl rfl rfl (Yld.rem rfl rfl (by omega) (by omega)) ?_ | refine WL.gyes rfl rfl rfl rfl (Yld.shl rfl rfl (by omega)) ?_ | refine WL.gyes rfl rfl rfl rfl (Yld.shr rfl rfl (by omega)) ?_ | refine WL.gyes rfl rfl rfl rfl (Yld.pure tab_ok rfl) ?_ | refine WL.gyes rfl rfl rfl rfl (Yld.fld flds_ok rfl rfl rfl) ?_ | refine WL.gyes rfl rfl rfl rfl (Yld.max2 rfl rfl) ?_ | refine WL.gyes rfl rfl rfl rfl (Yld.min2 rfl rfl) ?_ | refine WL.gyes rfl rfl rfl rfl (Yld.pickV rfl rfl rfl) ?_)
    exact WX.weaken (by repeat (first | exact Sub.nil | refine Sub.cons rfl ?_)) hQ
  repeat (first | refine WC.seq ?_ | refine WC.block ?_ | refine WC.region ?_ | refine WL.nil ?_ | refine WX.then_normal ?_ | refine WC.skip ?_ | refine WC.exit ?_ | refine WC.ret ?_ | refine WX.then_exit ?_ | refine WX.then_ret ?_ | refine WX.block_normal ?_ | refine WX.block_ret ?_ | refine WX.block_same ?_ | refine WX.block_other rfl ?_ | refine WC.label ?_ | refine WC.scope ?_ | refine WX.scope_normal ?_ | refine WX.scope_ret ?_ | refine WX.scope_exit ?_ | refine WL.y rfl (Yld.add rfl rfl (by simp only [In]; omega)) ?_ | refine WL.y rfl (Yld.sub rfl rfl (by simp only [In]; omega)) ?_ | refine WL.y rfl (Yld.mul rfl rfl (by simp only [In]; omega)) ?_ | refine WL.y rfl (Yld.convB tab_ok rfl rfl rfl rfl) ?_ | refine WL.y rfl (Yld.conv tab_ok rfl rfl rfl (by simp only [In]; omega)) ?_ | refine WL.y rfl (Yld.quo rfl rfl (by omega) (by omega) (by simp only [In]; omega)) ?_ | refine WL.y rfl (Yld.rem rfl rfl (by omega) (by omega)) ?_ | refine WL.y rfl (Yld.shl rfl rfl (by omega)) ?_ | refine WL.y rfl (Yld.shr rfl rfl (by omega)) ?_ | refine WL.y rfl (Yld.pure tab_ok rfl) ?_ | refine WL.y rfl (Yld.fld flds_ok rfl rfl rfl) ?_ | refine WL.y rfl (Yld.max2 rfl rfl) ?_ | refine WL.y rfl (Yld.min2 rfl rfl) ?_ | refine WL.y rfl (Yld.pickV rfl rfl rfl) ?_ | refine WL.gno rfl rfl rfl rfl ?_ | refine WL.gyes rfl rfl rfl rfl (Yld.add rfl rfl (by simp only [In]; omega)) ?_ | refine WL.gyes rfl rfl rfl rfl (Yld.sub rfl rfl (by simp only [In]; omega)) ?_ | refine WL.gyes rfl rfl rfl rfl (Yld.mul rfl rfl (by simp only [In]; omega)) ?_ | refine WL.gyes rfl rfl rfl rfl (Yld.convB tab_ok rfl rfl rfl rfl) ?_ | refine WL.gyes rfl rfl rfl rfl (Yld.conv tab_ok rfl rfl rfl (by simp only [In]; omega)) ?_ | refine WL.gyes rfl rfl rfl rfl (Yld.quo rfl rfl (by omega) (by omega) (by simp only [In]; omega)) ?_ | refine WL.gyes rfl rfl rfl rfl (Yld.rem rfl rfl (by omega) (by omega)) ?_ | refine WL.gyes rfl rfl rfl rfl (Yld.shl rfl rfl (by omega)) ?_ | refine WL.gyes rfl rfl rfl rfl (Yld.shr rfl rfl (by omega)) ?_ | refine WL.gyes rfl rfl rfl rfl (Yld.pure tab_ok rfl) ?_ | refine WL.gyes rfl rfl rfl rfl (Yld.fld flds_ok rfl rfl rfl) ?_ | refine WL.gyes rfl rfl rfl rfl (Yld.max2 rfl rfl) ?_ | refine WL.gyes rfl rfl rfl rfl (Yld.min2 rfl rfl) ?_ | refine WL.gyes rfl rfl rfl rfl (Yld.pickV rfl rfl rfl) ?_)
  generalize hU : n.natAbs = U
  have hU1 : U ≤ 9223372036854775808 := by omega
  refine WC.loop4 (S1 := Nat) (S2 := List Nat) (S3 := Option Addr) (S4 := Nat) (fun u _ _ _ => u)
    (fun u l A c => [(3, .int .u64 (u : Int)), (4, .slice A l.length c), (0, .int .i64 n), (2, .pointer (some ⟨g, 0, none⟩))])
    (fun u l A c w2 => u ≤ 9223372036854775808 ∧ Dg l ∧ l.length ≤ 3 ∧ u < 1000000000 ^ (3 - l.length) ∧ val l + 1000000000 ^ l.length * u = U ∧ Own vd w2 w1.heap.size 98 A c l ∧ w1.grownBy w2 none) U [] none 0
    ⟨hU1, Dg.nil, by simp, by simp only [List.length_nil]; omega, by simp [val], Own.nil _ _ _ _, gr_refl _ _⟩ (by repeat (first | exact Sub.nil | refine Sub.cons rfl ?_)) (fun u l A c w2 ⟨hu, hD, hl, hp, hv, hO, hg2⟩ => ?_)
  repeat (first | refine WC.seq ?_ | refine WC.block ?_ | refine WC.region ?_ | refine WL.nil ?_ | refine WX.then_normal ?_ | refine WC.skip ?_ | refine WC.exit ?_ | refine WC.ret ?_ | refine WX.then_exit ?_ | refine WX.then_ret ?_ | refine WX.block_normal ?_ | refine WX.block_ret ?_ | refine WX.block_same ?_ | refine WX.block_other rfl ?_ | refine WC.label ?_ | refine WC.scope ?_ | refine WX.scope_normal ?_ | refine WX.scope_ret ?_ | refine WX.scope_exit ?_ | refine WL.y rfl (Yld.add rfl rfl (by simp only [In]; omega)) ?_ | refine WL.y rfl (Yld.sub rfl rfl (by simp only [In]; omega)) ?_ | refine WL.y rfl (Yld.mul rfl rfl (by simp only [In]; omega)) ?_ | refine WL.y rfl (Yld.convB tab_ok rfl rfl rfl rfl) ?_ | refine WL.y rfl (Yld.conv tab_ok rfl rfl rfl (by simp only [In]; omega)) ?_ | refine WL.y rfl (Yld.quo rfl rfl (by omega) (by omega) (by simp only [In]; omega)) ?_ | refine WL.y rfl (Yld.rem rfl rfl (by omega) (by omega)) ?_ | refine WL.y rfl (Yld.shl rfl rfl (by omega)) ?_ | refine WL.y rfl (Yld.shr rfl rfl (by omega)) ?_ | refine WL.y rfl (Yld.pure tab_ok rfl) ?_ | refine WL.y rfl (Yld.fld flds_ok rfl rfl rfl) ?_ | refine WL.y rfl (Yld.max2 rfl rfl) ?_ | refine WL.y rfl (Yld.min2 rfl rfl) ?_ | refine WL.y rfl (Yld.pickV rfl rfl rfl) ?_ | refine WL.gno rfl rfl rfl rfl ?_ | refine WL.gyes rfl rfl rfl rfl (Yld.add rfl rfl (by simp only [In]; omega)) ?_ | refine WL.gyes rfl rfl rfl rfl (Yld.sub rfl rfl (by simp only [In]; omega)) ?_ | refine WL.gyes rfl rfl rfl rfl (Yld.mul rfl rfl (by simp only [In]; omega)) ?_ | refine WL.gyes rfl rfl rfl rfl (Yld.convB tab_ok rfl rfl rfl rfl) ?_ | refine WL.gyes rfl rfl rfl rfl (Yld.conv tab_ok rfl rfl rfl (by simp only [In]; omega)) ?_ | refine WL.gyes rfl rfl rfl rfl (Yld.quo rfl rfl (by omega) (by omega) (by simp only [In]; omega)) ?_ | refine WL.gyes rfl rfl rfl rfl (Yld.rem rfl rfl (by omega) (by omega)) ?_ | refine WL.gyes rfl rfl rfl rfl (Yld.shl rfl rfl (by omega)) ?_ | refine WL.gyes rfl rfl rfl rfl (Yld.shr rfl rfl (by omega)) ?_ | refine WL.gyes rfl rfl rfl rfl (Yld.pure tab_ok rfl) ?_ | refine WL.gyes rfl rfl rfl rfl (Yld.fld flds_ok rfl rfl rfl) ?_ | refine WL.gyes rfl rfl rfl rfl (Yld.max2 rfl rfl) ?_ | refine WL.gyes rfl rfl rfl rfl (Yld.min2 rfl rfl) ?_ | refine WL.gyes rfl rfl rfl rfl (Yld.pickV rfl rfl rfl) ?_)
  refine WC.cond rfl (fun h => ?_) (fun h => ?_)
  · simp only [decide_eq_true_eq] at h
    have hl3 : l.length < 3 := by
      rcases Nat.lt_or_ge l.length 3 with h3 | h3
      · exact h3
      · rw [show 3 - l.length = 0 by omega] at hp; omega
    repeat (first | refine WC.seq ?_ | refine WC.block ?_ | refine WC.region ?_ | refine WL.nil ?_ | refine WX.then_normal ?_ | refine WC.skip ?_ | refine WC.exit ?_ | refine WC.ret ?_ | refine WX.then_exit ?_ | refine WX.then_ret ?_ | refine WX.block_normal ?_ | refine WX.block_ret ?_ | refine WX.block_same ?_ | refine WX.block_other rfl ?_ | refine WC.label ?_ | refine WC.scope ?_ | refine WX.scope_normal ?_ | refine WX.scope_ret ?_ | refine WX.scope_exit ?_ | refine WL.y rfl (Yld.add rfl rfl (by simp only [In]; omega)) ?_ | refine WL.y rfl (Yld.sub rfl rfl (by simp only [In]; omega)) ?_ | refine WL.y rfl (Yld.mul rfl rfl (by simp only [In]; omega)) ?_ | refine WL.y rfl (Yld.convB tab_ok rfl rfl rfl rfl) ?_ | refine WL.y rfl (Yld.conv tab_ok rfl rfl rfl (by simp only [In]; omega)) ?_ | refine WL.y rfl (Yld.quo rfl rfl (by omega) (by omega) (by simp only [In]; omega)) ?_ | refine WL.y rfl (Yld.rem rfl rfl (by omega) (by omega)) ?_ | refine WL.y rfl (Yld.shl rfl rfl (by omega)) ?_ | refine WL.y rfl (Yld.shr rfl rfl (by omega)) ?_ | refine WL.y rfl (Yld.pure tab_ok rfl) ?_ | refine WL.y rfl (Yld.fld flds_ok rfl rfl rfl) ?_ | refine WL.y rfl (Yld.max2 rfl rfl) ?_ | refine WL.y rfl (Yld.min2 rfl rfl) ?_ | refine WL.y rfl (Yld.pickV rfl rfl rfl) ?_ | refine WL.gno rfl rfl rfl rfl ?_ | refine WL.gyes rfl rfl rfl rfl (Yld.add rfl rfl (by simp only [In]; omega)) ?_ | refine WL.gyes rfl rfl rfl rfl (Yld.sub rfl rfl (by simp only [In]; omega)) ?_ | refine WL.gyes rfl rfl rfl rfl (Yld.mul rfl rfl (by simp only [In]; omega)) ?_ | refine WL.gyes rfl rfl rfl rfl (Yld.convB tab_ok rfl rfl rfl rfl) ?_ | refine WL.gyes rfl rfl rfl rfl (Yld.conv tab_ok rfl rfl rfl (by simp only [In]; omega)) ?_ | refine WL.gyes rfl rfl rfl rfl (Yld.quo rfl rfl (by omega) (by omega) (by simp only [In]; omega)) ?_ | refine WL.gyes rfl rfl rfl rfl (Yld.rem rfl rfl (by omega) (by omega)) ?_ | refine WL.gyes rfl rfl rfl rfl (Yld.shl rfl rfl (by omega)) ?_ | refine WL.gyes rfl rfl rfl rfl (Yld.shr rfl rfl (by omega)) ?_ | refine WL.gyes rfl rfl rfl rfl (Yld.pure tab_ok rfl) ?_ | refine WL.gyes rfl rfl rfl rfl (Yld.fld flds_ok rfl rfl rfl) ?_ | refine WL.gyes rfl rfl rfl rfl (Yld.max2 rfl rfl) ?_ | refine WL.gyes rfl rfl rfl rfl (Yld.min2 rfl rfl) ?_ | refine WL.gyes rfl rfl rfl rfl (Yld.pickV rfl rfl rfl) ?_)
    have hd : (u : Int) % 1000000000 = ((u % 1000000000 : Nat) : Int) := by omega
    have hq : (u : Int) / 1000000000 = ((u / 1000000000 : Nat) : Int) := by omega
    rw [hd]
    refine WL.lit (us := [vd (u % 1000000000)]) tab_ok rfl rfl rfl (by intro u hu; rw [List.mem_singleton] at hu; rw [hu]; rfl) rfl (by omega) (fun g3 w3 hL3 hg3 hl3 => ?_)
    have hR3 : Rd vd w3 (some ⟨g3, 0, none⟩) 1 [u % 1000000000] := Rd.ofBl' hL3 (by simp) (by simp [maxLen])
    have hO3 := hO.grown hg3
    have hz2 := hg2.size
    have hz3 := hg3.size
    refine WL.append tab_ok rfl rfl One.d hO3 rfl rfl hR3 rfl rfl (by simp only [List.length_cons, List.length_nil]; omega) (by simp only [maxLen, List.length_cons, List.length_nil]; omega) (by omega) (fun A4 c4 w4 hO4 hg4 hf4 => ?_)
    repeat (first | refine WC.seq ?_ | refine WC.block ?_ | refine WC.region ?_ | refine WL.nil ?_ | refine WX.then_normal ?_ | refine WC.skip ?_ | refine WC.exit ?_ | refine WC.ret ?_ | refine WX.then_exit ?_ | refine WX.then_ret ?_ | refine WX.block_normal ?_ | refine WX.block_ret ?_ | refine WX.block_same ?_ | refine WX.block_other rfl ?_ | refine WC.label ?_ | refine WC.scope ?_ | refine WX.scope_normal ?_ | refine WX.scope_ret ?_ | refine WX.scope_exit ?_ | refine WL.y rfl (Yld.add rfl rfl (by simp only [In]; omega)) ?_ | refine WL.y rfl (Yld.sub rfl rfl (by simp only [In]; omega)) ?_ | refine WL.y rfl (Yld.mul rfl rfl (by simp only [In]; omega)) ?_ | refine WL.y rfl (Yld.convB tab_ok rfl rfl rfl rfl) ?_ | refine WL.y rfl (Yld.conv tab_ok rfl rfl rfl (by simp only [In]; omega)) ?_ | refine WL.y rfl (Yld.quo rfl rfl (by omega) (by omega) (by simp only [In]; omega)) ?_ | refine WL.y rfl (Yld.rem rfl rfl (by omega) (by omega)) ?_ | refine WL.y rfl (Yld.shl rfl rfl (by omega)) ?_ | refine WL.y rfl (Yld.shr rfl rfl (by omega)) ?_ | refine WL.y rfl (Yld.pure tab_ok rfl) ?_ | refine WL.y rfl (Yld.fld flds_ok rfl rfl rfl) ?_ | refine WL.y rfl (Yld.max2 rfl rfl) ?_ | refine WL.y rfl (Yld.min2 rfl rfl) ?_ | refine WL.y rfl (Yld.pickV rfl rfl rfl) ?_ | refine WL.gno rfl rfl rfl rfl ?_ | refine WL.gyes rfl rfl rfl rfl (Yld.add rfl rfl (by simp only [In]; omega)) ?_ | refine WL.gyes rfl rfl rfl rfl (Yld.sub rfl rfl (by simp only [In]; omega)) ?_ | refine WL.gyes rfl rfl rfl rfl (Yld.mul rfl rfl (by simp only [In]; omega)) ?_ | refine WL.gyes rfl rfl rfl rfl (Yld.convB tab_ok rfl rfl rfl rfl) ?_ | refine WL.gyes rfl rfl rfl rfl (Yld.conv tab_ok rfl rfl rfl (by simp only [In]; omega)) ?_ | refine WL.gyes rfl rfl rfl rfl (Yld.quo rfl rfl (by omega) (by omega) (by simp only [In]; omega)) ?_ | refine WL.gyes rfl rfl rfl rfl (Yld.rem rfl rfl (by omega) (by omega)) ?_ | refine WL.gyes rfl rfl rfl rfl (Yld.shl rfl rfl (by omega)) ?_ | refine WL.gyes rfl rfl rfl rfl (Yld.shr rfl rfl (by omega)) ?_ | refine WL.gyes rfl rfl rfl rfl (Yld.pure tab_ok rfl) ?_ | refine WL.gyes rfl rfl rfl rfl (Yld.fld flds_ok rfl rfl rfl) ?_ | refine WL.gyes rfl rfl rfl rfl (Yld.max2 rfl rfl) ?_ | refine WL.gyes rfl rfl rfl rfl (Yld.min2 rfl rfl) ?_ | refine WL.gyes rfl rfl rfl rfl (Yld.pickV rfl rfl rfl) ?_)
    rw [hq]
    refine WX.round4 (u / 1000000000) (l ++ [u % 1000000000]) A4 c4 ⟨by omega, hD.push (by omega), by simp; omega, ?_, ?_, hO4, gr_own (gr_trans hg2 hg3) hO3 hg4 (Nat.le_refl _)⟩ (by omega) (by repeat (first | exact Sub.nil | refine Sub.cons rfl ?_))
    · rw [show (l ++ [u % 1000000000]).length = l.length + 1 by simp]
      rw [show 3 - l.length = (3 - (l.length + 1)) + 1 by omega, Nat.pow_succ] at hp
      omega
    · rw [val_push, List.length_append, List.length_singleton, Nat.pow_succ]
      have : u = u % 1000000000 + 1000000000 * (u / 1000000000) := by omega
      generalize u % 1000000000 = a at *
      generalize u / 1000000000 = b at *
      subst this
      grind
  · simp only [decide_eq_false_iff_not] at h
    obtain rfl : u = 0 := by omega
    have hB2 := hB1.keep hg2 (by simp)
    repeat (first | refine WC.seq ?_ | refine WC.block ?_ | refine WC.region ?_ | refine WL.nil ?_ | refine WX.then_normal ?_ | refine WC.skip ?_ | refine WC.exit ?_ | refine WC.ret ?_ | refine WX.then_exit ?_ | refine WX.then_ret ?_ | refine WX.block_normal ?_ | refine WX.block_ret ?_ | refine WX.block_same ?_ | refine WX.block_other rfl ?_ | refine WC.label ?_ | refine WC.scope ?_ | refine WX.scope_normal ?_ | refine WX.scope_ret ?_ | refine WX.scope_exit ?_ | refine WL.y rfl (Yld.add rfl rfl (by simp only [In]; omega)) ?_ | refine WL.y rfl (Yld.sub rfl rfl (by simp only [In]; omega)) ?_ | refine WL.y rfl (Yld.mul rfl rfl (by simp only [In]; omega)) ?_ | refine WL.y rfl (Yld.convB tab_ok rfl rfl rfl rfl) ?_ | refine WL.y rfl (Yld.conv tab_ok rfl rfl rfl (by simp only [In]; omega)) ?_ | refine WL.y rfl (Yld.quo rfl rfl (by omega) (by omega) (by simp only [In]; omega)) ?_ | refine WL.y rfl (Yld.rem rfl rfl (by omega) (by omega)) ?_ | refine WL.y rfl (Yld.shl rfl rfl (by omega)) ?_ | refine WL.y rfl (Yld.shr rfl rfl (by omega)) ?_ | refine WL.y rfl (Yld.pure tab_ok rfl) ?_ | refine WL.y rfl (Yld.fld flds_ok rfl rfl rfl) ?_ | refine WL.y rfl (Yld.max2 rfl rfl) ?_ | refine WL.y rfl (Yld.min2 rfl rfl) ?_ | refine WL.y rfl (Yld.pickV rfl rfl rfl) ?_ | refine WL.gno rfl rfl rfl rfl ?_ | refine WL.gyes rfl rfl rfl rfl (Yld.add rfl rfl (by simp only [In]; omega)) ?_ | refine WL.gyes rfl rfl rfl rfl (Yld.sub rfl rfl (by simp only [In]; omega)) ?_ | refine WL.gyes rfl rfl rfl rfl (Yld.mul rfl rfl (by simp only [In]; omega)) ?_ | refine WL.gyes rfl rfl rfl rfl (Yld.convB tab_ok rfl rfl rfl rfl) ?_ | refine WL.gyes rfl rfl rfl rfl (Yld.conv tab_ok rfl rfl rfl (by simp only [In]; omega)) ?_ | refine WL.gyes rfl rfl rfl rfl (Yld.quo rfl rfl (by omega) (by omega) (by simp only [In]; omega)) ?_ | refine WL.gyes rfl rfl rfl rfl (Yld.rem rfl rfl (by omega) (by omega)) ?_ | refine WL.gyes rfl rfl rfl rfl (Yld.shl rfl rfl (by omega)) ?_ | refine WL.gyes rfl rfl rfl rfl (Yld.shr rfl rfl (by omega)) ?_ | refine WL.gyes rfl rfl rfl rfl (Yld.pure tab_ok rfl) ?_ | refine WL.gyes rfl rfl rfl rfl (Yld.fld flds_ok rfl rfl rfl) ?_ | refine WL.gyes rfl rfl rfl rfl (Yld.max2 rfl rfl) ?_ | refine WL.gyes rfl rfl rfl rfl (Yld.min2 rfl rfl) ?_ | refine WL.gyes rfl rfl rfl rfl (Yld.pickV rfl rfl rfl) ?_)
    refine WL.call rfl rfl (made_fn (decide (n < 0)) A c l w2 hO.rd hD (by omega)) ?_
    rintro r w8 ⟨hN, hg8⟩
    have hB8 := hB2.keep hg8 (by simp)
    obtain ⟨a, b, rfl, ha, hb⟩ := hN.agg
    refine WL.storeW (vs := [a, b]) tab_ok rfl rfl rfl (by intro u hu; simp at hu; rcases hu with rfl | rfl <;> assumption) hB8 rfl rfl (fun w9 hB9 hg9 => ?_)
    repeat (first | refine WC.seq ?_ | refine WC.block ?_ | refine WC.region ?_ | refine WL.nil ?_ | refine WX.then_normal ?_ | refine WC.skip ?_ | refine WC.exit ?_ | refine WC.ret ?_ | refine WX.then_exit ?_ | refine WX.then_ret ?_ | refine WX.block_normal ?_ | refine WX.block_ret ?_ | refine WX.block_same ?_ | refine WX.block_other rfl ?_ | refine WC.label ?_ | refine WC.scope ?_ | refine WX.scope_normal ?_ | refine WX.scope_ret ?_ | refine WX.scope_exit ?_ | refine WL.y rfl (Yld.add rfl rfl (by simp only [In]; omega)) ?_ | refine WL.y rfl (Yld.sub rfl rfl (by simp only [In]; omega)) ?_ | refine WL.y rfl (Yld.mul rfl rfl (by simp only [In]; omega)) ?_ | refine WL.y rfl (Yld.convB tab_ok rfl rfl rfl rfl) ?_ | refine WL.y rfl (Yld.conv tab_ok rfl rfl rfl (by simp only [In]; omega)) ?_ | refine WL.y rfl (Yld.quo rfl rfl (by omega) (by omega) (by simp only [In]; omega)) ?_ | refine WL.y rfl (Yld.rem rfl rfl (by omega) (by omega)) ?_ | refine WL.y rfl (Yld.shl rfl rfl (by omega)) ?_ | refine WL.y rfl (Yld.shr rfl rfl (by omega)) ?_ | refine WL.y rfl (Yld.pure tab_ok rfl) ?_ | refine WL.y rfl (Yld.fld flds_ok rfl rfl rfl) ?_ | refine WL.y rfl (Yld.max2 rfl rfl) ?_ | refine WL.y rfl (Yld.min2 rfl rfl) ?_ | refine WL.y rfl (Yld.pickV rfl rfl rfl) ?_ | refine WL.gno rfl rfl rfl rfl ?_ | refine WL.gyes rfl rfl rfl rfl (Yld.add rfl rfl (by simp only [In]; omega)) ?_ | refine WL.gyes rfl rfl rfl rfl (Yld.sub rfl rfl (by simp only [In]; omega)) ?_ | refine WL.gyes rfl rfl rfl rfl (Yld.mul rfl rfl (by simp only [In]; omega)) ?_ | refine WL.gyes rfl rfl rfl rfl (Yld.convB tab_ok rfl rfl rfl rfl) ?_ | refine WL.gyes rfl rfl rfl rfl (Yld.conv tab_ok rfl rfl rfl (by simp only [In]; omega)) ?_ | refine WL.gyes rfl rfl rfl rfl (Yld.quo rfl rfl (by omega) (by omega) (by simp only [In]; omega)) ?_ | refine WL.gyes rfl rfl rfl rfl (Yld.rem rfl rfl (by omega) (by omega)) ?_ | refine WL.gyes rfl rfl rfl rfl (Yld.shl rfl rfl (by omega)) ?_ | refine WL.gyes rfl rfl rfl rfl (Yld.shr rfl rfl (by omega)) ?_ | refine WL.gyes rfl rfl rfl rfl (Yld.pure tab_ok rfl) ?_ | refine WL.gyes rfl rfl rfl rfl (Yld.fld flds_ok rfl rfl rfl) ?_ | refine WL.gyes rfl rfl rfl rfl (Yld.max2 rfl rfl) ?_ | refine WL.gyes rfl rfl rfl rfl (Yld.min2 rfl rfl) ?_ | refine WL.gyes rfl rfl rfl rfl (Yld.pickV rfl rfl rfl) ?_)
    have hz : (bif decide (n < 0) then -(val l : Int) else (val l : Int)) = n := by
      rcases Int.lt_or_le n 0 with h | h
      · simp [h]; omega
      · simp [Int.not_lt.mpr h]; omega
    rw [hz] at hN
    exact WX.retc tab_ok rfl rfl rfl hB9 rfl ⟨(hN.stored hB8 zero_no hg9).mono hl, gr_new (gr_trans (gr_trans hg1 hg2) hg8) hg9 hl1⟩
end Go.Proofs.YtilphcippnfklaaDoor
 /- Regions some of whose operations may come in several orders: the floats once, the others order by order, what stands behind once. -/
namespace Go.Proofs.YtilphcippnfklaaDoor
open Go Go.RowKit
section
variable {P : Program} {N : Nat} {ops : Array Oper} {fl : Nat → Bool} {D : World → Prop} {n g : Nat} {K : Act → World → Prop} {Q : Post} {L : Slots} {w : World} {f : Nat} {listed : Array Bool} {d : Nat} {op : Op} {ty : TypeId} {pos : String} {af : Array Edge} {gd : Option (Nat × Bool)}
structure HeadOk (ops : Array Oper) (n : Nat) : Prop where
  sel : Region.noSelect ops = true
  sink : Region.sinkB .any ops n = true
  chain : Region.chainB .any ops n = true
  lt : n < ops.size
def WA (P : Program) (N : Nat) (ops : Array Oper) (fl : Nat → Bool) (D : World → Prop) (n g : Nat) (K : Act → World → Prop) (f : Nat) (listed : Array Bool) (L : Slots) (w : World) : Prop :=
  HeadOk ops n → HeadInv .any ops n listed → ∀ a w1, Eqv w w1 → D w1 → Has N L a → anyT P .any ops fl D n (fun l' a' w' => Region.seqB .any ops g n l' = true ∧ K a' w') f listed a w1
def WI (P : Program) (N : Nat) (ops : Array Oper) (fl : Nat → Bool) (D : World → Prop) (n g : Nat) (K : Act → World → Prop) (f : Nat) (listed : Array Bool) (L : Slots) (w : World) (i : Nat) : Prop :=
  HeadOk ops n → HeadInv .any ops n (listed.setIfInBounds i true) → ∀ a w1, Eqv w w1 → D w1 → Has N L a → ∃ o, ops[i]? = some o ∧ fl i = false ∧ sRun P ops D o a w1 fun a' w' => anyT P .any ops fl D n (fun l' a' w' => Region.seqB .any ops g n l' = true ∧ K a' w') f (listed.setIfInBounds i true) a' w'
theorem WC.ordersK {i : Nat} {l : List Oper} (n : Nat) (fl : Nat → Bool) (D : World → Prop) (K : Act → World → Prop) (hm : P.follows .mixedOrders = true) (hB : (Region.noSelect l.toArray && (Region.sinkB .any l.toArray n && (Region.chainB .any l.toArray n && Nat.blt n l.length))) = true) (hE : ∀ w', Eqv w w' → D w')
    (h : WA P N l.toArray fl D n (l.length - n) K n (Array.replicate l.length false) L w)
    (ht : ∀ a w', K a w' → wpList P l.toArray Q (l.drop n) a w') : WC P N Q (.region i l.toArray true) L w := fun a wx e ha => by
  simp only [Bool.and_eq_true] at hB
  obtain ⟨hsel, hs, hc, hlt⟩ := hB
  have hn' : n < l.length := by simpa [Nat.blt_eq] using hlt
  refine wp_region_any hm ?_
  have inv0 : HeadInv .any l.toArray n (Array.replicate l.length false) :=
    ⟨by simp, fun j oj _ hl => (by rw [getD_replicate_false] at hl; cases hl), fun t _ ht => getD_in (by simpa using ht) (getD_replicate_false _ _)⟩
  have H := h ⟨hsel, hs, hc, by simpa using hn'⟩ inv0 a { wx with drawn := wx.drawn + 1 } (e.drawn _) (hE _ (e.drawn _)) ha
  have h2 := any_of_anyT (Q' := Q) (g := l.length - n) (fun listed a' w' _ hL => by
    obtain ⟨hq, hK⟩ := hL
    have := wpAny_of_seq (md := .any) (Q' := Q) (l.drop n) n listed a' w' (fun j => by simp [List.getElem?_drop]) (by rw [List.length_drop]; exact hq) (ht a' w' hK)
    rwa [List.length_drop] at this) _ _ _ _ (hE { wx with drawn := wx.drawn + 1 } (e.drawn _)) H
  rw [show n + (l.length - n) = l.length by omega] at h2
  simpa using h2
def Ends4 {S1 S2 S3 S4 : Type} (N : Nat) (Ls : S1 → S2 → S3 → S4 → Slots) (I : S1 → S2 → S3 → S4 → World → Prop) (a : Act) (w : World) : Prop := ∃ p q r s w0, I p q r s w0 ∧ Eqv w0 w ∧ Has N (Ls p q r s) a
theorem WC.orders4 {S1 S2 S3 S4 : Type} {i : Nat} {l : List Oper} (n : Nat) (fl : Nat → Bool) (D : World → Prop) (Ls : S1 → S2 → S3 → S4 → Slots) (I : S1 → S2 → S3 → S4 → World → Prop) (hm : P.follows .mixedOrders = true) (hB : (Region.noSelect l.toArray && (Region.sinkB .any l.toArray n && (Region.chainB .any l.toArray n && Nat.blt n l.length))) = true) (hE : ∀ w', Eqv w w' → D w')
    (h : WA P N l.toArray fl D n (l.length - n) (Ends4 N Ls I) n (Array.replicate l.length false) L w)
    (ht : ∀ p q r s w0, I p q r s w0 → WL P N l.toArray Q (l.drop n) (Ls p q r s) w0) : WC P N Q (.region i l.toArray true) L w :=
  WC.ordersK n fl D _ hm hB hE h fun a w' ⟨p, q, r, s, w0, hI, he, hh⟩ => ht p q r s w0 hI a w' he hh
theorem WA.done4 {S1 S2 S3 S4 : Type} {Ls : S1 → S2 → S3 → S4 → Slots} {I : S1 → S2 → S3 → S4 → World → Prop} (p : S1) (q : S2) (r : S3) (s : S4) (hq : Region.seqB .any ops g n listed = true) (hI : I p q r s w) (hs : Sub L (Ls p q r s)) : WA P N ops fl D n g (Ends4 N Ls I) 0 listed L w := fun _ _ _ _ e _ ha => ⟨hq, p, q, r, s, w, hI, e, ha.sub hs⟩
def EndsF (N : Nat) (F : Slots → World → Prop) (a : Act) (w : World) : Prop := ∃ L w0, F L w0 ∧ Eqv w0 w ∧ Has N L a
theorem WC.ordersF {i : Nat} {l : List Oper} (n : Nat) (fl : Nat → Bool) (D : World → Prop) (F : Slots → World → Prop) (hm : P.follows .mixedOrders = true) (hB : (Region.noSelect l.toArray && (Region.sinkB .any l.toArray n && (Region.chainB .any l.toArray n && Nat.blt n l.length))) = true) (hE : ∀ w', Eqv w w' → D w')
    (ht : ∀ L' w', F L' w' → WL P N l.toArray Q (l.drop n) L' w')
    (h : WA P N l.toArray fl D n (l.length - n) (EndsF N F) n (Array.replicate l.length false) L w) : WC P N Q (.region i l.toArray true) L w :=
  WC.ordersK n fl D _ hm hB hE h fun a w' ⟨L', w0, hI, he, hh⟩ => ht L' w0 hI a w' he hh
theorem WA.doneF {F : Slots → World → Prop} (L' : Slots) (hq : Region.seqB .any ops g n listed = true) (hI : F L' w) (hs : Sub L L') : WA P N ops fl D n g (EndsF N F) 0 listed L w := fun _ _ _ _ e _ ha => ⟨hq, L', w, hI, e, ha.sub hs⟩
theorem WA.y {v : Value} (k : Nat) (ho : ops[k]? = some ⟨some d, op, ty, pos, af, none⟩) (hf : (fl k && ((Region.ready .any ops listed).contains k && (Region.free .any ops listed k && Nat.blt k n))) = true) (hd : Nat.blt d N = true) (hy : ∀ w', D w' → Yld P N w' ⟨some d, op, ty, pos, af, none⟩ L v)
    (h : WA P N ops fl D n g K f (listed.setIfInBounds k true) ((d, v) :: L) w) : WA P N ops fl D n g K (f + 1) listed L w := fun ok inv a w1 e hw ha => by
  simp only [Bool.and_eq_true] at hf
  obtain ⟨hfl, hr, hfr, hkn⟩ := hf
  have hr' : k ∈ Region.ready .any ops listed := by simpa using hr
  have hkn' : k < n := by simpa [Nat.blt_eq] using hkn
  exact float_firstT ho hfl (Region.noSelect_spec ok.sel) ok.sink ok.chain ok.lt hkn' (fun _ _ _ hL => seqB_ready hL.1) f listed a w1 hw inv (Region.free_spec ho hfr) hr'
    (.inl ⟨by simp [Region.wanted], fun w' hw' => hy w' hw' a w' (Eqv.refl _) ha⟩) (h ok (inv.set hr' hkn') _ _ e hw (ha.put hd v))
def AllL {α : Type} (p : α → Prop) : List α → Prop
  | [] => True
  | [x] => p x
  | x :: y :: l => p x ∧ AllL p (y :: l)
theorem AllL.mem {α : Type} {p : α → Prop} : ∀ {l : List α}, AllL p l → ∀ x ∈ l, p x
  | [], _, x, h => by simp at h
  | [y], h, x, hx => by simp at hx; subst hx; exact h
  | y :: z :: l, h, x, hx => by
    rcases List.mem_cons.1 hx with rfl | hx
    · exact h.1
    · exact AllL.mem h.2 x hx
theorem WA.split (is : List Nat) (hr : Region.ready .any ops listed = is) (hc : (!is.isEmpty && is.all fun i => Nat.blt i n) = true) (h : AllL (WI P N ops fl D n g K f listed L w) is) : WA P N ops fl D n g K (f + 1) listed L w := fun ok inv a w1 e hw ha => by
  simp only [Bool.and_eq_true] at hc
  refine ⟨fun h0 => ?_, fun i hi => ?_⟩
  · rw [hr] at h0; subst h0; simp at hc
  · have hi' := hi
    rw [hr] at hi'
    have hin : i < n := by have := List.all_eq_true.1 hc.2 i hi'; simpa [Nat.blt_eq] using this
    obtain ⟨o, ho, hfl, hs⟩ := h.mem i hi' ok (inv.set hi hin) a w1 e hw ha
    exact ⟨hin, o, ho, .inr ⟨hfl, hs⟩⟩
theorem WI.put {i : Nat} {R : Value → World → Prop} (ho : ops[i]? = some ⟨some d, op, ty, pos, af, none⟩) (hf : fl i = false) (hd : Nat.blt d N = true) (hr : Eff P N w ⟨some d, op, ty, pos, af, none⟩ L R) (hD : ∀ v w', R v w' → D w')
    (hk : ∀ v w', R v w' → WA P N ops fl D n g K f (listed.setIfInBounds i true) ((d, v) :: L) w') : WI P N ops fl D n g K f listed L w i := fun ok inv a w1 e hw ha => by
  refine ⟨_, ho, hf, ?_⟩
  unfold sRun
  rw [if_pos (by simp [Region.wanted])]
  obtain ⟨v, w', h, hR⟩ := hr a w1 e ha
  rw [h]
  exact ⟨hD v w' hR, hk v w' hR ok inv _ w' (Eqv.refl _) (hD v w' hR) (ha.put hd v)⟩
theorem WI.eff {i : Nat} {R : World → Prop} (ho : ops[i]? = some ⟨none, op, ty, pos, af, none⟩) (hf : fl i = false) (hr : Ef0 P N w ⟨none, op, ty, pos, af, none⟩ L R) (hD : ∀ w', R w' → D w')
    (hk : ∀ w', R w' → WA P N ops fl D n g K f (listed.setIfInBounds i true) L w') : WI P N ops fl D n g K f listed L w i := fun ok inv a w1 e hw ha => by
  refine ⟨_, ho, hf, ?_⟩
  unfold sRun
  rw [if_pos (by simp [Region.wanted])]
  obtain ⟨w', h, hR⟩ := hr a w1 e ha
  rw [h]
  exact ⟨hD w' hR, hk w' hR ok inv _ w' (Eqv.refl _) (hD w' hR) ha⟩
theorem WI.call {i : Nat} {R : Value → World → Prop} {fn : FuncId} {as_ : List Operand} {ts : Array TypeId} {vs : List Value} (ho : ops[i]? = some ⟨some d, .call ⟨.value (.func fn), ⟨as_⟩, ts⟩, ty, pos, af, gd⟩) (hf : fl i = false) (hg : Wants N ops L gd) (hd : Nat.blt d N = true) (hv : opvs L as_ = some vs) (hc : Fn P fn ⟨vs⟩ w R) (hD : ∀ v w', R v w' → ∀ w2, Eqv w' w2 → D w2)
    (hk : ∀ v w', R v w' → WA P N ops fl D n g K f (listed.setIfInBounds i true) ((d, v) :: L) w') : WI P N ops fl D n g K f listed L w i := fun ok inv a w1 e hw ha => by
  refine ⟨_, ho, hf, ?_⟩
  unfold sRun
  rw [if_pos (Wants.wanted (o := ⟨some d, .call ⟨.value (.func fn), ⟨as_⟩, ts⟩, ty, pos, af, gd⟩) hg ha), run_enter ha hv hc.1]
  refine (hc.2 w1 e).mono ?_
  rintro en w' ⟨v, w0, rfl, h0, hR⟩
  exact ⟨v, rfl, hD v w0 hR w' h0, hk v w0 hR ok inv _ w' h0 (hD v w0 hR w' h0) (ha.put hd v)⟩
end
end Go.Proofs.YtilphcippnfklaaDoor
 namespace Go.Proofs.YtilphcippnfklaaDoor
open Go Go.RowKit
attribute [local irreducible] WL WC WX WQ WK Yld Eff Ef0 Fn
theorem Nm.no {w : World} {a b : Value} {z : Int} {m : Nat} (h : Nm w (.agg ⟨[a, b]⟩) z m) : ∀ u ∈ [a, b], ∀ x, u ≠ vd x := by
  obtain ⟨neg, A, c, l, h1, _⟩ := h
  simp only [Value.agg.injEq, Array.mk.injEq, List.cons.injEq, and_true] at h1
  obtain ⟨rfl, rfl⟩ := h1
  intro u hu x
  simp only [List.mem_cons, List.not_mem_nil, or_false] at hu
  rcases hu with rfl | rfl <;> intro e <;> cases e
/-- q is the greatest whole number that is not above x by y, r what is left -/
def Floor (x y q r : Int) : Prop := x = q * y + r ∧ ((0 ≤ r ∧ r < y) ∨ (y < r ∧ r ≤ 0))
theorem Floor.ne {x y q r : Int} (h : Floor x y q r) : y ≠ 0 := by
  rcases h.2 with h | h <;> omega
theorem Floor.unique {x y q r q' r' : Int} (h : Floor x y q r) (h' : Floor x y q' r') : q = q' ∧ r = r' := by
  obtain ⟨h1, h2⟩ := h
  obtain ⟨h3, h4⟩ := h'
  have key : ∀ a b s t : Int, a * y + s = b * y + t → ((0 ≤ s ∧ s < y) ∨ (y < s ∧ s ≤ 0)) → ((0 ≤ t ∧ t < y) ∨ (y < t ∧ t ≤ 0)) → ¬ a < b := by
    intro a b s t e hs ht hab
    obtain ⟨d, hd⟩ := Int.le.dest (show a + 1 ≤ b by omega)
    have hb : b = a + 1 + (d : Int) := by omega
    subst hb
    have e2 : (a + 1 + (d : Int)) * y = a * y + y + (d : Int) * y := by grind
    rw [e2] at e
    rcases hs with hs | hs <;> rcases ht with ht | ht <;> try omega
    · have : 0 ≤ (d : Int) * y := Int.mul_nonneg (by omega) (by omega)
      omega
    · have : 0 ≤ (d : Int) * (-y) := Int.mul_nonneg (by omega) (by omega)
      rw [Int.mul_neg] at this
      omega
  have hq : q = q' := by
    have a1 := key q q' r r' (by omega) h2 h4
    have a2 := key q' q r' r (by omega) h4 h2
    omega
  subst hq
  exact ⟨rfl, by omega⟩
theorem floor_of (na nb : Bool) (va vb q r : Nat) (h : va = q * vb + r) (hr : r < vb) (hs : na = nb ∨ r = 0) : Floor (bif na then -(va : Int) else va) (bif nb then -(vb : Int) else vb) (bif na != nb then -(q : Int) else q) (bif na then -(r : Int) else r) := by
  have e : ((va : Nat) : Int) = (q : Int) * (vb : Int) + (r : Int) := by rw [h]; simp
  unfold Floor
  cases na <;> cases nb <;> simp at hs ⊢
  · exact ⟨by omega, by omega⟩
  · subst hs; exact ⟨by rw [Int.neg_mul_neg]; simpa using e, by omega⟩
  · subst hs; refine ⟨by rw [e]; simp [Int.neg_mul], by omega⟩
  · exact ⟨by rw [Int.mul_neg]; omega, by omega⟩
theorem floor_off (na nb : Bool) (va vb q r : Nat) (h : va = q * vb + r) (hr : r < vb) (hs : na ≠ nb) (h0 : 0 < r) : Floor (bif na then -(va : Int) else va) (bif nb then -(vb : Int) else vb) ((bif na != nb then -(q : Int) else q) - 1) ((bif na then -(r : Int) else r) + (bif nb then -(vb : Int) else vb)) := by
  have e : ((va : Nat) : Int) = (q : Int) * (vb : Int) + (r : Int) := by rw [h]; simp
  unfold Floor
  cases na <;> cases nb <;> simp at hs ⊢
  · exact ⟨by rw [Int.sub_mul, Int.neg_mul, Int.mul_neg]; omega, by omega⟩
  · exact ⟨by rw [Int.sub_mul, Int.neg_mul]; omega, by omega⟩
set_option maxHeartbeats 4000000 in
theorem floor_fn (va vb_ : Value) (x y : Int) (m : Nat) (w : World) (ha : Nm w va x m) (hb : Nm w vb_ y m) (hm : m ≤ 90000) : Fn Tryd.prog 75 ⟨[va, vb_]⟩ w fun v w' => (∃ q r qz rz, v = .tuple #[q, r, .bool (!decide (y = 0))] ∧ Nm w' q qz (m + 4) ∧ Nm w' r rz (m + 4) ∧ (y ≠ 0 → Floor x y qz rz) ∧ (y = 0 → qz = 0 ∧ rz = 0)) ∧ w.grownBy w' none := by
  obtain ⟨na, A, c, la, rfl, hA, hDa, hCa, hla, hna, rfl⟩ := ha
  have hb' := hb
  obtain ⟨nb, B, cb, lb, rfl, hB, hDb, hCb, hlb, hnb, hy⟩ := hb
  refine Fn.enter (by kernel_rfl) Tryd.func75 rfl Tryd.ntmps75 rfl ?_
  repeat (first | refine WC.seq ?_ | refine WC.block ?_ | refine WC.region ?_ | refine WL.nil ?_ | refine WX.then_normal ?_ | refine WC.skip ?_ | refine WC.exit ?_ | refine WC.ret ?_ | refine WX.then_ret ?_ | refine WC.label ?_ | refine WC.scope ?_ | refine WL.y rfl (Yld.pure tab_ok rfl) ?_ | refine WL.y rfl (Yld.pickV rfl rfl rfl) ?_ | refine WL.gno rfl rfl rfl rfl ?_ | refine WL.gyes rfl rfl rfl rfl (Yld.pure tab_ok rfl) ?_)
  refine WL.box (us := [.bool na, .slice A la.length c]) rfl rfl rfl (fun g1 w1 hB1 hg1 hl1 => ?_)
  repeat (first | refine WC.seq ?_ | refine WC.block ?_ | refine WC.region ?_ | refine WL.nil ?_ | refine WX.then_normal ?_ | refine WC.skip ?_ | refine WC.exit ?_ | refine WC.ret ?_ | refine WX.then_ret ?_ | refine WC.label ?_ | refine WC.scope ?_ | refine WL.y rfl (Yld.pure tab_ok rfl) ?_ | refine WL.y rfl (Yld.pickV rfl rfl rfl) ?_ | refine WL.gno rfl rfl rfl rfl ?_ | refine WL.gyes rfl rfl rfl rfl (Yld.pure tab_ok rfl) ?_)
  refine WL.box (us := [.bool nb, .slice B lb.length cb]) rfl rfl rfl (fun g2 w2 hB2 hg2 hl2 => ?_)
  repeat (first | refine WC.seq ?_ | refine WC.block ?_ | refine WC.region ?_ | refine WL.nil ?_ | refine WX.then_normal ?_ | refine WC.skip ?_ | refine WC.exit ?_ | refine WC.ret ?_ | refine WX.then_ret ?_ | refine WC.label ?_ | refine WC.scope ?_ | refine WL.y rfl (Yld.pure tab_ok rfl) ?_ | refine WL.y rfl (Yld.pickV rfl rfl rfl) ?_ | refine WL.gno rfl rfl rfl rfl ?_ | refine WL.gyes rfl rfl rfl rfl (Yld.pure tab_ok rfl) ?_)
  refine WL.alloc rfl zero44 (fun g3 w3 hB3 hg3 hl3 => ?_)
  repeat (first | refine WC.seq ?_ | refine WC.block ?_ | refine WC.region ?_ | refine WL.nil ?_ | refine WX.then_normal ?_ | refine WC.skip ?_ | refine WC.exit ?_ | refine WC.ret ?_ | refine WX.then_ret ?_ | refine WC.label ?_ | refine WC.scope ?_ | refine WL.y rfl (Yld.pure tab_ok rfl) ?_ | refine WL.y rfl (Yld.pickV rfl rfl rfl) ?_ | refine WL.gno rfl rfl rfl rfl ?_ | refine WL.gyes rfl rfl rfl rfl (Yld.pure tab_ok rfl) ?_)
  refine WL.alloc rfl zero44 (fun g4 w4 hB4 hg4 hl4 => ?_)
  have hlt1 := hB1.lt
  have hlt2 := hB2.lt
  have hlt3 := hB3.lt
  have hlt4 := hB4.lt
  have hz1 := hg1.size
  have hz2 := hg2.size
  have hz3 := hg3.size
  have hz4 := hg4.size
  have hB14 := ((hB1.keep hg2 (by simp)).keep hg3 (by simp)).keep hg4 (by simp)
  have hB24 := (hB2.keep hg3 (by simp)).keep hg4 (by simp)
  have hB34 := hB3.keep hg4 (by simp)
  have hg14 := gr_trans (gr_trans (gr_trans hg1 hg2) hg3) hg4
  have hA4 := hA.grown hg14
  have hB4' := hB.grown hg14
  repeat (first | refine WL.y rfl (Yld.bload tab_ok hB14 rfl rfl rfl) ?_ | refine WL.y rfl (Yld.bload tab_ok hB24 rfl rfl rfl) ?_ | refine WC.seq ?_ | refine WC.block ?_ | refine WC.region ?_ | refine WL.nil ?_ | refine WX.then_normal ?_ | refine WC.skip ?_ | refine WC.exit ?_ | refine WC.ret ?_ | refine WX.then_ret ?_ | refine WC.label ?_ | refine WC.scope ?_ | refine WL.y rfl (Yld.pure tab_ok rfl) ?_ | refine WL.y rfl (Yld.pickV rfl rfl rfl) ?_ | refine WL.gno rfl rfl rfl rfl ?_ | refine WL.gyes rfl rfl rfl rfl (Yld.pure tab_ok rfl) ?_)
  refine WC.cond rfl (fun h => ?_) (fun h => ?_)
  · simp only [decide_eq_true_eq] at h
    have hlb0 : lb = [] := List.length_eq_zero_iff.mp (by omega)
    have hy0 : y = 0 := by rw [hy, hlb0]; cases nb <;> rfl
    repeat (first | refine WC.seq ?_ | refine WC.block ?_ | refine WC.region ?_ | refine WL.nil ?_ | refine WX.then_normal ?_ | refine WC.skip ?_ | refine WC.exit ?_ | refine WC.ret ?_ | refine WX.then_ret ?_ | refine WC.label ?_ | refine WC.scope ?_ | refine WL.y rfl (Yld.pure tab_ok rfl) ?_ | refine WL.y rfl (Yld.pickV rfl rfl rfl) ?_ | refine WL.gno rfl rfl rfl rfl ?_ | refine WL.gyes rfl rfl rfl rfl (Yld.pure tab_ok rfl) ?_)
    refine WL.y rfl (Yld.struct (us := [.bool false, .slice none 0 0]) zero44 places44 rfl rfl) ?_
    refine WL.y rfl (Yld.struct (us := [.bool false, .slice none 0 0]) zero44 places44 rfl rfl) ?_
    refine WL.storeW (vs := [.bool false, .slice none 0 0]) tab_ok rfl rfl rfl (by intro u hu; simp at hu; rcases hu with rfl | rfl <;> rfl) hB34 rfl rfl (fun w5 hB5 hg5 => ?_)
    have hB45 := hB4.keep hg5 (by simp; omega)
    refine WL.storeW (vs := [.bool false, .slice none 0 0]) tab_ok rfl rfl rfl (by intro u hu; simp at hu; rcases hu with rfl | rfl <;> rfl) hB45 rfl rfl (fun w6 hB6 hg6 => ?_)
    have hB56 := hB5.keep hg6 (by simp; omega)
    repeat (first | refine WC.seq ?_ | refine WC.block ?_ | refine WC.region ?_ | refine WL.nil ?_ | refine WX.then_normal ?_ | refine WC.skip ?_ | refine WC.exit ?_ | refine WC.ret ?_ | refine WX.then_ret ?_ | refine WC.label ?_ | refine WC.scope ?_ | refine WL.y rfl (Yld.pure tab_ok rfl) ?_ | refine WL.y rfl (Yld.pickV rfl rfl rfl) ?_ | refine WL.gno rfl rfl rfl rfl ?_ | refine WL.gyes rfl rfl rfl rfl (Yld.pure tab_ok rfl) ?_)
    have hz0 : ∀ w : World, Nm w (.agg ⟨[.bool false, .slice none 0 0]⟩) 0 (m + 4) := fun w => ⟨false, none, 0, [], rfl, Rd.nil _ _ (by simp [maxLen]), Dg.nil, fun h => absurd rfl h, by simp, by simp, rfl⟩
    exact WX.retcct tab_ok rfl rfl rfl hB56 rfl rfl rfl hB6 rfl rfl ⟨⟨_, _, 0, 0, by rw [decide_eq_true hy0]; rfl, hz0 _, hz0 _, ⟨fun e => absurd hy0 e, fun _ => ⟨rfl, rfl⟩⟩⟩, gr_new (gr_new hg14 hg5 (by omega)) hg6 (by omega)⟩
  · simp only [decide_eq_false_iff_not] at h
    have hlb0 : lb ≠ [] := fun e => h (by rw [e]; rfl)
    have hpos := val_pos hCb hlb0
    have hy0 : y ≠ 0 := by rw [hy]; cases nb <;> simp <;> omega
    repeat (first | refine WL.y rfl (Yld.bload tab_ok hB14 rfl rfl rfl) ?_ | refine WL.y rfl (Yld.bload tab_ok hB24 rfl rfl rfl) ?_ | refine WC.seq ?_ | refine WC.block ?_ | refine WC.region ?_ | refine WL.nil ?_ | refine WX.then_normal ?_ | refine WC.skip ?_ | refine WC.exit ?_ | refine WC.ret ?_ | refine WX.then_ret ?_ | refine WC.label ?_ | refine WC.scope ?_ | refine WL.y rfl (Yld.pure tab_ok rfl) ?_ | refine WL.y rfl (Yld.pickV rfl rfl rfl) ?_ | refine WL.gno rfl rfl rfl rfl ?_ | refine WL.gyes rfl rfl rfl rfl (Yld.pure tab_ok rfl) ?_)
    refine WL.call rfl rfl (divide_fn A c la B cb lb w4 hA4 hB4' hDa hDb hCb hlb0 (by omega) (by omega)) ?_
    rintro _ w5 ⟨Q, cq, q, R, cr, r, rfl, hRQ, hRR, hDq, hDr, hCr, hql, hv, hvr, hg5⟩
    have hB15 := hB14.keep hg5 (by simp)
    have hB25 := hB24.keep hg5 (by simp)
    have hrl := val_len_le hDb hCr (by omega : val r ≤ val lb)
    repeat (first | refine WC.seq ?_ | refine WC.block ?_ | refine WC.region ?_ | refine WL.nil ?_ | refine WX.then_normal ?_ | refine WC.skip ?_ | refine WC.exit ?_ | refine WC.ret ?_ | refine WX.then_ret ?_ | refine WC.label ?_ | refine WC.scope ?_ | refine WL.y rfl (Yld.pure tab_ok rfl) ?_ | refine WL.y rfl (Yld.pickV rfl rfl rfl) ?_ | refine WL.gno rfl rfl rfl rfl ?_ | refine WL.gyes rfl rfl rfl rfl (Yld.pure tab_ok rfl) ?_)
    have hbt := Tryd.underlying4
    refine WC.orders4 (S1 := Nat) (S2 := Nat) (S3 := Value) (S4 := Value) 13 (fun k => Nat.blt k 6 || (Nat.blt 6 k && Nat.blt k 10)) (fun w' => w5.grownBy w' none) (fun g9 g10 q1 r1 => [(9, .pointer (some ⟨g9, 0, none⟩)), (10, .pointer (some ⟨g10, 0, none⟩)), (31, q1), (35, r1), (2, .pointer (some ⟨g1, 0, none⟩)), (3, .pointer (some ⟨g2, 0, none⟩)), (4, .pointer (some ⟨g3, 0, none⟩)), (5, .pointer (some ⟨g4, 0, none⟩))]) (fun g9 g10 q1 r1 w' => Bl w' g9 44 [.bool false, .slice none 0 0] ∧ Bl w' g10 44 [.bool false, .slice none 0 0] ∧ Nm w' q1 (bif na != nb then -(val q : Int) else (val q : Int)) q.length ∧ Nm w' r1 (bif na then -(val r : Int) else (val r : Int)) r.length ∧ g9 ≠ g10 ∧ w5.heap.size ≤ g9 ∧ w5.heap.size ≤ g10 ∧ w5.grownBy w' none) mixed (by kernel_rfl) (fun w' e => gr_eqv (gr_refl _ _) e) ?_ ?_
    · have hz5 := hg5.size
      refine WA.y 0 rfl (by kernel_rfl) rfl (fun w' h => Yld.pure tab_ok rfl) ?_
      refine WA.y 1 rfl (by kernel_rfl) rfl (fun w' h => Yld.bload tab_ok (hB15.keep h (by simp)) rfl rfl rfl) ?_
      refine WA.y 2 rfl (by kernel_rfl) rfl (fun w' h => Yld.pure tab_ok rfl) ?_
      refine WA.y 3 rfl (by kernel_rfl) rfl (fun w' h => Yld.bload tab_ok (hB25.keep h (by simp)) rfl rfl rfl) ?_
      refine WA.y 4 rfl (by kernel_rfl) rfl (fun w' h => Yld.bneq hbt rfl rfl) ?_
      refine WA.y 5 rfl (by kernel_rfl) rfl (fun w' h => Yld.pure tab_ok rfl) ?_
      refine WA.y 7 rfl (by kernel_rfl) rfl (fun w' h => Yld.pure tab_ok rfl) ?_
      refine WA.y 8 rfl (by kernel_rfl) rfl (fun w' h => Yld.bload tab_ok (hB15.keep h (by simp)) rfl rfl rfl) ?_
      refine WA.y 9 rfl (by kernel_rfl) rfl (fun w' h => Yld.pure tab_ok rfl) ?_
      refine WA.split [6, 11, 12] (by kernel_rfl) (by kernel_rfl) ⟨?_, ?_, ?_⟩
      · refine WI.call rfl rfl wants_none rfl rfl (made_fn (na != nb) Q cq q w5 hRQ hDq (by omega)) (fun v w' h w2 e => gr_eqv (gr_trans (gr_refl _ _) h.2) e) ?_
        rintro q1 v1 ⟨hNq, gs1⟩
        have gz1 := gs1.size
        have gt1 : w5.grownBy v1 none := gr_trans (gr_refl _ _) gs1
        refine WA.split [10, 11, 12] (by kernel_rfl) (by kernel_rfl) ⟨?_, ?_, ?_⟩
        · refine WI.call rfl rfl wants_none rfl rfl (made_fn na R cr r v1 (hRR.grown gt1) hDr (by omega)) (fun v w' h w2 e => gr_eqv (gr_trans (gt1) h.2) e) ?_
          rintro r1 v2 ⟨hNr, gs2⟩
          have gz2 := gs2.size
          have gt2 : w5.grownBy v2 none := gr_trans (gt1) gs2
          refine WA.split [11, 12] (by kernel_rfl) (by kernel_rfl) ⟨?_, ?_⟩
          · refine WI.put rfl rfl rfl (Eff.alloc zero44) (fun v w' h => gr_trans (gt2) h.2.2) ?_
            rintro _ v3 ⟨rfl, hBa, gs3⟩
            have hlta := hBa.lt
            have gz3 := gs3.size
            have gt3 : w5.grownBy v3 none := gr_trans (gt2) gs3
            refine WA.split [12] (by kernel_rfl) (by kernel_rfl) ?_
            · refine WI.put rfl rfl rfl (Eff.alloc zero44) (fun v w' h => gr_trans (gt3) h.2.2) ?_
              rintro _ v4 ⟨rfl, hBb, gs4⟩
              have hltb := hBb.lt
              have gz4 := gs4.size
              have gt4 : w5.grownBy v4 none := gr_trans (gt3) gs4
              exact WA.done4 _ _ q1 r1 (by kernel_rfl) ⟨(hBa.keep gs4 (by simp)), hBb, (((hNq.grown gs2).grown gs3).grown gs4), ((hNr.grown gs3).grown gs4), by omega, by omega, by omega, gt4⟩ (by repeat (first | exact Sub.nil | refine Sub.cons rfl ?_))
          · refine WI.put rfl rfl rfl (Eff.alloc zero44) (fun v w' h => gr_trans (gt2) h.2.2) ?_
            rintro _ v3 ⟨rfl, hBb, gs3⟩
            have hltb := hBb.lt
            have gz3 := gs3.size
            have gt3 : w5.grownBy v3 none := gr_trans (gt2) gs3
            refine WA.split [11] (by kernel_rfl) (by kernel_rfl) ?_
            · refine WI.put rfl rfl rfl (Eff.alloc zero44) (fun v w' h => gr_trans (gt3) h.2.2) ?_
              rintro _ v4 ⟨rfl, hBa, gs4⟩
              have hlta := hBa.lt
              have gz4 := gs4.size
              have gt4 : w5.grownBy v4 none := gr_trans (gt3) gs4
              exact WA.done4 _ _ q1 r1 (by kernel_rfl) ⟨hBa, (hBb.keep gs4 (by simp)), (((hNq.grown gs2).grown gs3).grown gs4), ((hNr.grown gs3).grown gs4), by omega, by omega, by omega, gt4⟩ (by repeat (first | exact Sub.nil | refine Sub.cons rfl ?_))
        · refine WI.put rfl rfl rfl (Eff.alloc zero44) (fun v w' h => gr_trans (gt1) h.2.2) ?_
          rintro _ v2 ⟨rfl, hBa, gs2⟩
          have hlta := hBa.lt
          have gz2 := gs2.size
          have gt2 : w5.grownBy v2 none := gr_trans (gt1) gs2
          refine WA.split [10, 12] (by kernel_rfl) (by kernel_rfl) ⟨?_, ?_⟩
          · refine WI.call rfl rfl wants_none rfl rfl (made_fn na R cr r v2 (hRR.grown gt2) hDr (by omega)) (fun v w' h w2 e => gr_eqv (gr_trans (gt2) h.2) e) ?_
            rintro r1 v3 ⟨hNr, gs3⟩
            have gz3 := gs3.size
            have gt3 : w5.grownBy v3 none := gr_trans (gt2) gs3
            refine WA.split [12] (by kernel_rfl) (by kernel_rfl) ?_
            · refine WI.put rfl rfl rfl (Eff.alloc zero44) (fun v w' h => gr_trans (gt3) h.2.2) ?_
              rintro _ v4 ⟨rfl, hBb, gs4⟩
              have hltb := hBb.lt
              have gz4 := gs4.size
              have gt4 : w5.grownBy v4 none := gr_trans (gt3) gs4
              exact WA.done4 _ _ q1 r1 (by kernel_rfl) ⟨((hBa.keep gs3 (by simp)).keep gs4 (by simp)), hBb, (((hNq.grown gs2).grown gs3).grown gs4), (hNr.grown gs4), by omega, by omega, by omega, gt4⟩ (by repeat (first | exact Sub.nil | refine Sub.cons rfl ?_))
          · refine WI.put rfl rfl rfl (Eff.alloc zero44) (fun v w' h => gr_trans (gt2) h.2.2) ?_
            rintro _ v3 ⟨rfl, hBb, gs3⟩
            have hltb := hBb.lt
            have gz3 := gs3.size
            have gt3 : w5.grownBy v3 none := gr_trans (gt2) gs3
            refine WA.split [10] (by kernel_rfl) (by kernel_rfl) ?_
            · refine WI.call rfl rfl wants_none rfl rfl (made_fn na R cr r v3 (hRR.grown gt3) hDr (by omega)) (fun v w' h w2 e => gr_eqv (gr_trans (gt3) h.2) e) ?_
              rintro r1 v4 ⟨hNr, gs4⟩
              have gz4 := gs4.size
              have gt4 : w5.grownBy v4 none := gr_trans (gt3) gs4
              exact WA.done4 _ _ q1 r1 (by kernel_rfl) ⟨((hBa.keep gs3 (by simp)).keep gs4 (by simp)), (hBb.keep gs4 (by simp)), (((hNq.grown gs2).grown gs3).grown gs4), hNr, by omega, by omega, by omega, gt4⟩ (by repeat (first | exact Sub.nil | refine Sub.cons rfl ?_))
        · refine WI.put rfl rfl rfl (Eff.alloc zero44) (fun v w' h => gr_trans (gt1) h.2.2) ?_
          rintro _ v2 ⟨rfl, hBb, gs2⟩
          have hltb := hBb.lt
          have gz2 := gs2.size
          have gt2 : w5.grownBy v2 none := gr_trans (gt1) gs2
          refine WA.split [10, 11] (by kernel_rfl) (by kernel_rfl) ⟨?_, ?_⟩
          · refine WI.call rfl rfl wants_none rfl rfl (made_fn na R cr r v2 (hRR.grown gt2) hDr (by omega)) (fun v w' h w2 e => gr_eqv (gr_trans (gt2) h.2) e) ?_
            rintro r1 v3 ⟨hNr, gs3⟩
            have gz3 := gs3.size
            have gt3 : w5.grownBy v3 none := gr_trans (gt2) gs3
            refine WA.split [11] (by kernel_rfl) (by kernel_rfl) ?_
            · refine WI.put rfl rfl rfl (Eff.alloc zero44) (fun v w' h => gr_trans (gt3) h.2.2) ?_
              rintro _ v4 ⟨rfl, hBa, gs4⟩
              have hlta := hBa.lt
              have gz4 := gs4.size
              have gt4 : w5.grownBy v4 none := gr_trans (gt3) gs4
              exact WA.done4 _ _ q1 r1 (by kernel_rfl) ⟨hBa, ((hBb.keep gs3 (by simp)).keep gs4 (by simp)), (((hNq.grown gs2).grown gs3).grown gs4), (hNr.grown gs4), by omega, by omega, by omega, gt4⟩ (by repeat (first | exact Sub.nil | refine Sub.cons rfl ?_))
          · refine WI.put rfl rfl rfl (Eff.alloc zero44) (fun v w' h => gr_trans (gt2) h.2.2) ?_
            rintro _ v3 ⟨rfl, hBa, gs3⟩
            have hlta := hBa.lt
            have gz3 := gs3.size
            have gt3 : w5.grownBy v3 none := gr_trans (gt2) gs3
            refine WA.split [10] (by kernel_rfl) (by kernel_rfl) ?_
            · refine WI.call rfl rfl wants_none rfl rfl (made_fn na R cr r v3 (hRR.grown gt3) hDr (by omega)) (fun v w' h w2 e => gr_eqv (gr_trans (gt3) h.2) e) ?_
              rintro r1 v4 ⟨hNr, gs4⟩
              have gz4 := gs4.size
              have gt4 : w5.grownBy v4 none := gr_trans (gt3) gs4
              exact WA.done4 _ _ q1 r1 (by kernel_rfl) ⟨(hBa.keep gs4 (by simp)), ((hBb.keep gs3 (by simp)).keep gs4 (by simp)), (((hNq.grown gs2).grown gs3).grown gs4), hNr, by omega, by omega, by omega, gt4⟩ (by repeat (first | exact Sub.nil | refine Sub.cons rfl ?_))
      · refine WI.put rfl rfl rfl (Eff.alloc zero44) (fun v w' h => gr_trans (gr_refl _ _) h.2.2) ?_
        rintro _ v1 ⟨rfl, hBa, gs1⟩
        have hlta := hBa.lt
        have gz1 := gs1.size
        have gt1 : w5.grownBy v1 none := gr_trans (gr_refl _ _) gs1
        refine WA.split [6, 12] (by kernel_rfl) (by kernel_rfl) ⟨?_, ?_⟩
        · refine WI.call rfl rfl wants_none rfl rfl (made_fn (na != nb) Q cq q v1 (hRQ.grown gt1) hDq (by omega)) (fun v w' h w2 e => gr_eqv (gr_trans (gt1) h.2) e) ?_
          rintro q1 v2 ⟨hNq, gs2⟩
          have gz2 := gs2.size
          have gt2 : w5.grownBy v2 none := gr_trans (gt1) gs2
          refine WA.split [10, 12] (by kernel_rfl) (by kernel_rfl) ⟨?_, ?_⟩
          · refine WI.call rfl rfl wants_none rfl rfl (made_fn na R cr r v2 (hRR.grown gt2) hDr (by omega)) (fun v w' h w2 e => gr_eqv (gr_trans (gt2) h.2) e) ?_
            rintro r1 v3 ⟨hNr, gs3⟩
            have gz3 := gs3.size
            have gt3 : w5.grownBy v3 none := gr_trans (gt2) gs3
            refine WA.split [12] (by kernel_rfl) (by kernel_rfl) ?_
            · refine WI.put rfl rfl rfl (Eff.alloc zero44) (fun v w' h => gr_trans (gt3) h.2.2) ?_
              rintro _ v4 ⟨rfl, hBb, gs4⟩
              have hltb := hBb.lt
              have gz4 := gs4.size
              have gt4 : w5.grownBy v4 none := gr_trans (gt3) gs4
              exact WA.done4 _ _ q1 r1 (by kernel_rfl) ⟨(((hBa.keep gs2 (by simp)).keep gs3 (by simp)).keep gs4 (by simp)), hBb, ((hNq.grown gs3).grown gs4), (hNr.grown gs4), by omega, by omega, by omega, gt4⟩ (by repeat (first | exact Sub.nil | refine Sub.cons rfl ?_))
          · refine WI.put rfl rfl rfl (Eff.alloc zero44) (fun v w' h => gr_trans (gt2) h.2.2) ?_
            rintro _ v3 ⟨rfl, hBb, gs3⟩
            have hltb := hBb.lt
            have gz3 := gs3.size
            have gt3 : w5.grownBy v3 none := gr_trans (gt2) gs3
            refine WA.split [10] (by kernel_rfl) (by kernel_rfl) ?_
            · refine WI.call rfl rfl wants_none rfl rfl (made_fn na R cr r v3 (hRR.grown gt3) hDr (by omega)) (fun v w' h w2 e => gr_eqv (gr_trans (gt3) h.2) e) ?_
              rintro r1 v4 ⟨hNr, gs4⟩
              have gz4 := gs4.size
              have gt4 : w5.grownBy v4 none := gr_trans (gt3) gs4
              exact WA.done4 _ _ q1 r1 (by kernel_rfl) ⟨(((hBa.keep gs2 (by simp)).keep gs3 (by simp)).keep gs4 (by simp)), (hBb.keep gs4 (by simp)), ((hNq.grown gs3).grown gs4), hNr, by omega, by omega, by omega, gt4⟩ (by repeat (first | exact Sub.nil | refine Sub.cons rfl ?_))
        · refine WI.put rfl rfl rfl (Eff.alloc zero44) (fun v w' h => gr_trans (gt1) h.2.2) ?_
          rintro _ v2 ⟨rfl, hBb, gs2⟩
          have hltb := hBb.lt
          have gz2 := gs2.size
          have gt2 : w5.grownBy v2 none := gr_trans (gt1) gs2
          refine WA.split [6] (by kernel_rfl) (by kernel_rfl) ?_
          · refine WI.call rfl rfl wants_none rfl rfl (made_fn (na != nb) Q cq q v2 (hRQ.grown gt2) hDq (by omega)) (fun v w' h w2 e => gr_eqv (gr_trans (gt2) h.2) e) ?_
            rintro q1 v3 ⟨hNq, gs3⟩
            have gz3 := gs3.size
            have gt3 : w5.grownBy v3 none := gr_trans (gt2) gs3
            refine WA.split [10] (by kernel_rfl) (by kernel_rfl) ?_
            · refine WI.call rfl rfl wants_none rfl rfl (made_fn na R cr r v3 (hRR.grown gt3) hDr (by omega)) (fun v w' h w2 e => gr_eqv (gr_trans (gt3) h.2) e) ?_
              rintro r1 v4 ⟨hNr, gs4⟩
              have gz4 := gs4.size
              have gt4 : w5.grownBy v4 none := gr_trans (gt3) gs4
              exact WA.done4 _ _ q1 r1 (by kernel_rfl) ⟨(((hBa.keep gs2 (by simp)).keep gs3 (by simp)).keep gs4 (by simp)), ((hBb.keep gs3 (by simp)).keep gs4 (by simp)), (hNq.grown gs4), hNr, by omega, by omega, by omega, gt4⟩ (by repeat (first | exact Sub.nil | refine Sub.cons rfl ?_))
      · refine WI.put rfl rfl rfl (Eff.alloc zero44) (fun v w' h => gr_trans (gr_refl _ _) h.2.2) ?_
        rintro _ v1 ⟨rfl, hBb, gs1⟩
        have hltb := hBb.lt
        have gz1 := gs1.size
        have gt1 : w5.grownBy v1 none := gr_trans (gr_refl _ _) gs1
        refine WA.split [6, 11] (by kernel_rfl) (by kernel_rfl) ⟨?_, ?_⟩
        · refine WI.call rfl rfl wants_none rfl rfl (made_fn (na != nb) Q cq q v1 (hRQ.grown gt1) hDq (by omega)) (fun v w' h w2 e => gr_eqv (gr_trans (gt1) h.2) e) ?_
          rintro q1 v2 ⟨hNq, gs2⟩
          have gz2 := gs2.size
          have gt2 : w5.grownBy v2 none := gr_trans (gt1) gs2
          refine WA.split [10, 11] (by kernel_rfl) (by kernel_rfl) ⟨?_, ?_⟩
          · refine WI.call rfl rfl wants_none rfl rfl (made_fn na R cr r v2 (hRR.grown gt2) hDr (by omega)) (fun v w' h w2 e => gr_eqv (gr_trans (gt2) h.2) e) ?_
            rintro r1 v3 ⟨hNr, gs3⟩
            have gz3 := gs3.size
            have gt3 : w5.grownBy v3 none := gr_trans (gt2) gs3
            refine WA.split [11] (by kernel_rfl) (by kernel_rfl) ?_
            · refine WI.put rfl rfl rfl (Eff.alloc zero44) (fun v w' h => gr_trans (gt3) h.2.2) ?_
              rintro _ v4 ⟨rfl, hBa, gs4⟩
              have hlta := hBa.lt
              have gz4 := gs4.size
              have gt4 : w5.grownBy v4 none := gr_trans (gt3) gs4
              exact WA.done4 _ _ q1 r1 (by kernel_rfl) ⟨hBa, (((hBb.keep gs2 (by simp)).keep gs3 (by simp)).keep gs4 (by simp)), ((hNq.grown gs3).grown gs4), (hNr.grown gs4), by omega, by omega, by omega, gt4⟩ (by repeat (first | exact Sub.nil | refine Sub.cons rfl ?_))
          · refine WI.put rfl rfl rfl (Eff.alloc zero44) (fun v w' h => gr_trans (gt2) h.2.2) ?_
            rintro _ v3 ⟨rfl, hBa, gs3⟩
            have hlta := hBa.lt
            have gz3 := gs3.size
            have gt3 : w5.grownBy v3 none := gr_trans (gt2) gs3
            refine WA.split [10] (by kernel_rfl) (by kernel_rfl) ?_
            · refine WI.call rfl rfl wants_none rfl rfl (made_fn na R cr r v3 (hRR.grown gt3) hDr (by omega)) (fun v w' h w2 e => gr_eqv (gr_trans (gt3) h.2) e) ?_
              rintro r1 v4 ⟨hNr, gs4⟩
              have gz4 := gs4.size
              have gt4 : w5.grownBy v4 none := gr_trans (gt3) gs4
              exact WA.done4 _ _ q1 r1 (by kernel_rfl) ⟨(hBa.keep gs4 (by simp)), (((hBb.keep gs2 (by simp)).keep gs3 (by simp)).keep gs4 (by simp)), ((hNq.grown gs3).grown gs4), hNr, by omega, by omega, by omega, gt4⟩ (by repeat (first | exact Sub.nil | refine Sub.cons rfl ?_))
        · refine WI.put rfl rfl rfl (Eff.alloc zero44) (fun v w' h => gr_trans (gt1) h.2.2) ?_
          rintro _ v2 ⟨rfl, hBa, gs2⟩
          have hlta := hBa.lt
          have gz2 := gs2.size
          have gt2 : w5.grownBy v2 none := gr_trans (gt1) gs2
          refine WA.split [6] (by kernel_rfl) (by kernel_rfl) ?_
          · refine WI.call rfl rfl wants_none rfl rfl (made_fn (na != nb) Q cq q v2 (hRQ.grown gt2) hDq (by omega)) (fun v w' h w2 e => gr_eqv (gr_trans (gt2) h.2) e) ?_
            rintro q1 v3 ⟨hNq, gs3⟩
            have gz3 := gs3.size
            have gt3 : w5.grownBy v3 none := gr_trans (gt2) gs3
            refine WA.split [10] (by kernel_rfl) (by kernel_rfl) ?_
            · refine WI.call rfl rfl wants_none rfl rfl (made_fn na R cr r v3 (hRR.grown gt3) hDr (by omega)) (fun v w' h w2 e => gr_eqv (gr_trans (gt3) h.2) e) ?_
              rintro r1 v4 ⟨hNr, gs4⟩
              have gz4 := gs4.size
              have gt4 : w5.grownBy v4 none := gr_trans (gt3) gs4
              exact WA.done4 _ _ q1 r1 (by kernel_rfl) ⟨((hBa.keep gs3 (by simp)).keep gs4 (by simp)), (((hBb.keep gs2 (by simp)).keep gs3 (by simp)).keep gs4 (by simp)), (hNq.grown gs4), hNr, by omega, by omega, by omega, gt4⟩ (by repeat (first | exact Sub.nil | refine Sub.cons rfl ?_))
    rintro g9 g10 q1 r1 w9 ⟨hB89, hB9, hN69, hN79, hne9, hge9, hge10, hg59⟩
    have hz5 := hg5.size
    have hlt8 := hB89.lt
    have hlt9 := hB9.lt
    obtain ⟨a, b, rfl, hoa, hob⟩ := hN69.agg
    refine WL.storeW (vs := [a, b]) tab_ok rfl rfl rfl (by intro u hu; simp at hu; rcases hu with rfl | rfl <;> assumption) hB89 rfl rfl (fun wa hBa hga => ?_)
    have hg5a := gr_new hg59 hga (by omega)
    have hBa10 := hB9.keep hga (by simp; omega)
    have hN7a := hN79.stored hB89 zero_no hga
    have hN6a := hN69.stored hB89 zero_no hga
    obtain ⟨nr, Ar, cr1, lr, rfl, hR7, hD7, hC7, hl7, hn7, hz7⟩ := hN7a
    have hN7a : Nm wa (.agg ⟨[.bool nr, .slice Ar lr.length cr1]⟩) (bif na then -(val r : Int) else (val r : Int)) r.length := ⟨nr, Ar, cr1, lr, rfl, hR7, hD7, hC7, hl7, hn7, hz7⟩
    refine WL.storeW (vs := [.bool nr, .slice Ar lr.length cr1]) tab_ok rfl rfl rfl (by intro u hu; simp at hu; rcases hu with rfl | rfl <;> rfl) hBa10 rfl rfl (fun wb hBb hgb => ?_)
    have hg5b := gr_new hg5a hgb (by omega)
    have hBab := hBa.keep hgb (by simp; omega)
    have hN6b := hN6a.stored hBa10 zero_no hgb
    have hN7b := hN7a.stored hBa10 zero_no hgb
    have hlr : lr = [] ↔ val r = 0 := by
      rw [← val_zero hC7]
      cases na <;> cases nr <;> simp at hz7 <;> omega
    have hB1b := hB15.keep hg5b (by simp)
    have hB2b := hB25.keep hg5b (by simp)
    have hfl := floor_of na nb (val la) (val lb) (val q) (val r) hv hvr
    have hfo := floor_off na nb (val la) (val lb) (val q) (val r) hv hvr
    rw [← hy] at hfl hfo
    have hgx : w.grownBy wb none := gr_trans (gr_trans hg14 hg5) hg5b
    have hB3b := (hB34.keep hg5 (by simp)).keep hg5b (by simp)
    have hB4b := (hB4.keep hg5 (by simp)).keep hg5b (by simp)
    have hq1 : q.length ≤ m := by omega
    have hr1 : r.length ≤ m := by omega
    clear hga hgb hg59 hg5a
    repeat (first | refine WL.y rfl (Yld.bload tab_ok hBb rfl rfl rfl) ?_ | refine WC.seq ?_ | refine WC.block ?_ | refine WC.region ?_ | refine WL.nil ?_ | refine WX.then_normal ?_ | refine WC.skip ?_ | refine WC.exit ?_ | refine WC.ret ?_ | refine WX.then_ret ?_ | refine WC.label ?_ | refine WC.scope ?_ | refine WL.y rfl (Yld.pure tab_ok rfl) ?_ | refine WL.y rfl (Yld.pickV rfl rfl rfl) ?_ | refine WL.gno rfl rfl rfl rfl ?_ | refine WL.gyes rfl rfl rfl rfl (Yld.pure tab_ok rfl) ?_)
    generalize hbl : decide ((0 : Int) < (lr.length : Int)) = bl
    cases bl
    · simp only [decide_eq_false_iff_not] at hbl
      have hr0 : val r = 0 := hlr.mp (List.length_eq_zero_iff.mp (by omega))
      repeat (first | refine WC.seq ?_ | refine WC.block ?_ | refine WC.region ?_ | refine WL.nil ?_ | refine WX.then_normal ?_ | refine WC.skip ?_ | refine WC.exit ?_ | refine WC.ret ?_ | refine WX.then_ret ?_ | refine WC.label ?_ | refine WC.scope ?_ | refine WL.y rfl (Yld.pure tab_ok rfl) ?_ | refine WL.y rfl (Yld.pickV rfl rfl rfl) ?_ | refine WL.gno rfl rfl rfl rfl ?_ | refine WL.gyes rfl rfl rfl rfl (Yld.pure tab_ok rfl) ?_)
      refine WC.mergeW (S := Unit) (fun _ => [(9, .pointer (some ⟨g9, 0, none⟩)), (10, .pointer (some ⟨g10, 0, none⟩)), (4, .pointer (some ⟨g3, 0, none⟩)), (5, .pointer (some ⟨g4, 0, none⟩))]) (fun _ w' => ∃ a' b' c' d' qz rz, Bl w' g9 44 [a', b'] ∧ Bl w' g10 44 [c', d'] ∧ a'.oneCell' = true ∧ b'.oneCell' = true ∧ c'.oneCell' = true ∧ d'.oneCell' = true ∧ Nm w' (.agg ⟨[a', b']⟩) qz (m + 4) ∧ Nm w' (.agg ⟨[c', d']⟩) rz (m + 4) ∧ Floor (bif na then -(val la : Int) else (val la : Int)) y qz rz ∧ w.grownBy w' none ∧ Bl w' g3 44 [.bool false, .slice none 0 0] ∧ Bl w' g4 44 [.bool false, .slice none 0 0]) rfl (fun h => by cases h) (fun _ Q' hQ => ?_) ?_
      · repeat (first | refine WC.seq ?_ | refine WC.block ?_ | refine WC.region ?_ | refine WL.nil ?_ | refine WX.then_normal ?_ | refine WC.skip ?_ | refine WC.exit ?_ | refine WC.ret ?_ | refine WX.then_ret ?_ | refine WC.label ?_ | refine WC.scope ?_ | refine WL.y rfl (Yld.pure tab_ok rfl) ?_ | refine WL.y rfl (Yld.pickV rfl rfl rfl) ?_ | refine WL.gno rfl rfl rfl rfl ?_ | refine WL.gyes rfl rfl rfl rfl (Yld.pure tab_ok rfl) ?_)
        exact WX.weaken (by repeat (first | exact Sub.nil | refine Sub.cons rfl ?_)) (hQ () wb ⟨a, b, _, _, _, _, hBab, hBb, hoa, hob, rfl, rfl, hN6b.mono (by omega), hN7b.mono (by omega), hfl (.inr hr0), hgx, hB3b, hB4b⟩)
      · rintro _ wz ⟨a', b', c', d', qz, rz, hBq, hBr, ho1, ho2, ho3, ho4, hNq, hNr, hFl, hgz, hB3z, hB4z⟩
        repeat (first | refine WC.seq ?_ | refine WC.block ?_ | refine WC.region ?_ | refine WL.nil ?_ | refine WX.then_normal ?_ | refine WC.skip ?_ | refine WC.exit ?_ | refine WC.ret ?_ | refine WX.then_ret ?_ | refine WC.label ?_ | refine WC.scope ?_ | refine WL.y rfl (Yld.pure tab_ok rfl) ?_ | refine WL.y rfl (Yld.pickV rfl rfl rfl) ?_ | refine WL.gno rfl rfl rfl rfl ?_ | refine WL.gyes rfl rfl rfl rfl (Yld.pure tab_ok rfl) ?_)
        refine WC.chain (fun k => Nat.blt k 2 || Nat.beq k 4) (fun w' => Bl w' g9 44 [a', b'] ∧ Bl w' g10 44 [c', d']) mixed (by kernel_rfl) (fun w' e => ⟨bl_eqv e hBq, bl_eqv e hBr⟩) ?_
        refine WK.y rfl rfl (fun w' h => Yld.bagg (vs := [a', b']) tab_ok h.1 rfl rfl rfl rfl) ?_
        refine WK.y rfl rfl (fun w' h => Yld.bagg (vs := [c', d']) tab_ok h.2 rfl rfl rfl rfl) ?_
        refine WK.eff rfl (Ef0.storeW (vs := [a', b']) tab_ok rfl rfl rfl (by intro u hu; simp at hu; rcases hu with rfl | rfl <;> assumption) hB3z rfl rfl) (fun w' h => ⟨hBq.keep h.2 (by simp; omega), hBr.keep h.2 (by simp; omega)⟩) ?_
        rintro wy ⟨hBy3, hgy⟩
        have hB4y := hB4z.keep hgy (by simp; omega)
        have hBqy := hBq.keep hgy (by simp; omega)
        have hBry := hBr.keep hgy (by simp; omega)
        refine WK.eff rfl (Ef0.storeW (vs := [c', d']) tab_ok rfl rfl rfl (by intro u hu; simp at hu; rcases hu with rfl | rfl <;> assumption) hB4y rfl rfl) (fun w' h => ⟨hBqy.keep h.2 (by simp; omega), hBry.keep h.2 (by simp; omega)⟩) ?_
        rintro wx ⟨hBx4, hgx2⟩
        repeat (first | refine WK.y rfl rfl (fun _ _ => Yld.add rfl rfl (by simp only [In]; omega)) ?_ | refine WK.y rfl rfl (fun _ _ => Yld.sub rfl rfl (by simp only [In]; omega)) ?_ | refine WK.y rfl rfl (fun _ _ => Yld.mul rfl rfl (by simp only [In]; omega)) ?_ | refine WK.y rfl rfl (fun _ _ => Yld.convB tab_ok rfl rfl rfl rfl) ?_ | refine WK.y rfl rfl (fun _ _ => Yld.conv tab_ok rfl rfl rfl (by simp only [In]; omega)) ?_ | refine WK.y rfl rfl (fun _ _ => Yld.quo rfl rfl (by omega) (by omega) (by simp only [In]; omega)) ?_ | refine WK.y rfl rfl (fun _ _ => Yld.rem rfl rfl (by omega) (by omega)) ?_ | refine WK.y rfl rfl (fun _ _ => Yld.shl rfl rfl (by omega)) ?_ | refine WK.y rfl rfl (fun _ _ => Yld.shr rfl rfl (by omega)) ?_ | refine WK.y rfl rfl (fun _ _ => Yld.pure tab_ok rfl) ?_)
        refine WK.nil ?_
        repeat (first | refine WC.seq ?_ | refine WC.block ?_ | refine WC.region ?_ | refine WL.nil ?_ | refine WX.then_normal ?_ | refine WC.skip ?_ | refine WC.exit ?_ | refine WC.ret ?_ | refine WX.then_ret ?_ | refine WC.label ?_ | refine WC.scope ?_ | refine WL.y rfl (Yld.pure tab_ok rfl) ?_ | refine WL.y rfl (Yld.pickV rfl rfl rfl) ?_ | refine WL.gno rfl rfl rfl rfl ?_ | refine WL.gyes rfl rfl rfl rfl (Yld.pure tab_ok rfl) ?_)
        exact WX.retcct tab_ok rfl rfl rfl (hBy3.keep hgx2 (by simp; omega)) rfl rfl rfl hBx4 rfl rfl ⟨⟨_, _, qz, rz, by rw [decide_eq_false hy0]; rfl, (hNq.stored hB3z zero_no hgy).stored hB4y zero_no hgx2, (hNr.stored hB3z zero_no hgy).stored hB4y zero_no hgx2, ⟨fun _ => hFl, fun e => absurd e hy0⟩⟩, gr_new (gr_new hgz hgy (by omega)) hgx2 (by omega)⟩
    · simp only [decide_eq_true_eq] at hbl
      have hr0 : 0 < val r := by
        rcases Nat.eq_zero_or_pos (val r) with e | e
        · rw [hlr.mpr e] at hbl; simp at hbl
        · exact e
      repeat (first | refine WL.gyes rfl rfl rfl rfl (Yld.bload tab_ok hB1b rfl rfl rfl) ?_ | refine WL.gyes rfl rfl rfl rfl (Yld.bload tab_ok hB2b rfl rfl rfl) ?_ | refine WL.gyes rfl rfl rfl rfl (Yld.bneq hbt rfl rfl) ?_ | refine WC.seq ?_ | refine WC.block ?_ | refine WC.region ?_ | refine WL.nil ?_ | refine WX.then_normal ?_ | refine WC.skip ?_ | refine WC.exit ?_ | refine WC.ret ?_ | refine WX.then_ret ?_ | refine WC.label ?_ | refine WC.scope ?_ | refine WL.y rfl (Yld.pure tab_ok rfl) ?_ | refine WL.y rfl (Yld.pickV rfl rfl rfl) ?_ | refine WL.gno rfl rfl rfl rfl ?_ | refine WL.gyes rfl rfl rfl rfl (Yld.pure tab_ok rfl) ?_)
      refine WC.mergeW (S := Unit) (fun _ => [(9, .pointer (some ⟨g9, 0, none⟩)), (10, .pointer (some ⟨g10, 0, none⟩)), (4, .pointer (some ⟨g3, 0, none⟩)), (5, .pointer (some ⟨g4, 0, none⟩))]) (fun _ w' => ∃ a' b' c' d' qz rz, Bl w' g9 44 [a', b'] ∧ Bl w' g10 44 [c', d'] ∧ a'.oneCell' = true ∧ b'.oneCell' = true ∧ c'.oneCell' = true ∧ d'.oneCell' = true ∧ Nm w' (.agg ⟨[a', b']⟩) qz (m + 4) ∧ Nm w' (.agg ⟨[c', d']⟩) rz (m + 4) ∧ Floor (bif na then -(val la : Int) else (val la : Int)) y qz rz ∧ w.grownBy w' none ∧ Bl w' g3 44 [.bool false, .slice none 0 0] ∧ Bl w' g4 44 [.bool false, .slice none 0 0]) rfl (fun h Q' hQ => ?_) (fun h Q' hQ => ?_) ?_
      · have hne : na ≠ nb := by intro e; subst e; simp at h
        repeat (first | refine WC.seq ?_ | refine WC.block ?_ | refine WC.region ?_ | refine WL.nil ?_ | refine WX.then_normal ?_ | refine WC.skip ?_ | refine WC.exit ?_ | refine WC.ret ?_ | refine WX.then_ret ?_ | refine WC.label ?_ | refine WC.scope ?_ | refine WL.y rfl (Yld.pure tab_ok rfl) ?_ | refine WL.y rfl (Yld.pickV rfl rfl rfl) ?_ | refine WL.gno rfl rfl rfl rfl ?_ | refine WL.gyes rfl rfl rfl rfl (Yld.pure tab_ok rfl) ?_)
        refine WC.chainT 6 (fun k => Nat.beq k 0 || Nat.beq k 3 || Nat.beq k 4) (fun w' => wb.grownBy w' none) mixed (by kernel_rfl) (fun w' e => gr_eqv (gr_refl _ _) e) ?_
        have hNb3 : Nm wb (.agg ⟨[a, b]⟩) (bif na != nb then -(val q : Int) else (val q : Int)) (m + 3) := hN6b.mono (by omega)
        have hby := (hb'.grown hgx).mono (by omega : m ≤ m + 3)
        rw [hy] at hby
        refine WK.y rfl rfl (fun w' h => Yld.bagg (vs := [a, b]) tab_ok (hBab.keep h (by simp)) rfl rfl rfl rfl) ?_
        refine WK.call rfl wants_none rfl rfl (of_fn 1 wb (by omega) (by omega)) (fun v w' h w2 e => gr_eqv h.2 e) ?_
        rintro o1 v1 ⟨hNo, gs1⟩
        refine WK.call rfl wants_none rfl rfl (sub_fn _ _ _ 1 (m + 3) v1 (hNb3.grown gs1) (hNo.mono (by omega)) (by omega)) (fun v w' h w2 e => gr_eqv (gr_trans gs1 h.2) e) ?_
        rintro q2 v2 ⟨hNq2, gs2⟩
        refine WK.y rfl rfl (fun w' h => Yld.bagg (vs := [.bool nr, .slice Ar lr.length cr1]) tab_ok (hBb.keep h (by simp)) rfl rfl rfl rfl) ?_
        refine WK.y rfl rfl (fun w' h => Yld.bagg (vs := [.bool nb, .slice B lb.length cb]) tab_ok (hB2b.keep h (by simp)) rfl rfl rfl rfl) ?_
        have gt2 := gr_trans gs1 gs2
        refine WK.call rfl wants_none rfl rfl (add_fn _ _ _ _ (m + 3) v2 ((hN7b.mono (by omega)).grown gt2) (hby.grown gt2) (by omega)) (fun v w' h w2 e => gr_eqv (gr_trans gt2 h.2) e) ?_
        rintro r2 v3 ⟨hNr2, gs3⟩
        refine WK.tail ?_
        have gt3 := gr_trans gt2 gs3
        obtain ⟨a2, b2, rfl, hoa2, hob2⟩ := hNq2.agg
        obtain ⟨c2, d2, rfl, hoc2, hod2⟩ := hNr2.agg
        have hNq3 := hNq2.grown gs3
        refine WL.storeW (vs := [a2, b2]) tab_ok rfl rfl rfl (by intro u hu; simp at hu; rcases hu with rfl | rfl <;> assumption) (hBab.keep gt3 (by simp)) rfl rfl (fun v4 hB4v gs4 => ?_)
        refine WL.storeW (vs := [c2, d2]) tab_ok rfl rfl rfl (by intro u hu; simp at hu; rcases hu with rfl | rfl <;> assumption) ((hBb.keep gt3 (by simp)).keep gs4 (by simp; omega)) rfl rfl (fun v5 hB5v gs5 => ?_)
        repeat (first | refine WC.seq ?_ | refine WC.block ?_ | refine WC.region ?_ | refine WL.nil ?_ | refine WX.then_normal ?_ | refine WC.skip ?_ | refine WC.exit ?_ | refine WC.ret ?_ | refine WX.then_ret ?_ | refine WC.label ?_ | refine WC.scope ?_ | refine WL.y rfl (Yld.pure tab_ok rfl) ?_ | refine WL.y rfl (Yld.pickV rfl rfl rfl) ?_ | refine WL.gno rfl rfl rfl rfl ?_ | refine WL.gyes rfl rfl rfl rfl (Yld.pure tab_ok rfl) ?_)
        have hBv3 := hBab.keep gt3 (by simp)
        have hBv4 := (hBb.keep gt3 (by simp)).keep gs4 (by simp; omega)
        have gz3 := gt3.size
        exact WX.weaken (by repeat (first | exact Sub.nil | refine Sub.cons rfl ?_)) (hQ () v5 ⟨a2, b2, c2, d2, _, _, hB4v.keep gs5 (by simp; omega), hB5v, hoa2, hob2, hoc2, hod2, (hNq3.stored hBv3 hN6b.no gs4).stored hBv4 hN7b.no gs5, (hNr2.stored hBv3 hN6b.no gs4).stored hBv4 hN7b.no gs5, by rw [hy]; rw [hy] at hfo; exact hfo hne hr0,
          gr_new (gr_new (gr_trans hgx gt3) gs4 (by omega)) gs5 (by omega), ((hB3b.keep gt3 (by simp)).keep gs4 (by simp; omega)).keep gs5 (by simp; omega), ((hB4b.keep gt3 (by simp)).keep gs4 (by simp; omega)).keep gs5 (by simp; omega)⟩)
      · have hne : na = nb := by cases na <;> cases nb <;> simp at h <;> rfl
        repeat (first | refine WC.seq ?_ | refine WC.block ?_ | refine WC.region ?_ | refine WL.nil ?_ | refine WX.then_normal ?_ | refine WC.skip ?_ | refine WC.exit ?_ | refine WC.ret ?_ | refine WX.then_ret ?_ | refine WC.label ?_ | refine WC.scope ?_ | refine WL.y rfl (Yld.pure tab_ok rfl) ?_ | refine WL.y rfl (Yld.pickV rfl rfl rfl) ?_ | refine WL.gno rfl rfl rfl rfl ?_ | refine WL.gyes rfl rfl rfl rfl (Yld.pure tab_ok rfl) ?_)
        exact WX.weaken (by repeat (first | exact Sub.nil | refine Sub.cons rfl ?_)) (hQ () wb ⟨a, b, _, _, _, _, hBab, hBb, hoa, hob, rfl, rfl, hN6b.mono (by omega), hN7b.mono (by omega), hfl (.inl hne), hgx, hB3b, hB4b⟩)
      · rintro _ wz ⟨a', b', c', d', qz, rz, hBq, hBr, ho1, ho2, ho3, ho4, hNq, hNr, hFl, hgz, hB3z, hB4z⟩
        repeat (first | refine WC.seq ?_ | refine WC.block ?_ | refine WC.region ?_ | refine WL.nil ?_ | refine WX.then_normal ?_ | refine WC.skip ?_ | refine WC.exit ?_ | refine WC.ret ?_ | refine WX.then_ret ?_ | refine WC.label ?_ | refine WC.scope ?_ | refine WL.y rfl (Yld.pure tab_ok rfl) ?_ | refine WL.y rfl (Yld.pickV rfl rfl rfl) ?_ | refine WL.gno rfl rfl rfl rfl ?_ | refine WL.gyes rfl rfl rfl rfl (Yld.pure tab_ok rfl) ?_)
        refine WC.chain (fun k => Nat.blt k 2 || Nat.beq k 4) (fun w' => Bl w' g9 44 [a', b'] ∧ Bl w' g10 44 [c', d']) mixed (by kernel_rfl) (fun w' e => ⟨bl_eqv e hBq, bl_eqv e hBr⟩) ?_
        refine WK.y rfl rfl (fun w' h => Yld.bagg (vs := [a', b']) tab_ok h.1 rfl rfl rfl rfl) ?_
        refine WK.y rfl rfl (fun w' h => Yld.bagg (vs := [c', d']) tab_ok h.2 rfl rfl rfl rfl) ?_
        refine WK.eff rfl (Ef0.storeW (vs := [a', b']) tab_ok rfl rfl rfl (by intro u hu; simp at hu; rcases hu with rfl | rfl <;> assumption) hB3z rfl rfl) (fun w' h => ⟨hBq.keep h.2 (by simp; omega), hBr.keep h.2 (by simp; omega)⟩) ?_
        rintro wy ⟨hBy3, hgy⟩
        have hB4y := hB4z.keep hgy (by simp; omega)
        have hBqy := hBq.keep hgy (by simp; omega)
        have hBry := hBr.keep hgy (by simp; omega)
        refine WK.eff rfl (Ef0.storeW (vs := [c', d']) tab_ok rfl rfl rfl (by intro u hu; simp at hu; rcases hu with rfl | rfl <;> assumption) hB4y rfl rfl) (fun w' h => ⟨hBqy.keep h.2 (by simp; omega), hBry.keep h.2 (by simp; omega)⟩) ?_
        rintro wx ⟨hBx4, hgx2⟩
        repeat (first | refine WK.y rfl rfl (fun _ _ => Yld.add rfl rfl (by simp only [In]; omega)) ?_ | refine WK.y rfl rfl (fun _ _ => Yld.sub rfl rfl (by simp only [In]; omega)) ?_ | refine WK.y rfl rfl (fun _ _ => Yld.mul rfl rfl (by simp only [In]; omega)) ?_ | refine WK.y rfl rfl (fun _ _ => Yld.convB tab_ok rfl rfl rfl rfl) ?_ | refine WK.y rfl rfl (fun _ _ => Yld.conv tab_ok rfl rfl rfl (by simp only [In]; omega)) ?_ | refine WK.y rfl rfl (fun _ _ => Yld.quo rfl rfl (by omega) (by omega) (by simp only [In]; omega)) ?_ | refine WK.y rfl rfl (fun _ _ => Yld.rem rfl rfl (by omega) (by omega)) ?_ | refine WK.y rfl rfl (fun _ _ => Yld.shl rfl rfl (by omega)) ?_ | refine WK.y rfl rfl (fun _ _ => Yld.shr rfl rfl (by omega)) ?_ | refine WK.y rfl rfl (fun _ _ => Yld.pure tab_ok rfl) ?_)
        refine WK.nil ?_
        repeat (first | refine WC.seq ?_ | refine WC.block ?_ | refine WC.region ?_ | refine WL.nil ?_ | refine WX.then_normal ?_ | refine WC.skip ?_ | refine WC.exit ?_ | refine WC.ret ?_ | refine WX.then_ret ?_ | refine WC.label ?_ | refine WC.scope ?_ | refine WL.y rfl (Yld.pure tab_ok rfl) ?_ | refine WL.y rfl (Yld.pickV rfl rfl rfl) ?_ | refine WL.gno rfl rfl rfl rfl ?_ | refine WL.gyes rfl rfl rfl rfl (Yld.pure tab_ok rfl) ?_)
        exact WX.retcct tab_ok rfl rfl rfl (hBy3.keep hgx2 (by simp; omega)) rfl rfl rfl hBx4 rfl rfl ⟨⟨_, _, qz, rz, by rw [decide_eq_false hy0]; rfl, (hNq.stored hB3z zero_no hgy).stored hB4y zero_no hgx2, (hNr.stored hB3z zero_no hgy).stored hB4y zero_no hgx2, ⟨fun _ => hFl, fun e => absurd e hy0⟩⟩, gr_new (gr_new hgz hgy (by omega)) hgx2 (by omega)⟩
end Go.Proofs.YtilphcippnfklaaDoor
 