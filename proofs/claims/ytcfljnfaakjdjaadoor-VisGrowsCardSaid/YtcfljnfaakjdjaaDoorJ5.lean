/- Texts of this claim, joined by a program: Sent, GSb, GPs, See, PathG. -/
import Derived.Test.YtcfljnfaakjdjaaDoorJ4
/- smithysee.sentinel: the number of one of api's variables. -/
namespace Go.Proofs.YtcfljnfaakjdjaaDoor
open Go Go.RowKit
attribute [local irreducible] WL WC WX WQ WK WJ Yld Eff Ef0 Fn
theorem Rd.ofBlV {w : World} {g m : Nat} {e : TypeId} {us : List Value} (h : Bl w g e us) (hm : us.length = m) (hx : m ≤ maxLen) : Rd (fun v => v) w (some ⟨g, 0, none⟩) m us := ⟨by omega, hx, fun _ => ⟨_, rfl, fun j x hj => by
  have := h.cell j
  rw [hj] at this
  cases j with
  | zero => simpa [Addr.add] using this
  | succ j => simpa [Addr.add] using this⟩⟩
def errsV (S : List Nat) (w : World) (us : List Value) : Prop := us.length = 17 ∧ ∀ n, n < 17 → ErrR S w (us.getD n .nilIface) (.e n)
theorem sentinels_fn {S : List Nat} {w : World} (hG : GOK S w) (hS : ∀ n, n < 17 → n ∈ S) : Fn Tryd.prog 184 ⟨[]⟩ w fun v w' => w.grownBy w' none ∧ ∃ g us, v = .slice (some ⟨g, 0, none⟩) 17 17 ∧ Bl w' g 30 us ∧ errsV S w' us := by
  refine Fn.enter (by kernel_rfl) Tryd.func184 rfl Tryd.ntmps184 rfl ?_
  obtain ⟨v0, hc0, hE0⟩ := hG.get 0 4 (hS 0 (by omega)) rfl rfl
  obtain ⟨v1, hc1, hE1⟩ := hG.get 1 5 (hS 1 (by omega)) rfl rfl
  obtain ⟨v2, hc2, hE2⟩ := hG.get 2 6 (hS 2 (by omega)) rfl rfl
  obtain ⟨v3, hc3, hE3⟩ := hG.get 3 7 (hS 3 (by omega)) rfl rfl
  obtain ⟨v4, hc4, hE4⟩ := hG.get 4 8 (hS 4 (by omega)) rfl rfl
  obtain ⟨v5, hc5, hE5⟩ := hG.get 5 0 (hS 5 (by omega)) rfl rfl
  obtain ⟨v6, hc6, hE6⟩ := hG.get 6 9 (hS 6 (by omega)) rfl rfl
  obtain ⟨v7, hc7, hE7⟩ := hG.get 7 10 (hS 7 (by omega)) rfl rfl
  obtain ⟨v8, hc8, hE8⟩ := hG.get 8 11 (hS 8 (by omega)) rfl rfl
  obtain ⟨v9, hc9, hE9⟩ := hG.get 9 12 (hS 9 (by omega)) rfl rfl
  obtain ⟨v10, hc10, hE10⟩ := hG.get 10 13 (hS 10 (by omega)) rfl rfl
  obtain ⟨v11, hc11, hE11⟩ := hG.get 11 1 (hS 11 (by omega)) rfl rfl
  obtain ⟨v12, hc12, hE12⟩ := hG.get 12 14 (hS 12 (by omega)) rfl rfl
  obtain ⟨v13, hc13, hE13⟩ := hG.get 13 15 (hS 13 (by omega)) rfl rfl
  obtain ⟨v14, hc14, hE14⟩ := hG.get 14 16 (hS 14 (by omega)) rfl rfl
  obtain ⟨v15, hc15, hE15⟩ := hG.get 15 17 (hS 15 (by omega)) rfl rfl
  obtain ⟨v16, hc16, hE16⟩ := hG.get 16 18 (hS 16 (by omega)) rfl rfl
  repeat (first | refine WL.y rfl (Yld.cell tab_ok hc0 rfl rfl) ?_ | refine WL.y rfl (Yld.cell tab_ok hc1 rfl rfl) ?_ | refine WL.y rfl (Yld.cell tab_ok hc2 rfl rfl) ?_ | refine WL.y rfl (Yld.cell tab_ok hc3 rfl rfl) ?_ | refine WL.y rfl (Yld.cell tab_ok hc4 rfl rfl) ?_ | refine WL.y rfl (Yld.cell tab_ok hc5 rfl rfl) ?_ | refine WL.y rfl (Yld.cell tab_ok hc6 rfl rfl) ?_ | refine WL.y rfl (Yld.cell tab_ok hc7 rfl rfl) ?_ | refine WL.y rfl (Yld.cell tab_ok hc8 rfl rfl) ?_ | refine WL.y rfl (Yld.cell tab_ok hc9 rfl rfl) ?_ | refine WL.y rfl (Yld.cell tab_ok hc10 rfl rfl) ?_ | refine WL.y rfl (Yld.cell tab_ok hc11 rfl rfl) ?_ | refine WL.y rfl (Yld.cell tab_ok hc12 rfl rfl) ?_ | refine WL.y rfl (Yld.cell tab_ok hc13 rfl rfl) ?_ | refine WL.y rfl (Yld.cell tab_ok hc14 rfl rfl) ?_ | refine WL.y rfl (Yld.cell tab_ok hc15 rfl rfl) ?_ | refine WL.y rfl (Yld.cell tab_ok hc16 rfl rfl) ?_ | refine WC.seq ?_ | refine WC.block ?_ | refine WC.region ?_ | refine WL.nil ?_ | refine WX.then_normal ?_ | refine WC.skip ?_ | refine WC.exit ?_ | refine WC.ret ?_ | refine WX.then_exit ?_ | refine WX.then_ret ?_ | refine WX.block_normal ?_ | refine WX.block_ret ?_ | refine WX.block_same ?_ | refine WX.block_other rfl ?_ | refine WC.label ?_ | refine WC.scope ?_ | refine WX.scope_normal ?_ | refine WX.scope_ret ?_ | refine WX.scope_exit ?_ | refine WL.y rfl (Yld.add rfl rfl (by simp only [In]; omega)) ?_ | refine WL.y rfl (Yld.sub rfl rfl (by simp only [In]; omega)) ?_ | refine WL.y rfl (Yld.mul rfl rfl (by simp only [In]; omega)) ?_ | refine WL.y rfl (Yld.convB tab_ok rfl rfl rfl rfl) ?_ | refine WL.y rfl (Yld.conv tab_ok rfl rfl rfl (by simp only [In]; omega)) ?_ | refine WL.y rfl (Yld.quo rfl rfl (by omega) (by omega) (by simp only [In]; omega)) ?_ | refine WL.y rfl (Yld.rem rfl rfl (by omega) (by omega)) ?_ | refine WL.y rfl (Yld.shl rfl rfl (by omega)) ?_ | refine WL.y rfl (Yld.shr rfl rfl (by omega)) ?_ | refine WL.y rfl (Yld.pure tab_ok rfl) ?_ | refine WL.y rfl (Yld.fld flds_ok rfl rfl rfl) ?_ | refine WL.y rfl (Yld.max2 rfl rfl) ?_ | refine WL.y rfl (Yld.min2 rfl rfl) ?_ | refine WL.y rfl (Yld.pickV rfl rfl rfl) ?_ | refine WL.gno rfl rfl rfl rfl ?_ | refine WL.gyes rfl rfl rfl rfl (Yld.add rfl rfl (by simp only [In]; omega)) ?_ | refine WL.gyes rfl rfl rfl rfl (Yld.sub rfl rfl (by simp only [In]; omega)) ?_ | refine WL.gyes rfl rfl rfl rfl (Yld.mul rfl rfl (by simp only [In]; omega)) ?_ | refine WL.gyes rfl rfl rfl rfl (Yld.convB tab_ok rfl rfl rfl rfl) ?_ | refine WL.gyes rfl rfl rfl rfl (Yld.conv tab_ok rfl rfl rfl (by simp only [In]; omega)) ?_ | refine WL.gyes rfl rfl rfl rfl (Yld.quo rfl rfl (by omega) (by omega) (by simp only [In]; omega)) ?_ | refine WL.gyes rfl rfl rfl rfl (Yld.rem rfl rfl (by omega) (by omega)) ?_ | refine WL.gyes rfl rfl rfl rfl (Yld.shl rfl rfl (by omega)) ?_ | refine WL.gyes rfl rfl rfl rfl (Yld.shr rfl rfl (by omega)) ?_ | refine WL.gyes rfl rfl rfl rfl (Yld.pure tab_ok rfl) ?_ | refine WL.gyes rfl rfl rfl rfl (Yld.fld flds_ok rfl rfl rfl) ?_ | refine WL.gyes rfl rfl rfl rfl (Yld.max2 rfl rfl) ?_ | refine WL.gyes rfl rfl rfl rfl (Yld.min2 rfl rfl) ?_ | refine WL.gyes rfl rfl rfl rfl (Yld.pickV rfl rfl rfl) ?_ | refine WL.gun rfl rfl rfl rfl ?_)
  refine WL.lit tab_ok rfl rfl rfl (all1c (ErrR.one hE0) (all1c (ErrR.one hE1) (all1c (ErrR.one hE2) (all1c (ErrR.one hE3) (all1c (ErrR.one hE4) (all1c (ErrR.one hE5) (all1c (ErrR.one hE6) (all1c (ErrR.one hE7) (all1c (ErrR.one hE8) (all1c (ErrR.one hE9) (all1c (ErrR.one hE10) (all1c (ErrR.one hE11) (all1c (ErrR.one hE12) (all1c (ErrR.one hE13) (all1c (ErrR.one hE14) (all1c (ErrR.one hE15) (all1c (ErrR.one hE16) all1n))))))))))))))))) rfl (by omega) (fun g w' hB hg hl => ?_)
  repeat (first | refine WC.seq ?_ | refine WC.block ?_ | refine WC.region ?_ | refine WL.nil ?_ | refine WX.then_normal ?_ | refine WC.skip ?_ | refine WC.exit ?_ | refine WC.ret ?_ | refine WX.then_exit ?_ | refine WX.then_ret ?_ | refine WX.block_normal ?_ | refine WX.block_ret ?_ | refine WX.block_same ?_ | refine WX.block_other rfl ?_ | refine WC.label ?_ | refine WC.scope ?_ | refine WX.scope_normal ?_ | refine WX.scope_ret ?_ | refine WX.scope_exit ?_ | refine WL.y rfl (Yld.add rfl rfl (by simp only [In]; omega)) ?_ | refine WL.y rfl (Yld.sub rfl rfl (by simp only [In]; omega)) ?_ | refine WL.y rfl (Yld.mul rfl rfl (by simp only [In]; omega)) ?_ | refine WL.y rfl (Yld.convB tab_ok rfl rfl rfl rfl) ?_ | refine WL.y rfl (Yld.conv tab_ok rfl rfl rfl (by simp only [In]; omega)) ?_ | refine WL.y rfl (Yld.quo rfl rfl (by omega) (by omega) (by simp only [In]; omega)) ?_ | refine WL.y rfl (Yld.rem rfl rfl (by omega) (by omega)) ?_ | refine WL.y rfl (Yld.shl rfl rfl (by omega)) ?_ | refine WL.y rfl (Yld.shr rfl rfl (by omega)) ?_ | refine WL.y rfl (Yld.pure tab_ok rfl) ?_ | refine WL.y rfl (Yld.fld flds_ok rfl rfl rfl) ?_ | refine WL.y rfl (Yld.max2 rfl rfl) ?_ | refine WL.y rfl (Yld.min2 rfl rfl) ?_ | refine WL.y rfl (Yld.pickV rfl rfl rfl) ?_ | refine WL.gno rfl rfl rfl rfl ?_ | refine WL.gyes rfl rfl rfl rfl (Yld.add rfl rfl (by simp only [In]; omega)) ?_ | refine WL.gyes rfl rfl rfl rfl (Yld.sub rfl rfl (by simp only [In]; omega)) ?_ | refine WL.gyes rfl rfl rfl rfl (Yld.mul rfl rfl (by simp only [In]; omega)) ?_ | refine WL.gyes rfl rfl rfl rfl (Yld.convB tab_ok rfl rfl rfl rfl) ?_ | refine WL.gyes rfl rfl rfl rfl (Yld.conv tab_ok rfl rfl rfl (by simp only [In]; omega)) ?_ | refine WL.gyes rfl rfl rfl rfl (Yld.quo rfl rfl (by omega) (by omega) (by simp only [In]; omega)) ?_ | refine WL.gyes rfl rfl rfl rfl (Yld.rem rfl rfl (by omega) (by omega)) ?_ | refine WL.gyes rfl rfl rfl rfl (Yld.shl rfl rfl (by omega)) ?_ | refine WL.gyes rfl rfl rfl rfl (Yld.shr rfl rfl (by omega)) ?_ | refine WL.gyes rfl rfl rfl rfl (Yld.pure tab_ok rfl) ?_ | refine WL.gyes rfl rfl rfl rfl (Yld.fld flds_ok rfl rfl rfl) ?_ | refine WL.gyes rfl rfl rfl rfl (Yld.max2 rfl rfl) ?_ | refine WL.gyes rfl rfl rfl rfl (Yld.min2 rfl rfl) ?_ | refine WL.gyes rfl rfl rfl rfl (Yld.pickV rfl rfl rfl) ?_ | refine WL.gun rfl rfl rfl rfl ?_)
  refine WX.ret1 rfl rfl ⟨hg, g, _, rfl, hB, rfl, fun n hn => ?_⟩
  match n, hn with
  | 0, _ => exact hE0.grown hg
  | 1, _ => exact hE1.grown hg
  | 2, _ => exact hE2.grown hg
  | 3, _ => exact hE3.grown hg
  | 4, _ => exact hE4.grown hg
  | 5, _ => exact hE5.grown hg
  | 6, _ => exact hE6.grown hg
  | 7, _ => exact hE7.grown hg
  | 8, _ => exact hE8.grown hg
  | 9, _ => exact hE9.grown hg
  | 10, _ => exact hE10.grown hg
  | 11, _ => exact hE11.grown hg
  | 12, _ => exact hE12.grown hg
  | 13, _ => exact hE13.grown hg
  | 14, _ => exact hE14.grown hg
  | 15, _ => exact hE15.grown hg
  | 16, _ => exact hE16.grown hg
  | n + 17, hn => omega
def sentV : Er → Int
  | .ok => -1
  | .e n => 101 + n
  | .at_ _ _ => -1
def M_smithysee_sentinel (e : Er) (K : Int → Prop) : Prop := K (sentV e)
theorem W_smithysee_sentinel {S : List Nat} {w : World} {v : Value} {e : Er} {K : Int → Prop} (hG : GOK S w) (hS0 : 0 ∈ S) (hS1 : 1 ∈ S) (hS2 : 2 ∈ S) (hS3 : 3 ∈ S) (hS4 : 4 ∈ S) (hS5 : 5 ∈ S) (hS6 : 6 ∈ S) (hS7 : 7 ∈ S) (hS8 : 8 ∈ S) (hS9 : 9 ∈ S) (hS10 : 10 ∈ S) (hS11 : 11 ∈ S) (hS12 : 12 ∈ S) (hS13 : 13 ∈ S) (hS14 : 14 ∈ S) (hS15 : 15 ∈ S) (hS16 : 16 ∈ S) (hE : ErrR S w v e) (H : M_smithysee_sentinel e K) : Fn Tryd.prog 157 ⟨[v]⟩ w (fun r w' => w.grownBy w' none ∧ ∃ n : Int, r = .int .i64 n ∧ K n) := by
  have hS : ∀ n, n < 17 → n ∈ S := fun n hn => by
    match n, hn with
    | 0, _ => exact hS0
    | 1, _ => exact hS1
    | 2, _ => exact hS2
    | 3, _ => exact hS3
    | 4, _ => exact hS4
    | 5, _ => exact hS5
    | 6, _ => exact hS6
    | 7, _ => exact hS7
    | 8, _ => exact hS8
    | 9, _ => exact hS9
    | 10, _ => exact hS10
    | 11, _ => exact hS11
    | 12, _ => exact hS12
    | 13, _ => exact hS13
    | 14, _ => exact hS14
    | 15, _ => exact hS15
    | 16, _ => exact hS16
    | n + 17, hn => omega
  unfold M_smithysee_sentinel at H
  refine Fn.enter (by kernel_rfl) Tryd.func157 rfl Tryd.ntmps157 rfl ?_
  repeat (first | refine WC.seq ?_ | refine WC.block ?_ | refine WC.region ?_ | refine WL.nil ?_ | refine WX.then_normal ?_ | refine WC.skip ?_ | refine WC.exit ?_ | refine WC.ret ?_ | refine WX.then_exit ?_ | refine WX.then_ret ?_ | refine WX.block_normal ?_ | refine WX.block_ret ?_ | refine WX.block_same ?_ | refine WX.block_other rfl ?_ | refine WC.label ?_ | refine WC.scope ?_ | refine WX.scope_normal ?_ | refine WX.scope_ret ?_ | refine WX.scope_exit ?_ | refine WL.y rfl (Yld.add rfl rfl (by simp only [In]; omega)) ?_ | refine WL.y rfl (Yld.sub rfl rfl (by simp only [In]; omega)) ?_ | refine WL.y rfl (Yld.mul rfl rfl (by simp only [In]; omega)) ?_ | refine WL.y rfl (Yld.convB tab_ok rfl rfl rfl rfl) ?_ | refine WL.y rfl (Yld.conv tab_ok rfl rfl rfl (by simp only [In]; omega)) ?_ | refine WL.y rfl (Yld.quo rfl rfl (by omega) (by omega) (by simp only [In]; omega)) ?_ | refine WL.y rfl (Yld.rem rfl rfl (by omega) (by omega)) ?_ | refine WL.y rfl (Yld.shl rfl rfl (by omega)) ?_ | refine WL.y rfl (Yld.shr rfl rfl (by omega)) ?_ | refine WL.y rfl (Yld.pure tab_ok rfl) ?_ | refine WL.y rfl (Yld.fld flds_ok rfl rfl rfl) ?_ | refine WL.y rfl (Yld.max2 rfl rfl) ?_ | refine WL.y rfl (Yld.min2 rfl rfl) ?_ | refine WL.y rfl (Yld.pickV rfl rfl rfl) ?_ | refine WL.gno rfl rfl rfl rfl ?_ | refine WL.gyes rfl rfl rfl rfl (Yld.add rfl rfl (by simp only [In]; omega)) ?_ | refine WL.gyes rfl rfl rfl rfl (Yld.sub rfl rfl (by simp only [In]; omega)) ?_ | refine WL.gyes rfl rfl rfl rfl (Yld.mul rfl rfl (by simp only [In]; omega)) ?_ | refine WL.gyes rfl rfl rfl rfl (Yld.convB tab_ok rfl rfl rfl rfl) ?_ | refine WL.gyes rfl rfl rfl rfl (Yld.conv tab_ok rfl rfl rfl (by simp only [In]; omega)) ?_ | refine WL.gyes rfl rfl rfl rfl (Yld.quo rfl rfl (by omega) (by omega) (by simp only [In]; omega)) ?_ | refine WL.gyes rfl rfl rfl rfl (Yld.rem rfl rfl (by omega) (by omega)) ?_ | refine WL.gyes rfl rfl rfl rfl (Yld.shl rfl rfl (by omega)) ?_ | refine WL.gyes rfl rfl rfl rfl (Yld.shr rfl rfl (by omega)) ?_ | refine WL.gyes rfl rfl rfl rfl (Yld.pure tab_ok rfl) ?_ | refine WL.gyes rfl rfl rfl rfl (Yld.fld flds_ok rfl rfl rfl) ?_ | refine WL.gyes rfl rfl rfl rfl (Yld.max2 rfl rfl) ?_ | refine WL.gyes rfl rfl rfl rfl (Yld.min2 rfl rfl) ?_ | refine WL.gyes rfl rfl rfl rfl (Yld.pickV rfl rfl rfl) ?_ | refine WL.gun rfl rfl rfl rfl ?_)
  refine WL.call rfl rfl (sentinels_fn hG hS) ?_
  rintro _ w1 ⟨hg1, g, us, rfl, hB, hlen, hus⟩
  have hR := Rd.ofBlV hB hlen (by simp [maxLen])
  have hE1 := hE.grown hg1
  repeat (first | refine WC.seq ?_ | refine WC.block ?_ | refine WC.region ?_ | refine WL.nil ?_ | refine WX.then_normal ?_ | refine WC.skip ?_ | refine WC.exit ?_ | refine WC.ret ?_ | refine WX.then_exit ?_ | refine WX.then_ret ?_ | refine WX.block_normal ?_ | refine WX.block_ret ?_ | refine WX.block_same ?_ | refine WX.block_other rfl ?_ | refine WC.label ?_ | refine WC.scope ?_ | refine WX.scope_normal ?_ | refine WX.scope_ret ?_ | refine WX.scope_exit ?_ | refine WL.y rfl (Yld.add rfl rfl (by simp only [In]; omega)) ?_ | refine WL.y rfl (Yld.sub rfl rfl (by simp only [In]; omega)) ?_ | refine WL.y rfl (Yld.mul rfl rfl (by simp only [In]; omega)) ?_ | refine WL.y rfl (Yld.convB tab_ok rfl rfl rfl rfl) ?_ | refine WL.y rfl (Yld.conv tab_ok rfl rfl rfl (by simp only [In]; omega)) ?_ | refine WL.y rfl (Yld.quo rfl rfl (by omega) (by omega) (by simp only [In]; omega)) ?_ | refine WL.y rfl (Yld.rem rfl rfl (by omega) (by omega)) ?_ | refine WL.y rfl (Yld.shl rfl rfl (by omega)) ?_ | refine WL.y rfl (Yld.shr rfl rfl (by omega)) ?_ | refine WL.y rfl (Yld.pure tab_ok rfl) ?_ | refine WL.y rfl (Yld.fld flds_ok rfl rfl rfl) ?_ | refine WL.y rfl (Yld.max2 rfl rfl) ?_ | refine WL.y rfl (Yld.min2 rfl rfl) ?_ | refine WL.y rfl (Yld.pickV rfl rfl rfl) ?_ | refine WL.gno rfl rfl rfl rfl ?_ | refine WL.gyes rfl rfl rfl rfl (Yld.add rfl rfl (by simp only [In]; omega)) ?_ | refine WL.gyes rfl rfl rfl rfl (Yld.sub rfl rfl (by simp only [In]; omega)) ?_ | refine WL.gyes rfl rfl rfl rfl (Yld.mul rfl rfl (by simp only [In]; omega)) ?_ | refine WL.gyes rfl rfl rfl rfl (Yld.convB tab_ok rfl rfl rfl rfl) ?_ | refine WL.gyes rfl rfl rfl rfl (Yld.conv tab_ok rfl rfl rfl (by simp only [In]; omega)) ?_ | refine WL.gyes rfl rfl rfl rfl (Yld.quo rfl rfl (by omega) (by omega) (by simp only [In]; omega)) ?_ | refine WL.gyes rfl rfl rfl rfl (Yld.rem rfl rfl (by omega) (by omega)) ?_ | refine WL.gyes rfl rfl rfl rfl (Yld.shl rfl rfl (by omega)) ?_ | refine WL.gyes rfl rfl rfl rfl (Yld.shr rfl rfl (by omega)) ?_ | refine WL.gyes rfl rfl rfl rfl (Yld.pure tab_ok rfl) ?_ | refine WL.gyes rfl rfl rfl rfl (Yld.fld flds_ok rfl rfl rfl) ?_ | refine WL.gyes rfl rfl rfl rfl (Yld.max2 rfl rfl) ?_ | refine WL.gyes rfl rfl rfl rfl (Yld.min2 rfl rfl) ?_ | refine WL.gyes rfl rfl rfl rfl (Yld.pickV rfl rfl rfl) ?_ | refine WL.gun rfl rfl rfl rfl ?_)
  refine WC.loopF (fun n' L' w' => ∃ i : Nat, n' = 17 - i ∧ L' = [(4, vi i), (3, .slice (some ⟨g, 0, none⟩) 17 17), (0, v)] ∧ i ≤ 17 ∧ (∀ j, j < i → e ≠ .e j) ∧ w1 = w') _ _ ⟨0, rfl, rfl, by omega, fun j hj => by omega, rfl⟩ (by repeat (first | exact Sub.nil | refine Sub.cons rfl ?_)) ?_
  rintro _ _ _ ⟨i, rfl, rfl, hi, hne, rfl⟩
  repeat (first | refine WC.seq ?_ | refine WC.block ?_ | refine WC.region ?_ | refine WL.nil ?_ | refine WX.then_normal ?_ | refine WC.skip ?_ | refine WC.exit ?_ | refine WC.ret ?_ | refine WX.then_exit ?_ | refine WX.then_ret ?_ | refine WX.block_normal ?_ | refine WX.block_ret ?_ | refine WX.block_same ?_ | refine WX.block_other rfl ?_ | refine WC.label ?_ | refine WC.scope ?_ | refine WX.scope_normal ?_ | refine WX.scope_ret ?_ | refine WX.scope_exit ?_ | refine WL.y rfl (Yld.add rfl rfl (by simp only [In]; omega)) ?_ | refine WL.y rfl (Yld.sub rfl rfl (by simp only [In]; omega)) ?_ | refine WL.y rfl (Yld.mul rfl rfl (by simp only [In]; omega)) ?_ | refine WL.y rfl (Yld.convB tab_ok rfl rfl rfl rfl) ?_ | refine WL.y rfl (Yld.conv tab_ok rfl rfl rfl (by simp only [In]; omega)) ?_ | refine WL.y rfl (Yld.quo rfl rfl (by omega) (by omega) (by simp only [In]; omega)) ?_ | refine WL.y rfl (Yld.rem rfl rfl (by omega) (by omega)) ?_ | refine WL.y rfl (Yld.shl rfl rfl (by omega)) ?_ | refine WL.y rfl (Yld.shr rfl rfl (by omega)) ?_ | refine WL.y rfl (Yld.pure tab_ok rfl) ?_ | refine WL.y rfl (Yld.fld flds_ok rfl rfl rfl) ?_ | refine WL.y rfl (Yld.max2 rfl rfl) ?_ | refine WL.y rfl (Yld.min2 rfl rfl) ?_ | refine WL.y rfl (Yld.pickV rfl rfl rfl) ?_ | refine WL.gno rfl rfl rfl rfl ?_ | refine WL.gyes rfl rfl rfl rfl (Yld.add rfl rfl (by simp only [In]; omega)) ?_ | refine WL.gyes rfl rfl rfl rfl (Yld.sub rfl rfl (by simp only [In]; omega)) ?_ | refine WL.gyes rfl rfl rfl rfl (Yld.mul rfl rfl (by simp only [In]; omega)) ?_ | refine WL.gyes rfl rfl rfl rfl (Yld.convB tab_ok rfl rfl rfl rfl) ?_ | refine WL.gyes rfl rfl rfl rfl (Yld.conv tab_ok rfl rfl rfl (by simp only [In]; omega)) ?_ | refine WL.gyes rfl rfl rfl rfl (Yld.quo rfl rfl (by omega) (by omega) (by simp only [In]; omega)) ?_ | refine WL.gyes rfl rfl rfl rfl (Yld.rem rfl rfl (by omega) (by omega)) ?_ | refine WL.gyes rfl rfl rfl rfl (Yld.shl rfl rfl (by omega)) ?_ | refine WL.gyes rfl rfl rfl rfl (Yld.shr rfl rfl (by omega)) ?_ | refine WL.gyes rfl rfl rfl rfl (Yld.pure tab_ok rfl) ?_ | refine WL.gyes rfl rfl rfl rfl (Yld.fld flds_ok rfl rfl rfl) ?_ | refine WL.gyes rfl rfl rfl rfl (Yld.max2 rfl rfl) ?_ | refine WL.gyes rfl rfl rfl rfl (Yld.min2 rfl rfl) ?_ | refine WL.gyes rfl rfl rfl rfl (Yld.pickV rfl rfl rfl) ?_ | refine WL.gun rfl rfl rfl rfl ?_)
  refine WC.cond rfl (fun h => ?_) (fun h => ?_)
  · simp only [decide_eq_true_eq] at h
    have hi' : i < 17 := by omega
    repeat (first | refine WL.y rfl (Yld.iaddrN tab_ok hR rfl rfl hlen.symm rfl (by omega)) ?_ | refine WL.y rfl (Yld.iload .nilIface tab_ok hR rfl rfl (by omega)) ?_ | refine WC.seq ?_ | refine WC.block ?_ | refine WC.region ?_ | refine WL.nil ?_ | refine WX.then_normal ?_ | refine WC.skip ?_ | refine WC.exit ?_ | refine WC.ret ?_ | refine WX.then_exit ?_ | refine WX.then_ret ?_ | refine WX.block_normal ?_ | refine WX.block_ret ?_ | refine WX.block_same ?_ | refine WX.block_other rfl ?_ | refine WC.label ?_ | refine WC.scope ?_ | refine WX.scope_normal ?_ | refine WX.scope_ret ?_ | refine WX.scope_exit ?_ | refine WL.y rfl (Yld.add rfl rfl (by simp only [In]; omega)) ?_ | refine WL.y rfl (Yld.sub rfl rfl (by simp only [In]; omega)) ?_ | refine WL.y rfl (Yld.mul rfl rfl (by simp only [In]; omega)) ?_ | refine WL.y rfl (Yld.convB tab_ok rfl rfl rfl rfl) ?_ | refine WL.y rfl (Yld.conv tab_ok rfl rfl rfl (by simp only [In]; omega)) ?_ | refine WL.y rfl (Yld.quo rfl rfl (by omega) (by omega) (by simp only [In]; omega)) ?_ | refine WL.y rfl (Yld.rem rfl rfl (by omega) (by omega)) ?_ | refine WL.y rfl (Yld.shl rfl rfl (by omega)) ?_ | refine WL.y rfl (Yld.shr rfl rfl (by omega)) ?_ | refine WL.y rfl (Yld.pure tab_ok rfl) ?_ | refine WL.y rfl (Yld.fld flds_ok rfl rfl rfl) ?_ | refine WL.y rfl (Yld.max2 rfl rfl) ?_ | refine WL.y rfl (Yld.min2 rfl rfl) ?_ | refine WL.y rfl (Yld.pickV rfl rfl rfl) ?_ | refine WL.gno rfl rfl rfl rfl ?_ | refine WL.gyes rfl rfl rfl rfl (Yld.add rfl rfl (by simp only [In]; omega)) ?_ | refine WL.gyes rfl rfl rfl rfl (Yld.sub rfl rfl (by simp only [In]; omega)) ?_ | refine WL.gyes rfl rfl rfl rfl (Yld.mul rfl rfl (by simp only [In]; omega)) ?_ | refine WL.gyes rfl rfl rfl rfl (Yld.convB tab_ok rfl rfl rfl rfl) ?_ | refine WL.gyes rfl rfl rfl rfl (Yld.conv tab_ok rfl rfl rfl (by simp only [In]; omega)) ?_ | refine WL.gyes rfl rfl rfl rfl (Yld.quo rfl rfl (by omega) (by omega) (by simp only [In]; omega)) ?_ | refine WL.gyes rfl rfl rfl rfl (Yld.rem rfl rfl (by omega) (by omega)) ?_ | refine WL.gyes rfl rfl rfl rfl (Yld.shl rfl rfl (by omega)) ?_ | refine WL.gyes rfl rfl rfl rfl (Yld.shr rfl rfl (by omega)) ?_ | refine WL.gyes rfl rfl rfl rfl (Yld.pure tab_ok rfl) ?_ | refine WL.gyes rfl rfl rfl rfl (Yld.fld flds_ok rfl rfl rfl) ?_ | refine WL.gyes rfl rfl rfl rfl (Yld.max2 rfl rfl) ?_ | refine WL.gyes rfl rfl rfl rfl (Yld.min2 rfl rfl) ?_ | refine WL.gyes rfl rfl rfl rfl (Yld.pickV rfl rfl rfl) ?_ | refine WL.gun rfl rfl rfl rfl ?_)
    refine WL.call rfl rfl (W_smithysee_Alike (K := fun b => b = decide (e = .e i)) hE1 (hus i hi') ?_) ?_
    · unfold M_smithysee_Alike
      cases e <;> simp
    rintro _ _ ⟨rfl, b, rfl, hb⟩
    subst hb
    refine WL.nil ?_
    repeat (first | refine WC.seq ?_ | refine WC.block ?_ | refine WC.region ?_ | refine WL.nil ?_ | refine WX.then_normal ?_ | refine WC.skip ?_ | refine WC.exit ?_ | refine WC.ret ?_ | refine WX.then_exit ?_ | refine WX.then_ret ?_ | refine WX.block_normal ?_ | refine WX.block_ret ?_ | refine WX.block_same ?_ | refine WX.block_other rfl ?_ | refine WC.label ?_ | refine WC.scope ?_ | refine WX.scope_normal ?_ | refine WX.scope_ret ?_ | refine WX.scope_exit ?_ | refine WL.y rfl (Yld.add rfl rfl (by simp only [In]; omega)) ?_ | refine WL.y rfl (Yld.sub rfl rfl (by simp only [In]; omega)) ?_ | refine WL.y rfl (Yld.mul rfl rfl (by simp only [In]; omega)) ?_ | refine WL.y rfl (Yld.convB tab_ok rfl rfl rfl rfl) ?_ | refine WL.y rfl (Yld.conv tab_ok rfl rfl rfl (by simp only [In]; omega)) ?_ | refine WL.y rfl (Yld.quo rfl rfl (by omega) (by omega) (by simp only [In]; omega)) ?_ | refine WL.y rfl (Yld.rem rfl rfl (by omega) (by omega)) ?_ | refine WL.y rfl (Yld.shl rfl rfl (by omega)) ?_ | refine WL.y rfl (Yld.shr rfl rfl (by omega)) ?_ | refine WL.y rfl (Yld.pure tab_ok rfl) ?_ | refine WL.y rfl (Yld.fld flds_ok rfl rfl rfl) ?_ | refine WL.y rfl (Yld.max2 rfl rfl) ?_ | refine WL.y rfl (Yld.min2 rfl rfl) ?_ | refine WL.y rfl (Yld.pickV rfl rfl rfl) ?_ | refine WL.gno rfl rfl rfl rfl ?_ | refine WL.gyes rfl rfl rfl rfl (Yld.add rfl rfl (by simp only [In]; omega)) ?_ | refine WL.gyes rfl rfl rfl rfl (Yld.sub rfl rfl (by simp only [In]; omega)) ?_ | refine WL.gyes rfl rfl rfl rfl (Yld.mul rfl rfl (by simp only [In]; omega)) ?_ | refine WL.gyes rfl rfl rfl rfl (Yld.convB tab_ok rfl rfl rfl rfl) ?_ | refine WL.gyes rfl rfl rfl rfl (Yld.conv tab_ok rfl rfl rfl (by simp only [In]; omega)) ?_ | refine WL.gyes rfl rfl rfl rfl (Yld.quo rfl rfl (by omega) (by omega) (by simp only [In]; omega)) ?_ | refine WL.gyes rfl rfl rfl rfl (Yld.rem rfl rfl (by omega) (by omega)) ?_ | refine WL.gyes rfl rfl rfl rfl (Yld.shl rfl rfl (by omega)) ?_ | refine WL.gyes rfl rfl rfl rfl (Yld.shr rfl rfl (by omega)) ?_ | refine WL.gyes rfl rfl rfl rfl (Yld.pure tab_ok rfl) ?_ | refine WL.gyes rfl rfl rfl rfl (Yld.fld flds_ok rfl rfl rfl) ?_ | refine WL.gyes rfl rfl rfl rfl (Yld.max2 rfl rfl) ?_ | refine WL.gyes rfl rfl rfl rfl (Yld.min2 rfl rfl) ?_ | refine WL.gyes rfl rfl rfl rfl (Yld.pickV rfl rfl rfl) ?_ | refine WL.gun rfl rfl rfl rfl ?_)
    refine WC.cond rfl (fun h2 => ?_) (fun h2 => ?_)
    · have h3 : e = .e i := of_decide_eq_true h2
      subst h3
      repeat (first | refine WC.seq ?_ | refine WC.block ?_ | refine WC.region ?_ | refine WL.nil ?_ | refine WX.then_normal ?_ | refine WC.skip ?_ | refine WC.exit ?_ | refine WC.ret ?_ | refine WX.then_exit ?_ | refine WX.then_ret ?_ | refine WX.block_normal ?_ | refine WX.block_ret ?_ | refine WX.block_same ?_ | refine WX.block_other rfl ?_ | refine WC.label ?_ | refine WC.scope ?_ | refine WX.scope_normal ?_ | refine WX.scope_ret ?_ | refine WX.scope_exit ?_ | refine WL.y rfl (Yld.add rfl rfl (by simp only [In]; omega)) ?_ | refine WL.y rfl (Yld.sub rfl rfl (by simp only [In]; omega)) ?_ | refine WL.y rfl (Yld.mul rfl rfl (by simp only [In]; omega)) ?_ | refine WL.y rfl (Yld.convB tab_ok rfl rfl rfl rfl) ?_ | refine WL.y rfl (Yld.conv tab_ok rfl rfl rfl (by simp only [In]; omega)) ?_ | refine WL.y rfl (Yld.quo rfl rfl (by omega) (by omega) (by simp only [In]; omega)) ?_ | refine WL.y rfl (Yld.rem rfl rfl (by omega) (by omega)) ?_ | refine WL.y rfl (Yld.shl rfl rfl (by omega)) ?_ | refine WL.y rfl (Yld.shr rfl rfl (by omega)) ?_ | refine WL.y rfl (Yld.pure tab_ok rfl) ?_ | refine WL.y rfl (Yld.fld flds_ok rfl rfl rfl) ?_ | refine WL.y rfl (Yld.max2 rfl rfl) ?_ | refine WL.y rfl (Yld.min2 rfl rfl) ?_ | refine WL.y rfl (Yld.pickV rfl rfl rfl) ?_ | refine WL.gno rfl rfl rfl rfl ?_ | refine WL.gyes rfl rfl rfl rfl (Yld.add rfl rfl (by simp only [In]; omega)) ?_ | refine WL.gyes rfl rfl rfl rfl (Yld.sub rfl rfl (by simp only [In]; omega)) ?_ | refine WL.gyes rfl rfl rfl rfl (Yld.mul rfl rfl (by simp only [In]; omega)) ?_ | refine WL.gyes rfl rfl rfl rfl (Yld.convB tab_ok rfl rfl rfl rfl) ?_ | refine WL.gyes rfl rfl rfl rfl (Yld.conv tab_ok rfl rfl rfl (by simp only [In]; omega)) ?_ | refine WL.gyes rfl rfl rfl rfl (Yld.quo rfl rfl (by omega) (by omega) (by simp only [In]; omega)) ?_ | refine WL.gyes rfl rfl rfl rfl (Yld.rem rfl rfl (by omega) (by omega)) ?_ | refine WL.gyes rfl rfl rfl rfl (Yld.shl rfl rfl (by omega)) ?_ | refine WL.gyes rfl rfl rfl rfl (Yld.shr rfl rfl (by omega)) ?_ | refine WL.gyes rfl rfl rfl rfl (Yld.pure tab_ok rfl) ?_ | refine WL.gyes rfl rfl rfl rfl (Yld.fld flds_ok rfl rfl rfl) ?_ | refine WL.gyes rfl rfl rfl rfl (Yld.max2 rfl rfl) ?_ | refine WL.gyes rfl rfl rfl rfl (Yld.min2 rfl rfl) ?_ | refine WL.gyes rfl rfl rfl rfl (Yld.pickV rfl rfl rfl) ?_ | refine WL.gun rfl rfl rfl rfl ?_)
      exact WX.ret1 rfl rfl ⟨hg1, _, rfl, H⟩
    · have h3 : e ≠ .e i := of_decide_eq_false h2
      repeat (first | refine WC.seq ?_ | refine WC.block ?_ | refine WC.region ?_ | refine WL.nil ?_ | refine WX.then_normal ?_ | refine WC.skip ?_ | refine WC.exit ?_ | refine WC.ret ?_ | refine WX.then_exit ?_ | refine WX.then_ret ?_ | refine WX.block_normal ?_ | refine WX.block_ret ?_ | refine WX.block_same ?_ | refine WX.block_other rfl ?_ | refine WC.label ?_ | refine WC.scope ?_ | refine WX.scope_normal ?_ | refine WX.scope_ret ?_ | refine WX.scope_exit ?_ | refine WL.y rfl (Yld.add rfl rfl (by simp only [In]; omega)) ?_ | refine WL.y rfl (Yld.sub rfl rfl (by simp only [In]; omega)) ?_ | refine WL.y rfl (Yld.mul rfl rfl (by simp only [In]; omega)) ?_ | refine WL.y rfl (Yld.convB tab_ok rfl rfl rfl rfl) ?_ | refine WL.y rfl (Yld.conv tab_ok rfl rfl rfl (by simp only [In]; omega)) ?_ | refine WL.y rfl (Yld.quo rfl rfl (by omega) (by omega) (by simp only [In]; omega)) ?_ | refine WL.y rfl (Yld.rem rfl rfl (by omega) (by omega)) ?_ | refine WL.y rfl (Yld.shl rfl rfl (by omega)) ?_ | refine WL.y rfl (Yld.shr rfl rfl (by omega)) ?_ | refine WL.y rfl (Yld.pure tab_ok rfl) ?_ | refine WL.y rfl (Yld.fld flds_ok rfl rfl rfl) ?_ | refine WL.y rfl (Yld.max2 rfl rfl) ?_ | refine WL.y rfl (Yld.min2 rfl rfl) ?_ | refine WL.y rfl (Yld.pickV rfl rfl rfl) ?_ | refine WL.gno rfl rfl rfl rfl ?_ | refine WL.gyes rfl rfl rfl rfl (Yld.add rfl rfl (by simp only [In]; omega)) ?_ | refine WL.gyes rfl rfl rfl rfl (Yld.sub rfl rfl (by simp only [In]; omega)) ?_ | refine WL.gyes rfl rfl rfl rfl (Yld.mul rfl rfl (by simp only [In]; omega)) ?_ | refine WL.gyes rfl rfl rfl rfl (Yld.convB tab_ok rfl rfl rfl rfl) ?_ | refine WL.gyes rfl rfl rfl rfl (Yld.conv tab_ok rfl rfl rfl (by simp only [In]; omega)) ?_ | refine WL.gyes rfl rfl rfl rfl (Yld.quo rfl rfl (by omega) (by omega) (by simp only [In]; omega)) ?_ | refine WL.gyes rfl rfl rfl rfl (Yld.rem rfl rfl (by omega) (by omega)) ?_ | refine WL.gyes rfl rfl rfl rfl (Yld.shl rfl rfl (by omega)) ?_ | refine WL.gyes rfl rfl rfl rfl (Yld.shr rfl rfl (by omega)) ?_ | refine WL.gyes rfl rfl rfl rfl (Yld.pure tab_ok rfl) ?_ | refine WL.gyes rfl rfl rfl rfl (Yld.fld flds_ok rfl rfl rfl) ?_ | refine WL.gyes rfl rfl rfl rfl (Yld.max2 rfl rfl) ?_ | refine WL.gyes rfl rfl rfl rfl (Yld.min2 rfl rfl) ?_ | refine WL.gyes rfl rfl rfl rfl (Yld.pickV rfl rfl rfl) ?_ | refine WL.gun rfl rfl rfl rfl ?_)
      refine WX.roundF _ ⟨i + 1, rfl, rfl, by omega, fun j hj => ?_, rfl⟩ (by repeat (first | exact Sub.nil | refine Sub.cons rfl ?_)) (by omega)
      rcases Nat.lt_or_ge j i with hji | hji
      · exact hne j hji
      · obtain rfl : j = i := by omega
        exact h3
  · simp only [decide_eq_false_iff_not] at h
    repeat (first | refine WC.seq ?_ | refine WC.block ?_ | refine WC.region ?_ | refine WL.nil ?_ | refine WX.then_normal ?_ | refine WC.skip ?_ | refine WC.exit ?_ | refine WC.ret ?_ | refine WX.then_exit ?_ | refine WX.then_ret ?_ | refine WX.block_normal ?_ | refine WX.block_ret ?_ | refine WX.block_same ?_ | refine WX.block_other rfl ?_ | refine WC.label ?_ | refine WC.scope ?_ | refine WX.scope_normal ?_ | refine WX.scope_ret ?_ | refine WX.scope_exit ?_ | refine WL.y rfl (Yld.add rfl rfl (by simp only [In]; omega)) ?_ | refine WL.y rfl (Yld.sub rfl rfl (by simp only [In]; omega)) ?_ | refine WL.y rfl (Yld.mul rfl rfl (by simp only [In]; omega)) ?_ | refine WL.y rfl (Yld.convB tab_ok rfl rfl rfl rfl) ?_ | refine WL.y rfl (Yld.conv tab_ok rfl rfl rfl (by simp only [In]; omega)) ?_ | refine WL.y rfl (Yld.quo rfl rfl (by omega) (by omega) (by simp only [In]; omega)) ?_ | refine WL.y rfl (Yld.rem rfl rfl (by omega) (by omega)) ?_ | refine WL.y rfl (Yld.shl rfl rfl (by omega)) ?_ | refine WL.y rfl (Yld.shr rfl rfl (by omega)) ?_ | refine WL.y rfl (Yld.pure tab_ok rfl) ?_ | refine WL.y rfl (Yld.fld flds_ok rfl rfl rfl) ?_ | refine WL.y rfl (Yld.max2 rfl rfl) ?_ | refine WL.y rfl (Yld.min2 rfl rfl) ?_ | refine WL.y rfl (Yld.pickV rfl rfl rfl) ?_ | refine WL.gno rfl rfl rfl rfl ?_ | refine WL.gyes rfl rfl rfl rfl (Yld.add rfl rfl (by simp only [In]; omega)) ?_ | refine WL.gyes rfl rfl rfl rfl (Yld.sub rfl rfl (by simp only [In]; omega)) ?_ | refine WL.gyes rfl rfl rfl rfl (Yld.mul rfl rfl (by simp only [In]; omega)) ?_ | refine WL.gyes rfl rfl rfl rfl (Yld.convB tab_ok rfl rfl rfl rfl) ?_ | refine WL.gyes rfl rfl rfl rfl (Yld.conv tab_ok rfl rfl rfl (by simp only [In]; omega)) ?_ | refine WL.gyes rfl rfl rfl rfl (Yld.quo rfl rfl (by omega) (by omega) (by simp only [In]; omega)) ?_ | refine WL.gyes rfl rfl rfl rfl (Yld.rem rfl rfl (by omega) (by omega)) ?_ | refine WL.gyes rfl rfl rfl rfl (Yld.shl rfl rfl (by omega)) ?_ | refine WL.gyes rfl rfl rfl rfl (Yld.shr rfl rfl (by omega)) ?_ | refine WL.gyes rfl rfl rfl rfl (Yld.pure tab_ok rfl) ?_ | refine WL.gyes rfl rfl rfl rfl (Yld.fld flds_ok rfl rfl rfl) ?_ | refine WL.gyes rfl rfl rfl rfl (Yld.max2 rfl rfl) ?_ | refine WL.gyes rfl rfl rfl rfl (Yld.min2 rfl rfl) ?_ | refine WL.gyes rfl rfl rfl rfl (Yld.pickV rfl rfl rfl) ?_ | refine WL.gun rfl rfl rfl rfl ?_)
    refine WX.ret1 rfl rfl ⟨hg1, _, rfl, ?_⟩
    have : sentV e = -1 := by
      cases e with
      | e n =>
        by_cases hn : n < 17
        · exact absurd rfl (hne n (by omega))
        · exact absurd (ErV.lt hE.1) hn
      | ok => rfl
      | at_ p n => rfl
    rw [this] at H
    exact H
end Go.Proofs.YtcfljnfaakjdjaaDoor
 /- Printed by a program (wip/vg): what the functions mean, plainly, and their walks. -/
namespace Go.Proofs.YtcfljnfaakjdjaaDoor
open Go Go.RowKit
attribute [local irreducible] WL WC WX WQ WK WJ Yld Eff Ef0 Fn
def M_smithysee_placed (e : Er) (K : Int → Bool → Int → Bool → (List UInt8) → Prop) : Prop :=
 ((∀ (pos : Int) (n : Nat), e = Er.at_ pos n → (((false || (decide ((Er.e n) = Er.ok))) = true → M_smithyref_Bare (-1 : Int) (fun (t24_Code : Int) (t24_Placed : Bool) (t24_Pos : Int) (t24_Filed : Bool) (t24_File : List UInt8) =>
 K t24_Code t24_Placed t24_Pos t24_Filed t24_File)) ∧
 ((false || (decide ((Er.e n) = Er.ok))) = false → M_smithysee_sentinel (Er.e n) (fun (t29 : Int) =>
 M_smithyref_Placed t29 pos (fun (t34_Code : Int) (t34_Placed : Bool) (t34_Pos : Int) (t34_Filed : Bool) (t34_File : List UInt8) =>
 K t34_Code t34_Placed t34_Pos t34_Filed t34_File))))) ∧
 ((∀ p n, e ≠ Er.at_ p n) → M_smithysee_sentinel e (fun (t13 : Int) =>
 M_smithyref_Bare t13 (fun (t14_Code : Int) (t14_Placed : Bool) (t14_Pos : Int) (t14_Filed : Bool) (t14_File : List UInt8) =>
 K t14_Code t14_Placed t14_Pos t14_Filed t14_File))))

def M_smithysee_Fault (e : Er) (K : Int → Bool → Int → Bool → (List UInt8) → Prop) : Prop :=
 ((e = Er.ok → M_smithyref_None (fun (t8_Code : Int) (t8_Placed : Bool) (t8_Pos : Int) (t8_Filed : Bool) (t8_File : List UInt8) =>
 K t8_Code t8_Placed t8_Pos t8_Filed t8_File)) ∧
 (¬ (e = Er.ok) → M_smithysee_placed e (fun (t17_Code : Int) (t17_Placed : Bool) (t17_Pos : Int) (t17_Filed : Bool) (t17_File : List UInt8) =>
 K t17_Code t17_Placed t17_Pos t17_Filed t17_File)))

def M_smithysee_Same (e : Er) (f_Code : Int) (f_Placed : Bool) (f_Pos : Int) (f_Filed : Bool) (f_File : List UInt8) (K : Bool → Prop) : Prop :=
 M_smithysee_Fault e (fun (t6_Code : Int) (t6_Placed : Bool) (t6_Pos : Int) (t6_Filed : Bool) (t6_File : List UInt8) =>
 M_smithyref_SameFault t6_Code t6_Placed t6_Pos t6_Filed t6_File f_Code f_Placed f_Pos f_Filed f_File (fun (t4 : Bool) =>
 K t4))

def M_smithysee_Is (e : Er) (code : Int) (K : Bool → Prop) : Prop :=
 M_smithyref_Bare code (fun (t7_Code : Int) (t7_Placed : Bool) (t7_Pos : Int) (t7_Filed : Bool) (t7_File : List UInt8) =>
 M_smithysee_Same e t7_Code t7_Placed t7_Pos t7_Filed t7_File (fun (t4 : Bool) =>
 K t4))

set_option maxHeartbeats 8000000 in
theorem W_smithysee_placed {S : List Nat} {w : World} {v_e : Value} {e : Er} {K : Int → Bool → Int → Bool → (List UInt8) → Prop} (hG : GOK S w) (hS0 : 0 ∈ S) (hS1 : 1 ∈ S) (hS2 : 2 ∈ S) (hS3 : 3 ∈ S) (hS4 : 4 ∈ S) (hS5 : 5 ∈ S) (hS6 : 6 ∈ S) (hS7 : 7 ∈ S) (hS8 : 8 ∈ S) (hS9 : 9 ∈ S) (hS10 : 10 ∈ S) (hS11 : 11 ∈ S) (hS12 : 12 ∈ S) (hS13 : 13 ∈ S) (hS14 : 14 ∈ S) (hS15 : 15 ∈ S) (hS16 : 16 ∈ S) (he : ErrR S w v_e e) (H : M_smithysee_placed e K) : Fn Tryd.prog 124 ⟨[v_e]⟩ w (fun v w' => w.grownBy w' none ∧ ∃ (r_Code : Int), ∃ (r_Placed : Bool), ∃ (r_Pos : Int), ∃ (r_Filed : Bool), ∃ (r_File : List UInt8), v = .agg ⟨[.int .i64 r_Code, .bool r_Placed, .int .i64 r_Pos, .bool r_Filed, vs r_File]⟩ ∧ K r_Code r_Placed r_Pos r_Filed r_File) := by
  unfold M_smithysee_placed at H
  refine Fn.enter (by kernel_rfl) Tryd.func124 rfl Tryd.ntmps124 rfl ?_
  refine WC.seq ?_
  refine WC.region ?_
  refine WL.alloc rfl zero77 (fun g1 w1 hB1 hg1 hl1 => ?_)
  have gr1 := hg1
  refine WL.nil (WX.then_normal ?_)
  refine WC.seq ?_
  refine WC.region ?_
  refine WL.y rfl (Yld.pure tab_ok rfl) ?_
  rcases Er.atCases e with ⟨pos, n, he1⟩ | he1
  · replace H := H.1 pos n he1
    obtain ⟨b1, vE1, hv1, hB2, hE1⟩ := ErrR.atOut (he1 ▸ (he.grown gr1))
    refine WL.y rfl (Yld.assertYes Tryd.underlying83 rfl hv1) ?_
    refine WL.y rfl (Yld.pure tab_ok rfl) ?_
    refine WL.y rfl (Yld.pure tab_ok rfl) ?_
    refine WL.y rfl (Yld.pure tab_ok rfl) ?_
    refine WL.y rfl (Yld.pure tab_ok rfl) ?_
    refine WL.y rfl (Yld.pure tab_ok rfl) ?_
    refine WL.nil (WX.then_normal ?_)
    refine WC.seq ?_
    refine WC.seq ?_
    refine WC.region ?_
    refine WL.y rfl (Yld.pure tab_ok rfl) ?_
    refine WL.y rfl (Yld.pure tab_ok rfl) ?_
    refine WL.nil (WX.then_normal ?_)
    refine WC.cond rfl (fun h => by cases h) (fun _ => ?_)
    refine WC.skip (WX.then_normal ?_)
    refine WC.seq ?_
    refine WC.seq ?_
    refine WC.region ?_
    refine WL.y rfl (Yld.pure tab_ok rfl) ?_
    refine WL.y rfl (Yld.peqnil Tryd.underlying83 rfl rfl) ?_
    refine WL.y rfl (Yld.pure tab_ok rfl) ?_
    refine WL.midF 6 (fun L' w' => ∃ q1 : Bool, L' = [(23, .bool q1), (2, .pointer (some ⟨g1, 0, none⟩)), (3, .pointer (some ⟨b1, 0, none⟩))] ∧ q1 = (false || (decide ((Er.e n) = Er.ok))) ∧ w1 = w') ?_ (fun hQ => ?_)
    · rintro _ _ ⟨q1, rfl, rfl, rfl⟩
      refine WL.nil (WX.then_normal ?_)
      refine WC.cond rfl (fun b2 => ?_) (fun b2 => ?_)
      · replace H := H.1 (b2)
        refine WC.seq ?_
        refine WC.region ?_
        refine WL.call rfl rfl (W_smithyref_Bare H) ?_
        rintro _ w2 ⟨hg2, t24_Code, t24_Placed, t24_Pos, t24_Filed, t24_File, rfl, H⟩
        have gr2 := gr_trans gr1 hg2
        have k1 := hB1.g0 hg2
        refine WL.storeW (vs := [.int .i64 t24_Code, .bool t24_Placed, .int .i64 t24_Pos, .bool t24_Filed, vs t24_File]) tab_ok rfl rfl rfl (all1c rfl (all1c rfl (all1c rfl (all1c rfl (all1c rfl all1n))))) k1 rfl rfl (fun w3 hB3 hg3 => ?_)
        have gr3 := gr_mod gr2 hg3 (Ge.le (Ge.box hl1) (Nat.le_refl _))
        refine WL.nil (WX.then_normal ?_)
        refine WC.ret (WX.then_ret ?_)
        exact WX.retc tab_ok rfl rfl rfl hB3 rfl ⟨gr3, t24_Code, t24_Placed, t24_Pos, t24_Filed, t24_File, rfl, H⟩
      · replace H := H.2 (b2)
        refine WC.skip (WX.then_normal ?_)
        refine WC.seq ?_
        refine WC.chainF (fun k => !(Nat.beq k 4 || Nat.beq k 9 || Nat.beq k 10)) (LD [3, 8] (fun w' => Bl w' b1 85 [.int .i64 pos, vE1])) mixed (by kernel_rfl) (fun k w' h _ => (bl_eqv h hB2)) ?_
        refine WJ.y rfl rfl (fun w' hw' => Yld.pure tab_ok rfl) ?_
        refine WJ.y rfl rfl (fun w' hw' => Yld.pure tab_ok rfl) ?_
        refine WJ.y rfl rfl (fun w' hw' => Yld.pure tab_ok rfl) ?_
        refine WJ.y rfl rfl (fun w' hw' => Yld.bload tab_ok (hw' rfl) rfl rfl rfl) ?_
        refine WJ.call rfl (wants_none) rfl rfl (W_smithysee_sentinel (hG.grown gr1) hS0 hS1 hS2 hS3 hS4 hS5 hS6 hS7 hS8 hS9 hS10 hS11 hS12 hS13 hS14 hS15 hS16 hE1 H) (fun v w' h w2 e => DD.keep (Bl.g0 hB2 (gr_eqv h.1 e))) ?_
        rintro _ w4 ⟨hg4, t29, rfl, H⟩
        have gr4 := gr_trans gr1 hg4
        have k2 := hB1.g0 hg4
        have k3 := hE1.grown hg4
        have k4 := hB2.g0 hg4
        refine WJ.y rfl rfl (fun w' hw' => Yld.pure tab_ok rfl) ?_
        refine WJ.y rfl rfl (fun w' hw' => Yld.pure tab_ok rfl) ?_
        refine WJ.y rfl rfl (fun w' hw' => Yld.pure tab_ok rfl) ?_
        refine WJ.y rfl rfl (fun w' hw' => Yld.bload tab_ok (hw' rfl) rfl rfl rfl) ?_
        refine WJ.call rfl (wants_none) rfl rfl (W_smithyref_Placed H) (fun v w' h w2 e => DD.keep (Bl.g0 k4 (gr_eqv h.1 e))) ?_
        rintro _ w5 ⟨hg5, t34_Code, t34_Placed, t34_Pos, t34_Filed, t34_File, rfl, H⟩
        have gr5 := gr_trans gr4 hg5
        have k5 := k2.g0 hg5
        have k6 := k4.g0 hg5
        refine WJ.eff rfl (Ef0.storeW (vs := [.int .i64 t34_Code, .bool t34_Placed, .int .i64 t34_Pos, .bool t34_Filed, vs t34_File]) tab_ok rfl rfl rfl (all1c rfl (all1c rfl (all1c rfl (all1c rfl (all1c rfl all1n))))) k5 rfl rfl) (fun w' h => DD.past (by kernel_rfl)) ?_
        rintro w6 ⟨hB4, hg6⟩
        have gr6 := gr_mod gr5 hg6 (Ge.le (Ge.box hl1) (Nat.le_refl _))
        refine WJ.nil (WX.then_normal ?_)
        refine WC.ret ?_
        exact WX.retc tab_ok rfl rfl rfl hB4 rfl ⟨gr6, t34_Code, t34_Placed, t34_Pos, t34_Filed, t34_File, rfl, H⟩
    · clear H
      rcases Bool.eq_false_or_eq_true (false) with b3 | b3
      · refine WL.gno rfl rfl (okb b3) rfl ?_
        refine WL.gno rfl rfl (okb b3) rfl ?_
        refine WL.gno rfl rfl (okb b3) rfl ?_
        refine WL.gno rfl rfl (okb b3) rfl ?_
        refine WL.gno rfl rfl (okb b3) rfl ?_
        refine WL.y rfl (Yld.pickT (okb b3) rfl) ?_
        exact WL.weaken (by repeat (first | exact Sub.nil | refine Sub.cons rfl ?_)) (hQ _ _ ⟨true, rfl, by rw [b3] <;> rfl, rfl⟩)
      · refine WL.gyes rfl rfl (okb b3) rfl (Yld.pure tab_ok rfl) ?_
        refine WL.gyes rfl rfl (okb b3) rfl (Yld.pure tab_ok rfl) ?_
        refine WL.gyes rfl rfl (okb b3) rfl (Yld.pure tab_ok rfl) ?_
        refine WL.gyes rfl rfl (okb b3) rfl (Yld.bload tab_ok hB2 rfl rfl rfl) ?_
        refine WL.gyes rfl rfl (okb b3) rfl (Yld.erreql Tryd.underlying30 hE1 rfl) ?_
        refine WL.y rfl (Yld.pickF (okb b3) rfl) ?_
        exact WL.weaken (by repeat (first | exact Sub.nil | refine Sub.cons rfl ?_)) (hQ _ _ ⟨decide ((Er.e n) = Er.ok), rfl, by rw [b3] <;> rfl, rfl⟩)
  · replace H := H.2 he1
    refine WL.y rfl (Yld.assertNo Tryd.underlying83 (fun _ => by kernel_rfl) (he.grown gr1) rfl rfl (.inr he1)) ?_
    refine WL.y rfl (Yld.pure tab_ok rfl) ?_
    refine WL.y rfl (Yld.pure tab_ok rfl) ?_
    refine WL.y rfl (Yld.pure tab_ok rfl) ?_
    refine WL.y rfl (Yld.pure tab_ok rfl) ?_
    refine WL.y rfl (Yld.pure tab_ok rfl) ?_
    refine WL.nil (WX.then_normal ?_)
    refine WC.seq ?_
    refine WC.seq ?_
    refine WC.region ?_
    refine WL.y rfl (Yld.pure tab_ok rfl) ?_
    refine WL.y rfl (Yld.pure tab_ok rfl) ?_
    refine WL.nil (WX.then_normal ?_)
    refine WC.cond rfl (fun _ => ?_) (fun h => by cases h)
    refine WC.seq ?_
    refine WC.region ?_
    refine WL.y rfl (Yld.pure tab_ok rfl) ?_
    refine WL.call rfl rfl (W_smithysee_sentinel (hG.grown gr1) hS0 hS1 hS2 hS3 hS4 hS5 hS6 hS7 hS8 hS9 hS10 hS11 hS12 hS13 hS14 hS15 hS16 (he.grown gr1) H) ?_
    rintro _ w7 ⟨hg7, t13, rfl, H⟩
    have gr7 := gr_trans gr1 hg7
    have k8 := hB1.g0 hg7
    refine WL.call rfl rfl (W_smithyref_Bare H) ?_
    rintro _ w8 ⟨hg8, t14_Code, t14_Placed, t14_Pos, t14_Filed, t14_File, rfl, H⟩
    have gr8 := gr_trans gr7 hg8
    have k9 := k8.g0 hg8
    refine WL.storeW (vs := [.int .i64 t14_Code, .bool t14_Placed, .int .i64 t14_Pos, .bool t14_Filed, vs t14_File]) tab_ok rfl rfl rfl (all1c rfl (all1c rfl (all1c rfl (all1c rfl (all1c rfl all1n))))) k9 rfl rfl (fun w9 hB5 hg9 => ?_)
    have gr9 := gr_mod gr8 hg9 (Ge.le (Ge.box hl1) (Nat.le_refl _))
    refine WL.nil (WX.then_normal ?_)
    refine WC.ret (WX.then_ret ?_)
    exact WX.retc tab_ok rfl rfl rfl hB5 rfl ⟨gr9, t14_Code, t14_Placed, t14_Pos, t14_Filed, t14_File, rfl, H⟩

set_option maxHeartbeats 8000000 in
theorem W_smithysee_Fault {S : List Nat} {w : World} {v_e : Value} {e : Er} {K : Int → Bool → Int → Bool → (List UInt8) → Prop} (hG : GOK S w) (hS0 : 0 ∈ S) (hS1 : 1 ∈ S) (hS2 : 2 ∈ S) (hS3 : 3 ∈ S) (hS4 : 4 ∈ S) (hS5 : 5 ∈ S) (hS6 : 6 ∈ S) (hS7 : 7 ∈ S) (hS8 : 8 ∈ S) (hS9 : 9 ∈ S) (hS10 : 10 ∈ S) (hS11 : 11 ∈ S) (hS12 : 12 ∈ S) (hS13 : 13 ∈ S) (hS14 : 14 ∈ S) (hS15 : 15 ∈ S) (hS16 : 16 ∈ S) (he : ErrR S w v_e e) (H : M_smithysee_Fault e K) : Fn Tryd.prog 94 ⟨[v_e]⟩ w (fun v w' => w.grownBy w' none ∧ ∃ (r_Code : Int), ∃ (r_Placed : Bool), ∃ (r_Pos : Int), ∃ (r_Filed : Bool), ∃ (r_File : List UInt8), v = .agg ⟨[.int .i64 r_Code, .bool r_Placed, .int .i64 r_Pos, .bool r_Filed, vs r_File]⟩ ∧ K r_Code r_Placed r_Pos r_Filed r_File) := by
  unfold M_smithysee_Fault at H
  refine Fn.enter (by kernel_rfl) Tryd.func94 rfl Tryd.ntmps94 rfl ?_
  refine WC.seq ?_
  refine WC.region ?_
  refine WL.alloc rfl zero77 (fun g1 w1 hB1 hg1 hl1 => ?_)
  have gr1 := hg1
  refine WL.nil (WX.then_normal ?_)
  refine WC.seq ?_
  refine WC.seq ?_
  refine WC.region ?_
  refine WL.y rfl (Yld.pure tab_ok rfl) ?_
  refine WL.y rfl (Yld.erreql Tryd.underlying30 (he.grown gr1) rfl) ?_
  refine WL.nil (WX.then_normal ?_)
  refine WC.cond rfl (fun b1 => ?_) (fun b1 => ?_)
  · replace H := H.1 (of_decide_eq_true b1)
    refine WC.seq ?_
    refine WC.region ?_
    refine WL.call rfl rfl (W_smithyref_None H) ?_
    rintro _ w2 ⟨hg2, t8_Code, t8_Placed, t8_Pos, t8_Filed, t8_File, rfl, H⟩
    have gr2 := gr_trans gr1 hg2
    have k1 := hB1.g0 hg2
    refine WL.storeW (vs := [.int .i64 t8_Code, .bool t8_Placed, .int .i64 t8_Pos, .bool t8_Filed, vs t8_File]) tab_ok rfl rfl rfl (all1c rfl (all1c rfl (all1c rfl (all1c rfl (all1c rfl all1n))))) k1 rfl rfl (fun w3 hB2 hg3 => ?_)
    have gr3 := gr_mod gr2 hg3 (Ge.le (Ge.box hl1) (Nat.le_refl _))
    refine WL.nil (WX.then_normal ?_)
    refine WC.ret (WX.then_ret ?_)
    exact WX.retc tab_ok rfl rfl rfl hB2 rfl ⟨gr3, t8_Code, t8_Placed, t8_Pos, t8_Filed, t8_File, rfl, H⟩
  · replace H := H.2 (of_decide_eq_false b1)
    refine WC.skip (WX.then_normal ?_)
    refine WC.seq ?_
    refine WC.region ?_
    refine WL.y rfl (Yld.pure tab_ok rfl) ?_
    refine WL.y rfl (Yld.assertNo Tryd.underlying143 (fun _ => by kernel_rfl) (he.grown gr1) rfl rfl (.inl rfl)) ?_
    refine WL.y rfl (Yld.pure tab_ok rfl) ?_
    refine WL.y rfl (Yld.pure tab_ok rfl) ?_
    refine WL.y rfl (Yld.pure tab_ok rfl) ?_
    refine WL.y rfl (Yld.pure tab_ok rfl) ?_
    refine WL.y rfl (Yld.pure tab_ok rfl) ?_
    refine WL.nil (WX.then_normal ?_)
    refine WC.seq ?_
    refine WC.seq ?_
    refine WC.region ?_
    refine WL.y rfl (Yld.pure tab_ok rfl) ?_
    refine WL.y rfl (Yld.pure tab_ok rfl) ?_
    refine WL.nil (WX.then_normal ?_)
    refine WC.cond rfl (fun _ => ?_) (fun h => by cases h)
    refine WC.seq ?_
    refine WC.region ?_
    refine WL.y rfl (Yld.pure tab_ok rfl) ?_
    refine WL.call rfl rfl (W_smithysee_placed (hG.grown gr1) hS0 hS1 hS2 hS3 hS4 hS5 hS6 hS7 hS8 hS9 hS10 hS11 hS12 hS13 hS14 hS15 hS16 (he.grown gr1) H) ?_
    rintro _ w4 ⟨hg4, t17_Code, t17_Placed, t17_Pos, t17_Filed, t17_File, rfl, H⟩
    have gr4 := gr_trans gr1 hg4
    have k2 := hB1.g0 hg4
    refine WL.storeW (vs := [.int .i64 t17_Code, .bool t17_Placed, .int .i64 t17_Pos, .bool t17_Filed, vs t17_File]) tab_ok rfl rfl rfl (all1c rfl (all1c rfl (all1c rfl (all1c rfl (all1c rfl all1n))))) k2 rfl rfl (fun w5 hB3 hg5 => ?_)
    have gr5 := gr_mod gr4 hg5 (Ge.le (Ge.box hl1) (Nat.le_refl _))
    refine WL.nil (WX.then_normal ?_)
    refine WC.ret (WX.then_ret ?_)
    exact WX.retc tab_ok rfl rfl rfl hB3 rfl ⟨gr5, t17_Code, t17_Placed, t17_Pos, t17_Filed, t17_File, rfl, H⟩

set_option maxHeartbeats 8000000 in
theorem W_smithysee_Same {S : List Nat} {w : World} {v_e : Value} {e : Er} {f_Code : Int} {f_Placed : Bool} {f_Pos : Int} {f_Filed : Bool} {f_File : List UInt8} {K : Bool → Prop} (hG : GOK S w) (hS0 : 0 ∈ S) (hS1 : 1 ∈ S) (hS2 : 2 ∈ S) (hS3 : 3 ∈ S) (hS4 : 4 ∈ S) (hS5 : 5 ∈ S) (hS6 : 6 ∈ S) (hS7 : 7 ∈ S) (hS8 : 8 ∈ S) (hS9 : 9 ∈ S) (hS10 : 10 ∈ S) (hS11 : 11 ∈ S) (hS12 : 12 ∈ S) (hS13 : 13 ∈ S) (hS14 : 14 ∈ S) (hS15 : 15 ∈ S) (hS16 : 16 ∈ S) (he : ErrR S w v_e e) (H : M_smithysee_Same e f_Code f_Placed f_Pos f_Filed f_File K) : Fn Tryd.prog 57 ⟨[v_e, .agg ⟨[.int .i64 f_Code, .bool f_Placed, .int .i64 f_Pos, .bool f_Filed, vs f_File]⟩]⟩ w (fun v w' => w.grownBy w' none ∧ ∃ (r : Bool), v = .bool r ∧ K r) := by
  unfold M_smithysee_Same at H
  refine Fn.enter (by kernel_rfl) Tryd.func57 rfl Tryd.ntmps57 rfl ?_
  refine WC.seq ?_
  refine WC.region ?_
  refine WL.box (us := [.int .i64 f_Code, .bool f_Placed, .int .i64 f_Pos, .bool f_Filed, vs f_File]) rfl rfl rfl (fun g1 w1 hB1 hg1 hl1 => ?_)
  have gr1 := hg1
  refine WL.y rfl (Yld.pure tab_ok rfl) ?_
  refine WL.nil (WX.then_normal ?_)
  refine WC.seq ?_
  refine WC.chainF (fun k => !(Nat.beq k 1 || Nat.beq k 3)) (LD [2] (fun w' => Bl w' g1 77 [.int .i64 f_Code, .bool f_Placed, .int .i64 f_Pos, .bool f_Filed, vs f_File])) mixed (by kernel_rfl) (fun k w' h _ => (bl_eqv h hB1)) ?_
  refine WJ.y rfl rfl (fun w' hw' => Yld.pure tab_ok rfl) ?_
  refine WJ.call rfl (wants_none) rfl rfl (W_smithysee_Fault (hG.grown gr1) hS0 hS1 hS2 hS3 hS4 hS5 hS6 hS7 hS8 hS9 hS10 hS11 hS12 hS13 hS14 hS15 hS16 (he.grown gr1) H) (fun v w' h w2 e => DD.keep (Bl.g0 hB1 (gr_eqv h.1 e))) ?_
  rintro _ w2 ⟨hg2, t6_Code, t6_Placed, t6_Pos, t6_Filed, t6_File, rfl, H⟩
  have gr2 := gr_trans gr1 hg2
  have k1 := hB1.g0 hg2
  refine WJ.y rfl rfl (fun w' hw' => Yld.bagg (vs := [.int .i64 f_Code, .bool f_Placed, .int .i64 f_Pos, .bool f_Filed, vs f_File]) tab_ok (hw' rfl) rfl rfl rfl rfl) ?_
  refine WJ.call rfl (wants_none) rfl rfl (W_smithyref_SameFault H) (fun v w' h w2 e => DD.keep (Bl.g0 k1 (gr_eqv h.1 e))) ?_
  rintro _ w3 ⟨hg3, t4, rfl, H⟩
  have gr3 := gr_trans gr2 hg3
  have k2 := k1.g0 hg3
  refine WJ.y rfl rfl (fun w' hw' => Yld.pure tab_ok rfl) ?_
  refine WJ.nil (WX.then_normal ?_)
  refine WC.ret ?_
  exact WX.ret1 rfl rfl ⟨gr3, t4, rfl, H⟩

set_option maxHeartbeats 8000000 in
theorem W_smithysee_Is {S : List Nat} {w : World} {v_e : Value} {e : Er} {code : Int} {K : Bool → Prop} (hG : GOK S w) (hS0 : 0 ∈ S) (hS1 : 1 ∈ S) (hS2 : 2 ∈ S) (hS3 : 3 ∈ S) (hS4 : 4 ∈ S) (hS5 : 5 ∈ S) (hS6 : 6 ∈ S) (hS7 : 7 ∈ S) (hS8 : 8 ∈ S) (hS9 : 9 ∈ S) (hS10 : 10 ∈ S) (hS11 : 11 ∈ S) (hS12 : 12 ∈ S) (hS13 : 13 ∈ S) (hS14 : 14 ∈ S) (hS15 : 15 ∈ S) (hS16 : 16 ∈ S) (he : ErrR S w v_e e) (H : M_smithysee_Is e code K) : Fn Tryd.prog 47 ⟨[v_e, .int .i64 code]⟩ w (fun v w' => w.grownBy w' none ∧ ∃ (r : Bool), v = .bool r ∧ K r) := by
  unfold M_smithysee_Is at H
  refine Fn.enter (by kernel_rfl) Tryd.func47 rfl Tryd.ntmps47 rfl ?_
  refine WC.seq ?_
  refine WC.region ?_
  refine WL.y rfl (Yld.pure tab_ok rfl) ?_
  refine WL.nil (WX.then_normal ?_)
  refine WC.seq ?_
  refine WC.region ?_
  refine WL.y rfl (Yld.pure tab_ok rfl) ?_
  refine WL.y rfl (Yld.pure tab_ok rfl) ?_
  refine WL.call rfl rfl (W_smithyref_Bare H) ?_
  rintro _ w1 ⟨hg1, t7_Code, t7_Placed, t7_Pos, t7_Filed, t7_File, rfl, H⟩
  have gr1 := hg1
  refine WL.call rfl rfl (W_smithysee_Same (hG.grown gr1) hS0 hS1 hS2 hS3 hS4 hS5 hS6 hS7 hS8 hS9 hS10 hS11 hS12 hS13 hS14 hS15 hS16 (he.grown gr1) H) ?_
  rintro _ w2 ⟨hg2, t4, rfl, H⟩
  have gr2 := gr_trans gr1 hg2
  refine WL.y rfl (Yld.pure tab_ok rfl) ?_
  refine WL.nil (WX.then_normal ?_)
  refine WC.ret ?_
  exact WX.ret1 rfl rfl ⟨gr2, t4, rfl, H⟩

end Go.Proofs.YtcfljnfaakjdjaaDoor
 /- Printed by a program (wip/vg): what the functions mean, plainly, and their walks. -/
namespace Go.Proofs.YtcfljnfaakjdjaaDoor
open Go Go.RowKit
attribute [local irreducible] WL WC WX WQ WK WJ Yld Eff Ef0 Fn
def M_smithylaw1_code (is : Bool) (K : Int → Prop) : Prop :=
 ((is = true → K (0 : Int)) ∧
 (is = false → K (112 : Int)))

def M_smithylaw1_PathSays (p : List UInt8) (dir : List UInt8) (l : List (List UInt8)) (K : Bool → Prop) : Prop :=
 (l.length ≤ maxLen →
 M_smithylaw1_first (fun (ok : Bool) =>
 (((!ok) = true → K false) ∧
 ((!ok) = false → ((((((decide ((500 : Int) < (p.length : Int))) || (decide ((500 : Int) < (dir.length : Int)))) || (decide ((10 : Int) < (l.length : Int)))) || (!ok)) = true → K ok) ∧
 (((((decide ((500 : Int) < (p.length : Int))) || (decide ((500 : Int) < (dir.length : Int)))) || (decide ((10 : Int) < (l.length : Int)))) || (!ok)) = false → Lp1 (fun (i : Int) k_1 => ((i < (l.length : Int) → (0 ≤ i ∧ i < (l.length : Nat)) ∧
 (((300 : Int) < ((l.getD i.toNat []).length : Int) → K true) ∧
 (¬ ((300 : Int) < ((l.getD i.toNat []).length : Int)) → (In .i64 (i + (1 : Int))) ∧
 k_1 (i + (1 : Int))))) ∧
 (¬ (i < (l.length : Int)) → M_path_Clean p (fun (t520 : List UInt8) (t521 : Er) =>
 M_smithyref1_Clean p (fun (t570 : List UInt8) (t571 : Bool) =>
 M_path_Join l (fun (t620 : List UInt8) (t621 : Er) =>
 M_smithyref1_Join l (fun (t670 : List UInt8) (t671 : Bool) =>
 ∃ J1 : Bool → Prop, ((((decide (t520 = t570)) = true → M_smithylaw1_code t571 (fun (t76 : Int) =>
 M_smithysee_Is t521 t76 (fun (t77 : Bool) =>
 J1 t77))) ∧
 ((decide (t520 = t570)) = false → J1 false))) ∧
 (∀ q4 : Bool, J1 q4 → ∃ J2 : Bool → Prop, ((((q4 && (decide (t620 = t670))) = true → M_smithylaw1_code t671 (fun (t87 : Int) =>
 M_smithysee_Is t621 t87 (fun (t88 : Bool) =>
 J2 t88))) ∧
 ((q4 && (decide (t620 = t670))) = false → J2 false))) ∧
 (∀ q6 : Bool, J2 q6 → ∃ J3 : Bool → Prop, (((q6 = true → M_path_Valid p (fun (t92 : Bool) =>
 M_smithyref1_Valid p (fun (t94 : Bool) =>
 J3 (t92 == t94)))) ∧
 (q6 = false → J3 false))) ∧
 (∀ q7 : Bool, J3 q7 → ∃ J4 : Bool → Prop, (((q7 = true → M_path_Dir p (fun (t99 : List UInt8) =>
 M_smithyref1_Dir p (fun (t101 : List UInt8) =>
 J4 (decide (t99 = t101))))) ∧
 (q7 = false → J4 false))) ∧
 (∀ q8 : Bool, J4 q8 → ∃ J5 : Bool → Prop, (((q8 = true → M_path_Base p (fun (t106 : List UInt8) =>
 M_smithyref1_Base p (fun (t108 : List UInt8) =>
 J5 (decide (t106 = t108))))) ∧
 (q8 = false → J5 false))) ∧
 (∀ q9 : Bool, J5 q9 → ∃ J6 : Bool → Prop, (((q9 = true → M_path_Under p dir (fun (t114 : Bool) =>
 M_smithyref1_Under p dir (fun (t117 : Bool) =>
 J6 (t114 == t117)))) ∧
 (q9 = false → J6 false))) ∧
 (∀ q10 : Bool, J6 q10 → K q10))))))))))))) (0 : Int)))))))

set_option maxHeartbeats 8000000 in
theorem W_smithylaw1_code {w : World} {is : Bool} {K : Int → Prop} (H : M_smithylaw1_code is K) : Fn Tryd.prog 48 ⟨[.bool is]⟩ w (fun v w' => w = w' ∧ ∃ (r : Int), v = .int .i64 r ∧ K r) := by
  unfold M_smithylaw1_code at H
  refine Fn.enter (by kernel_rfl) Tryd.func48 rfl Tryd.ntmps48 rfl ?_
  refine WC.seq ?_
  refine WC.region ?_
  refine WL.y rfl (Yld.pure tab_ok rfl) ?_
  refine WL.nil (WX.then_normal ?_)
  refine WC.seq ?_
  refine WC.seq ?_
  refine WC.region ?_
  refine WL.y rfl (Yld.pure tab_ok rfl) ?_
  refine WL.nil (WX.then_normal ?_)
  refine WC.cond rfl (fun b1 => ?_) (fun b1 => ?_)
  · replace H := H.1 (b1)
    refine WC.seq ?_
    refine WC.region ?_
    refine WL.y rfl (Yld.pure tab_ok rfl) ?_
    refine WL.nil (WX.then_normal ?_)
    refine WC.ret (WX.then_ret ?_)
    exact WX.ret1 rfl rfl ⟨rfl, (0 : Int), rfl, H⟩
  · replace H := H.2 (b1)
    refine WC.skip (WX.then_normal ?_)
    refine WC.seq ?_
    refine WC.region ?_
    refine WL.y rfl (Yld.pure tab_ok rfl) ?_
    refine WL.nil (WX.then_normal ?_)
    refine WC.ret ?_
    exact WX.ret1 rfl rfl ⟨rfl, (112 : Int), rfl, H⟩

set_option maxHeartbeats 8000000 in
theorem W_smithylaw1_PathSays {S : List Nat} {w : World} {p : List UInt8} {dir : List UInt8} {l : List (List UInt8)} {A_l : Option Addr} {c_l : Nat} {n_l : Nat} {K : Bool → Prop} (hG : GOK S w) (hS0 : 0 ∈ S) (hS1 : 1 ∈ S) (hS2 : 2 ∈ S) (hS3 : 3 ∈ S) (hS4 : 4 ∈ S) (hS5 : 5 ∈ S) (hS6 : 6 ∈ S) (hS7 : 7 ∈ S) (hS8 : 8 ∈ S) (hS9 : 9 ∈ S) (hS10 : 10 ∈ S) (hS11 : 11 ∈ S) (hS12 : 12 ∈ S) (hS13 : 13 ∈ S) (hS14 : 14 ∈ S) (hS15 : 15 ∈ S) (hS16 : 16 ∈ S) (hS100 : 100 ∈ S) (hl : Rd vs w A_l c_l l) (hn_l : n_l = l.length) (H : M_smithylaw1_PathSays p dir l K) : Fn Tryd.prog 11 ⟨[vs p, vs dir, .slice A_l n_l c_l]⟩ w (fun v w' => w.grownBy w' none ∧ ∃ (r : Bool), v = .bool r ∧ K r) := by
  subst hn_l
  unfold M_smithylaw1_PathSays at H
  refine Fn.enter (by kernel_rfl) Tryd.func11 rfl Tryd.ntmps11 rfl ?_
  replace H := H (Nat.le_trans hl.cap hl.max)
  refine WC.seq ?_
  refine WC.region ?_
  refine WL.y rfl (Yld.pure tab_ok rfl) ?_
  refine WL.nil (WX.then_normal ?_)
  refine WC.seq ?_
  refine WC.region ?_
  refine WL.call rfl rfl (W_smithylaw1_first hG hS11 hS100 H) ?_
  rintro _ w1 ⟨hg1, ok, rfl, H⟩
  have gr1 := hg1
  refine WL.y rfl (Yld.pure tab_ok rfl) ?_
  refine WL.nil (WX.then_normal ?_)
  refine WC.seq ?_
  refine WC.seq ?_
  refine WC.region ?_
  refine WL.y rfl (Yld.pure tab_ok rfl) ?_
  refine WL.y rfl (Yld.pure tab_ok rfl) ?_
  refine WL.nil (WX.then_normal ?_)
  refine WC.cond rfl (fun b1 => ?_) (fun b1 => ?_)
  · replace H := H.1 (b1)
    refine WC.seq ?_
    refine WC.region ?_
    refine WL.y rfl (Yld.pure tab_ok rfl) ?_
    refine WL.nil (WX.then_normal ?_)
    refine WC.ret (WX.then_ret ?_)
    exact WX.ret1 rfl rfl ⟨gr1, false, rfl, H⟩
  · replace H := H.2 (b1)
    refine WC.skip (WX.then_normal ?_)
    refine WC.seq ?_
    refine WC.seq ?_
    refine WC.region ?_
    refine WL.y rfl (Yld.pure tab_ok rfl) ?_
    refine WL.y rfl (Yld.pure tab_ok rfl) ?_
    refine WL.y rfl (Yld.pure tab_ok rfl) ?_
    refine WL.y rfl (Yld.pure tab_ok rfl) ?_
    refine WL.midF 4 (fun L' w' => ∃ q1 : Bool, L' = [(27, .bool q1), (0, vs p), (1, vs dir), (2, .slice A_l l.length c_l), (7, .bool ok)] ∧ q1 = ((decide ((500 : Int) < (p.length : Int))) || (decide ((500 : Int) < (dir.length : Int)))) ∧ w1 = w') ?_ (fun hQ => ?_)
    · rintro _ _ ⟨q1, rfl, rfl, rfl⟩
      refine WL.y rfl (Yld.pure tab_ok rfl) ?_
      refine WL.midF 4 (fun L' w' => ∃ q2 : Bool, L' = [(32, .bool q2), (0, vs p), (1, vs dir), (2, .slice A_l l.length c_l), (7, .bool ok)] ∧ q2 = (((decide ((500 : Int) < (p.length : Int))) || (decide ((500 : Int) < (dir.length : Int)))) || (decide ((10 : Int) < (l.length : Int)))) ∧ w1 = w') ?_ (fun hQ => ?_)
      · rintro _ _ ⟨q2, rfl, rfl, rfl⟩
        refine WL.y rfl (Yld.pure tab_ok rfl) ?_
        refine WL.midF 3 (fun L' w' => ∃ q3 : Bool, L' = [(36, .bool q3), (0, vs p), (1, vs dir), (2, .slice A_l l.length c_l), (7, .bool ok)] ∧ q3 = ((((decide ((500 : Int) < (p.length : Int))) || (decide ((500 : Int) < (dir.length : Int)))) || (decide ((10 : Int) < (l.length : Int)))) || (!ok)) ∧ w1 = w') ?_ (fun hQ => ?_)
        · rintro _ _ ⟨q3, rfl, rfl, rfl⟩
          refine WL.nil (WX.then_normal ?_)
          refine WC.cond rfl (fun b2 => ?_) (fun b2 => ?_)
          · replace H := H.1 (b2)
            refine WC.seq ?_
            refine WC.region ?_
            refine WL.y rfl (Yld.pure tab_ok rfl) ?_
            refine WL.y rfl (Yld.pure tab_ok rfl) ?_
            refine WL.nil (WX.then_normal ?_)
            refine WC.ret (WX.then_ret ?_)
            exact WX.ret1 rfl rfl ⟨gr1, ok, rfl, H⟩
          · replace H := H.2 (b2)
            refine WC.skip (WX.then_normal ?_)
            refine WC.seq ?_
            refine WC.seq ?_
            refine WC.region ?_
            refine WL.y rfl (Yld.pure tab_ok rfl) ?_
            refine WL.nil (WX.then_normal ?_)
            refine WC.block ?_
            obtain ⟨I1, mu1, h0_1, HR1⟩ := H
            refine WC.loopF (fun n' L' w' => ∃ (i : Int), n' = mu1 i ∧ L' = [(0, vs p), (1, vs dir), (2, .slice A_l l.length c_l), (8, .int .i64 i)] ∧ I1 i ∧ w1 = w') _ _ ⟨(0 : Int), rfl, rfl, h0_1, rfl⟩ (by repeat (first | exact Sub.nil | refine Sub.cons rfl ?_)) ?_
            clear h0_1
            rintro _ _ _ ⟨i, rfl, rfl, hI1, rfl⟩
            have H := HR1 i hI1
            refine WC.seq ?_
            refine WC.seq ?_
            refine WC.region ?_
            refine WL.y rfl (Yld.pure tab_ok rfl) ?_
            refine WL.y rfl (Yld.pure tab_ok rfl) ?_
            refine WL.y rfl (Yld.pure tab_ok rfl) ?_
            refine WL.y rfl (Yld.pure tab_ok rfl) ?_
            refine WL.nil (WX.then_normal ?_)
            refine WC.cond rfl (fun b3 => ?_) (fun b3 => ?_)
            · replace H := H.1 (of_decide_eq_true b3)
              refine WC.skip (WX.then_normal ?_)
              refine WC.seq ?_
              refine WC.block ?_
              refine WC.seq ?_
              refine WC.region ?_
              refine WL.y rfl (Yld.pure tab_ok rfl) ?_
              refine WL.y rfl (Yld.pure tab_ok rfl) ?_
              obtain ⟨h1, H⟩ := H
              refine WL.y rfl (Yld.iaddrW tab_ok (hl.grown gr1) rfl rfl rfl rfl h1.1 h1.2) ?_
              refine WL.y rfl (Yld.iload [] tab_ok (hl.grown gr1) rfl rfl (iltN h1 rfl)) ?_
              refine WL.y rfl (Yld.pure tab_ok rfl) ?_
              refine WL.y rfl (Yld.pure tab_ok rfl) ?_
              refine WL.nil (WX.then_normal ?_)
              refine WC.cond rfl (fun b4 => ?_) (fun b4 => ?_)
              · replace H := H.1 (of_decide_eq_true b4)
                refine WC.seq ?_
                refine WC.region ?_
                refine WL.y rfl (Yld.pure tab_ok rfl) ?_
                refine WL.nil (WX.then_normal ?_)
                refine WC.ret (WX.block_ret (WX.then_ret (WX.then_ret (WX.block_ret (WX.then_ret ?_)))))
                exact WX.ret1 rfl rfl ⟨gr1, true, rfl, H⟩
              · replace H := H.2 (of_decide_eq_false b4)
                refine WC.skip (WX.block_normal (WX.then_normal ?_))
                refine WC.region ?_
                refine WL.y rfl (Yld.pure tab_ok rfl) ?_
                obtain ⟨h2, H⟩ := H
                refine WL.y rfl (Yld.add rfl rfl h2) ?_
                refine WL.y rfl (Yld.pure tab_ok rfl) ?_
                refine WL.nil ?_
                exact WX.roundF _ ⟨i + (1 : Int), rfl, rfl, H.1, rfl⟩ (by repeat (first | exact Sub.nil | refine Sub.cons rfl ?_)) H.2
            · replace H := H.2 (of_decide_eq_false b3)
              refine WC.exit (WX.then_exit (WX.then_exit (WX.block_same (WX.then_normal ?_))))
              refine WC.seq ?_
              refine WC.region ?_
              refine WL.y rfl (Yld.pure tab_ok rfl) ?_
              refine WL.call rfl rfl (W_path_Clean (hG.grown gr1) hS11 hS100 H) ?_
              rintro _ w2 ⟨hg2, t520, v_t521, t521, rfl, ht521, H⟩
              have gr2 := gr_trans gr1 hg2
              refine WL.y rfl (Yld.pure tab_ok rfl) ?_
              refine WL.y rfl (Yld.pure tab_ok rfl) ?_
              refine WL.y rfl (Yld.pure tab_ok rfl) ?_
              refine WL.y rfl (Yld.pure tab_ok rfl) ?_
              refine WL.y rfl (Yld.pure tab_ok rfl) ?_
              refine WL.nil (WX.then_normal ?_)
              refine WC.seq ?_
              refine WC.region ?_
              refine WL.y rfl (Yld.pure tab_ok rfl) ?_
              refine WL.call rfl rfl (W_smithyref1_Clean H) ?_
              rintro _ w3 ⟨hg3, t570, t571, rfl, H⟩
              have gr3 := gr_trans gr2 hg3
              have k1 := ht521.grown hg3
              refine WL.y rfl (Yld.pure tab_ok rfl) ?_
              refine WL.y rfl (Yld.pure tab_ok rfl) ?_
              refine WL.y rfl (Yld.pure tab_ok rfl) ?_
              refine WL.y rfl (Yld.pure tab_ok rfl) ?_
              refine WL.y rfl (Yld.pure tab_ok rfl) ?_
              refine WL.nil (WX.then_normal ?_)
              refine WC.seq ?_
              refine WC.region ?_
              refine WL.y rfl (Yld.pure tab_ok rfl) ?_
              refine WL.call rfl rfl (W_path_Join (hG.grown gr3) hS11 hS100 (hl.grown gr3) rfl H) ?_
              rintro _ w4 ⟨hg4, t620, v_t621, t621, rfl, ht621, H⟩
              have gr4 := gr_trans gr3 hg4
              have k2 := k1.grown hg4
              refine WL.y rfl (Yld.pure tab_ok rfl) ?_
              refine WL.y rfl (Yld.pure tab_ok rfl) ?_
              refine WL.y rfl (Yld.pure tab_ok rfl) ?_
              refine WL.y rfl (Yld.pure tab_ok rfl) ?_
              refine WL.y rfl (Yld.pure tab_ok rfl) ?_
              refine WL.nil (WX.then_normal ?_)
              refine WC.seq ?_
              refine WC.region ?_
              refine WL.y rfl (Yld.pure tab_ok rfl) ?_
              refine WL.call rfl rfl (W_smithyref1_Join (hl.grown gr4) rfl H) ?_
              rintro _ w5 ⟨hg5, t670, t671, rfl, H⟩
              have gr5 := gr_trans gr4 hg5
              have k3 := k2.grown hg5
              have k4 := ht621.grown hg5
              refine WL.y rfl (Yld.pure tab_ok rfl) ?_
              refine WL.y rfl (Yld.pure tab_ok rfl) ?_
              refine WL.y rfl (Yld.pure tab_ok rfl) ?_
              refine WL.y rfl (Yld.pure tab_ok rfl) ?_
              refine WL.y rfl (Yld.pure tab_ok rfl) ?_
              refine WL.nil (WX.then_normal ?_)
              refine WC.seq ?_
              refine WC.region ?_
              refine WL.y rfl (Yld.pure tab_ok rfl) ?_
              refine WL.y rfl (Yld.pure tab_ok rfl) ?_
              refine WL.y rfl (Yld.pure tab_ok rfl) ?_
              refine WL.y rfl (Yld.pure tab_ok rfl) ?_
              obtain ⟨J1, H, hJ1⟩ := H
              refine WL.midF 5 (fun L' w' => ∃ q4 : Bool, L' = [(78, .bool q4), (0, vs p), (1, vs dir), (13, vs t620), (14, v_t621), (15, vs t670), (16, .bool t671)] ∧ J1 q4 ∧ w.grownBy w' none ∧ ErrR S w' v_t621 t621) ?_ (fun hQ => ?_)
              · clear H
                rintro _ w6 ⟨q4, rfl, H, gr6, k5⟩
                replace H := hJ1 q4 H
                refine WL.y rfl (Yld.pure tab_ok rfl) ?_
                refine WL.midF 4 (fun L' w' => ∃ q5 : Bool, L' = [(83, .bool q5), (0, vs p), (1, vs dir), (14, v_t621), (16, .bool t671)] ∧ q5 = (q4 && (decide (t620 = t670))) ∧ w6 = w') ?_ (fun hQ => ?_)
                · rintro _ _ ⟨q5, rfl, rfl, rfl⟩
                  refine WL.y rfl (Yld.pure tab_ok rfl) ?_
                  obtain ⟨J2, H, hJ2⟩ := H
                  refine WL.midF 5 (fun L' w' => ∃ q6 : Bool, L' = [(89, .bool q6), (0, vs p), (1, vs dir)] ∧ J2 q6 ∧ w.grownBy w' none) ?_ (fun hQ => ?_)
                  · clear H
                    rintro _ w7 ⟨q6, rfl, H, gr7⟩
                    replace H := hJ2 q6 H
                    refine WL.y rfl (Yld.pure tab_ok rfl) ?_
                    obtain ⟨J3, H, hJ3⟩ := H
                    refine WL.midF 6 (fun L' w' => ∃ q7 : Bool, L' = [(96, .bool q7), (0, vs p), (1, vs dir)] ∧ J3 q7 ∧ w.grownBy w' none) ?_ (fun hQ => ?_)
                    · clear H
                      rintro _ w8 ⟨q7, rfl, H, gr8⟩
                      replace H := hJ3 q7 H
                      refine WL.y rfl (Yld.pure tab_ok rfl) ?_
                      obtain ⟨J4, H, hJ4⟩ := H
                      refine WL.midF 6 (fun L' w' => ∃ q8 : Bool, L' = [(103, .bool q8), (0, vs p), (1, vs dir)] ∧ J4 q8 ∧ w8 = w') ?_ (fun hQ => ?_)
                      · clear H
                        rintro _ _ ⟨q8, rfl, H, rfl⟩
                        replace H := hJ4 q8 H
                        refine WL.y rfl (Yld.pure tab_ok rfl) ?_
                        obtain ⟨J5, H, hJ5⟩ := H
                        refine WL.midF 6 (fun L' w' => ∃ q9 : Bool, L' = [(110, .bool q9), (0, vs p), (1, vs dir)] ∧ J5 q9 ∧ w8 = w') ?_ (fun hQ => ?_)
                        · clear H
                          rintro _ _ ⟨q9, rfl, H, rfl⟩
                          replace H := hJ5 q9 H
                          refine WL.y rfl (Yld.pure tab_ok rfl) ?_
                          obtain ⟨J6, H, hJ6⟩ := H
                          refine WL.midF 8 (fun L' w' => ∃ q10 : Bool, L' = [(119, .bool q10)] ∧ J6 q10 ∧ w8 = w') ?_ (fun hQ => ?_)
                          · clear H
                            rintro _ _ ⟨q10, rfl, H, rfl⟩
                            replace H := hJ6 q10 H
                            refine WL.y rfl (Yld.pure tab_ok rfl) ?_
                            refine WL.nil (WX.then_normal ?_)
                            refine WC.ret ?_
                            exact WX.ret1 rfl rfl ⟨gr8, q10, rfl, H⟩
                          · clear hJ6
                            rcases Bool.eq_false_or_eq_true (q9) with b5 | b5
                            · replace H := H.1 b5
                              refine WL.gyes rfl rfl (okb b5) rfl (Yld.pure tab_ok rfl) ?_
                              refine WL.gyes rfl rfl (okb b5) rfl (Yld.pure tab_ok rfl) ?_
                              refine WL.callw (wants_some rfl rfl (okb b5)) rfl rfl (W_path_Under H) ?_
                              rintro _ _ ⟨rfl, t114, rfl, H⟩
                              refine WL.gyes rfl rfl (okb b5) rfl (Yld.pure tab_ok rfl) ?_
                              refine WL.gyes rfl rfl (okb b5) rfl (Yld.pure tab_ok rfl) ?_
                              refine WL.callw (wants_some rfl rfl (okb b5)) rfl rfl (W_smithyref1_Under H) ?_
                              rintro _ _ ⟨rfl, t117, rfl, H⟩
                              refine WL.gyes rfl rfl (okb b5) rfl (Yld.beql Tryd.underlying4 rfl rfl) ?_
                              refine WL.y rfl (Yld.pickT (okb b5) rfl) ?_
                              exact WL.weaken (by repeat (first | exact Sub.nil | refine Sub.cons rfl ?_)) (hQ _ _ ⟨t114 == t117, rfl, H, rfl⟩)
                            · replace H := H.2 b5
                              refine WL.gno rfl rfl (okb b5) rfl ?_
                              refine WL.gno rfl rfl (okb b5) rfl ?_
                              refine WL.gno rfl rfl (okb b5) rfl ?_
                              refine WL.gno rfl rfl (okb b5) rfl ?_
                              refine WL.gno rfl rfl (okb b5) rfl ?_
                              refine WL.gno rfl rfl (okb b5) rfl ?_
                              refine WL.gno rfl rfl (okb b5) rfl ?_
                              refine WL.y rfl (Yld.pickF (okb b5) rfl) ?_
                              exact WL.weaken (by repeat (first | exact Sub.nil | refine Sub.cons rfl ?_)) (hQ _ _ ⟨false, rfl, H, rfl⟩)
                        · clear hJ5
                          rcases Bool.eq_false_or_eq_true (q8) with b6 | b6
                          · replace H := H.1 b6
                            refine WL.gyes rfl rfl (okb b6) rfl (Yld.pure tab_ok rfl) ?_
                            refine WL.callw (wants_some rfl rfl (okb b6)) rfl rfl (W_path_Base H) ?_
                            rintro _ _ ⟨rfl, t106, rfl, H⟩
                            refine WL.gyes rfl rfl (okb b6) rfl (Yld.pure tab_ok rfl) ?_
                            refine WL.callw (wants_some rfl rfl (okb b6)) rfl rfl (W_smithyref1_Base H) ?_
                            rintro _ _ ⟨rfl, t108, rfl, H⟩
                            refine WL.gyes rfl rfl (okb b6) rfl (Yld.pure tab_ok rfl) ?_
                            refine WL.y rfl (Yld.pickT (okb b6) rfl) ?_
                            exact WL.weaken (by repeat (first | exact Sub.nil | refine Sub.cons rfl ?_)) (hQ _ _ ⟨decide (t106 = t108), rfl, H, rfl⟩)
                          · replace H := H.2 b6
                            refine WL.gno rfl rfl (okb b6) rfl ?_
                            refine WL.gno rfl rfl (okb b6) rfl ?_
                            refine WL.gno rfl rfl (okb b6) rfl ?_
                            refine WL.gno rfl rfl (okb b6) rfl ?_
                            refine WL.gno rfl rfl (okb b6) rfl ?_
                            refine WL.y rfl (Yld.pickF (okb b6) rfl) ?_
                            exact WL.weaken (by repeat (first | exact Sub.nil | refine Sub.cons rfl ?_)) (hQ _ _ ⟨false, rfl, H, rfl⟩)
                      · clear hJ4
                        rcases Bool.eq_false_or_eq_true (q7) with b7 | b7
                        · replace H := H.1 b7
                          refine WL.gyes rfl rfl (okb b7) rfl (Yld.pure tab_ok rfl) ?_
                          refine WL.callw (wants_some rfl rfl (okb b7)) rfl rfl (W_path_Dir H) ?_
                          rintro _ _ ⟨rfl, t99, rfl, H⟩
                          refine WL.gyes rfl rfl (okb b7) rfl (Yld.pure tab_ok rfl) ?_
                          refine WL.callw (wants_some rfl rfl (okb b7)) rfl rfl (W_smithyref1_Dir H) ?_
                          rintro _ _ ⟨rfl, t101, rfl, H⟩
                          refine WL.gyes rfl rfl (okb b7) rfl (Yld.pure tab_ok rfl) ?_
                          refine WL.y rfl (Yld.pickT (okb b7) rfl) ?_
                          exact WL.weaken (by repeat (first | exact Sub.nil | refine Sub.cons rfl ?_)) (hQ _ _ ⟨decide (t99 = t101), rfl, H, rfl⟩)
                        · replace H := H.2 b7
                          refine WL.gno rfl rfl (okb b7) rfl ?_
                          refine WL.gno rfl rfl (okb b7) rfl ?_
                          refine WL.gno rfl rfl (okb b7) rfl ?_
                          refine WL.gno rfl rfl (okb b7) rfl ?_
                          refine WL.gno rfl rfl (okb b7) rfl ?_
                          refine WL.y rfl (Yld.pickF (okb b7) rfl) ?_
                          exact WL.weaken (by repeat (first | exact Sub.nil | refine Sub.cons rfl ?_)) (hQ _ _ ⟨false, rfl, H, rfl⟩)
                    · clear hJ3
                      rcases Bool.eq_false_or_eq_true (q6) with b8 | b8
                      · replace H := H.1 b8
                        refine WL.gyes rfl rfl (okb b8) rfl (Yld.pure tab_ok rfl) ?_
                        refine WL.callw (wants_some rfl rfl (okb b8)) rfl rfl (W_path_Valid (hG.grown gr7) hS100 H) ?_
                        rintro _ w9 ⟨hg6, t92, rfl, H⟩
                        have gr9 := gr_trans gr7 hg6
                        refine WL.gyes rfl rfl (okb b8) rfl (Yld.pure tab_ok rfl) ?_
                        refine WL.callw (wants_some rfl rfl (okb b8)) rfl rfl (W_smithyref1_Valid H) ?_
                        rintro _ w10 ⟨hg7, t94, rfl, H⟩
                        have gr10 := gr_trans gr9 hg7
                        refine WL.gyes rfl rfl (okb b8) rfl (Yld.beql Tryd.underlying4 rfl rfl) ?_
                        refine WL.y rfl (Yld.pickT (okb b8) rfl) ?_
                        exact WL.weaken (by repeat (first | exact Sub.nil | refine Sub.cons rfl ?_)) (hQ _ _ ⟨t92 == t94, rfl, H, gr10⟩)
                      · replace H := H.2 b8
                        refine WL.gno rfl rfl (okb b8) rfl ?_
                        refine WL.gno rfl rfl (okb b8) rfl ?_
                        refine WL.gno rfl rfl (okb b8) rfl ?_
                        refine WL.gno rfl rfl (okb b8) rfl ?_
                        refine WL.gno rfl rfl (okb b8) rfl ?_
                        refine WL.y rfl (Yld.pickF (okb b8) rfl) ?_
                        exact WL.weaken (by repeat (first | exact Sub.nil | refine Sub.cons rfl ?_)) (hQ _ _ ⟨false, rfl, H, gr7⟩)
                  · clear hJ2
                    rcases Bool.eq_false_or_eq_true (q4 && (decide (t620 = t670))) with b9 | b9
                    · replace H := H.1 b9
                      refine WL.gyes rfl rfl (okb b9) rfl (Yld.pure tab_ok rfl) ?_
                      refine WL.gyes rfl rfl (okb b9) rfl (Yld.pure tab_ok rfl) ?_
                      refine WL.callw (wants_some rfl rfl (okb b9)) rfl rfl (W_smithylaw1_code H) ?_
                      rintro _ _ ⟨rfl, t87, rfl, H⟩
                      refine WL.callw (wants_some rfl rfl (okb b9)) rfl rfl (W_smithysee_Is (hG.grown gr6) hS0 hS1 hS2 hS3 hS4 hS5 hS6 hS7 hS8 hS9 hS10 hS11 hS12 hS13 hS14 hS15 hS16 k5 H) ?_
                      rintro _ w11 ⟨hg8, t88, rfl, H⟩
                      have gr11 := gr_trans gr6 hg8
                      have k6 := k5.grown hg8
                      refine WL.y rfl (Yld.pickT (okb b9) rfl) ?_
                      exact WL.weaken (by repeat (first | exact Sub.nil | refine Sub.cons rfl ?_)) (hQ _ _ ⟨t88, rfl, H, gr11⟩)
                    · replace H := H.2 b9
                      refine WL.gno rfl rfl (okb b9) rfl ?_
                      refine WL.gno rfl rfl (okb b9) rfl ?_
                      refine WL.gno rfl rfl (okb b9) rfl ?_
                      refine WL.gno rfl rfl (okb b9) rfl ?_
                      refine WL.y rfl (Yld.pickF (okb b9) rfl) ?_
                      exact WL.weaken (by repeat (first | exact Sub.nil | refine Sub.cons rfl ?_)) (hQ _ _ ⟨false, rfl, H, gr6⟩)
                · clear H
                  rcases Bool.eq_false_or_eq_true (q4) with b10 | b10
                  · refine WL.gyes rfl rfl (okb b10) rfl (Yld.pure tab_ok rfl) ?_
                    refine WL.gyes rfl rfl (okb b10) rfl (Yld.pure tab_ok rfl) ?_
                    refine WL.gyes rfl rfl (okb b10) rfl (Yld.pure tab_ok rfl) ?_
                    refine WL.y rfl (Yld.pickT (okb b10) rfl) ?_
                    exact WL.weaken (by repeat (first | exact Sub.nil | refine Sub.cons rfl ?_)) (hQ _ _ ⟨decide (t620 = t670), rfl, by rw [b10] <;> rfl, rfl⟩)
                  · refine WL.gno rfl rfl (okb b10) rfl ?_
                    refine WL.gno rfl rfl (okb b10) rfl ?_
                    refine WL.gno rfl rfl (okb b10) rfl ?_
                    refine WL.y rfl (Yld.pickF (okb b10) rfl) ?_
                    exact WL.weaken (by repeat (first | exact Sub.nil | refine Sub.cons rfl ?_)) (hQ _ _ ⟨false, rfl, by rw [b10] <;> rfl, rfl⟩)
              · clear hJ1
                rcases Bool.eq_false_or_eq_true (decide (t520 = t570)) with b11 | b11
                · replace H := H.1 b11
                  refine WL.gyes rfl rfl (okb b11) rfl (Yld.pure tab_ok rfl) ?_
                  refine WL.gyes rfl rfl (okb b11) rfl (Yld.pure tab_ok rfl) ?_
                  refine WL.callw (wants_some rfl rfl (okb b11)) rfl rfl (W_smithylaw1_code H) ?_
                  rintro _ _ ⟨rfl, t76, rfl, H⟩
                  refine WL.callw (wants_some rfl rfl (okb b11)) rfl rfl (W_smithysee_Is (hG.grown gr5) hS0 hS1 hS2 hS3 hS4 hS5 hS6 hS7 hS8 hS9 hS10 hS11 hS12 hS13 hS14 hS15 hS16 k3 H) ?_
                  rintro _ w12 ⟨hg9, t77, rfl, H⟩
                  have gr12 := gr_trans gr5 hg9
                  have k7 := k3.grown hg9
                  have k8 := k4.grown hg9
                  refine WL.y rfl (Yld.pickT (okb b11) rfl) ?_
                  exact WL.weaken (by repeat (first | exact Sub.nil | refine Sub.cons rfl ?_)) (hQ _ _ ⟨t77, rfl, H, gr12, k8⟩)
                · replace H := H.2 b11
                  refine WL.gno rfl rfl (okb b11) rfl ?_
                  refine WL.gno rfl rfl (okb b11) rfl ?_
                  refine WL.gno rfl rfl (okb b11) rfl ?_
                  refine WL.gno rfl rfl (okb b11) rfl ?_
                  refine WL.y rfl (Yld.pickF (okb b11) rfl) ?_
                  exact WL.weaken (by repeat (first | exact Sub.nil | refine Sub.cons rfl ?_)) (hQ _ _ ⟨false, rfl, H, gr5, k4⟩)
        · clear H
          rcases Bool.eq_false_or_eq_true (((decide ((500 : Int) < (p.length : Int))) || (decide ((500 : Int) < (dir.length : Int)))) || (decide ((10 : Int) < (l.length : Int)))) with b12 | b12
          · refine WL.gno rfl rfl (okb b12) rfl ?_
            refine WL.gno rfl rfl (okb b12) rfl ?_
            refine WL.y rfl (Yld.pickT (okb b12) rfl) ?_
            exact WL.weaken (by repeat (first | exact Sub.nil | refine Sub.cons rfl ?_)) (hQ _ _ ⟨true, rfl, by rw [b12] <;> rfl, rfl⟩)
          · refine WL.gyes rfl rfl (okb b12) rfl (Yld.pure tab_ok rfl) ?_
            refine WL.gyes rfl rfl (okb b12) rfl (Yld.pure tab_ok rfl) ?_
            refine WL.y rfl (Yld.pickF (okb b12) rfl) ?_
            exact WL.weaken (by repeat (first | exact Sub.nil | refine Sub.cons rfl ?_)) (hQ _ _ ⟨!ok, rfl, by rw [b12] <;> rfl, rfl⟩)
      · clear H
        rcases Bool.eq_false_or_eq_true ((decide ((500 : Int) < (p.length : Int))) || (decide ((500 : Int) < (dir.length : Int)))) with b13 | b13
        · refine WL.gno rfl rfl (okb b13) rfl ?_
          refine WL.gno rfl rfl (okb b13) rfl ?_
          refine WL.gno rfl rfl (okb b13) rfl ?_
          refine WL.y rfl (Yld.pickT (okb b13) rfl) ?_
          exact WL.weaken (by repeat (first | exact Sub.nil | refine Sub.cons rfl ?_)) (hQ _ _ ⟨true, rfl, by rw [b13] <;> rfl, rfl⟩)
        · refine WL.gyes rfl rfl (okb b13) rfl (Yld.pure tab_ok rfl) ?_
          refine WL.gyes rfl rfl (okb b13) rfl (Yld.pure tab_ok rfl) ?_
          refine WL.gyes rfl rfl (okb b13) rfl (Yld.pure tab_ok rfl) ?_
          refine WL.y rfl (Yld.pickF (okb b13) rfl) ?_
          exact WL.weaken (by repeat (first | exact Sub.nil | refine Sub.cons rfl ?_)) (hQ _ _ ⟨decide ((10 : Int) < (l.length : Int)), rfl, by rw [b13] <;> rfl, rfl⟩)
    · clear H
      rcases Bool.eq_false_or_eq_true (decide ((500 : Int) < (p.length : Int))) with b14 | b14
      · refine WL.gno rfl rfl (okb b14) rfl ?_
        refine WL.gno rfl rfl (okb b14) rfl ?_
        refine WL.gno rfl rfl (okb b14) rfl ?_
        refine WL.y rfl (Yld.pickT (okb b14) rfl) ?_
        exact WL.weaken (by repeat (first | exact Sub.nil | refine Sub.cons rfl ?_)) (hQ _ _ ⟨true, rfl, by rw [b14] <;> rfl, rfl⟩)
      · refine WL.gyes rfl rfl (okb b14) rfl (Yld.pure tab_ok rfl) ?_
        refine WL.gyes rfl rfl (okb b14) rfl (Yld.pure tab_ok rfl) ?_
        refine WL.gyes rfl rfl (okb b14) rfl (Yld.pure tab_ok rfl) ?_
        refine WL.y rfl (Yld.pickF (okb b14) rfl) ?_
        exact WL.weaken (by repeat (first | exact Sub.nil | refine Sub.cons rfl ?_)) (hQ _ _ ⟨decide ((500 : Int) < (dir.length : Int)), rfl, by rw [b14] <;> rfl, rfl⟩)

end Go.Proofs.YtcfljnfaakjdjaaDoor
 /- smithysee.Is, plainly. -/
namespace Go.Proofs.YtcfljnfaakjdjaaDoor
open Go Go.RowKit
def isB : Er → Int → Bool
  | .ok, c => decide (0 = c)
  | .e n, c => decide (101 + (n : Int) = c)
  | .at_ _ _, _ => false
theorem is_M {e : Er} {code : Int} {K : Bool → Prop} (h : K (isB e code)) : M_smithysee_Is e code K := by
  unfold M_smithysee_Is M_smithyref_Bare M_smithysee_Same M_smithysee_Fault M_smithyref_None M_smithyref_SameFault M_smithysee_placed M_smithysee_sentinel M_smithyref_Bare M_smithyref_Placed M_smithyref_None
  cases e with
  | ok => refine ⟨fun _ => ?_, fun h2 => absurd rfl h2⟩; exact (congrArg K (show isB .ok code = _ by simp [isB])).mp h
  | e n => refine ⟨fun h2 => (by cases h2), fun _ => ⟨fun p m h2 => (by cases h2), fun _ => ?_⟩⟩; exact (congrArg K (show isB (.e n) code = _ by rw [Bool.eq_iff_iff]; simp [isB, sentV]; exact decide_eq_true_iff.symm)).mp h
  | at_ p n =>
    refine ⟨fun h2 => (by cases h2), fun _ => ⟨fun p' m h2 => ?_, fun h2 => absurd rfl (h2 p n)⟩⟩
    cases h2
    refine ⟨fun h2 => (by simp at h2), fun _ => ⟨fun h2 => (by simp only [sentV] at h2; omega), fun _ => ?_⟩⟩
    exact (congrArg K (show isB (.at_ p n) code = _ by simp [isB])).mp h
end Go.Proofs.YtcfljnfaakjdjaaDoor
 /- The chapter's own words for paths (smithyref1), and PathSays. -/
namespace Go.Proofs.YtcfljnfaakjdjaaDoor
open Go Go.RowKit
theorem letNat (c : UInt8) : letB c = ((((((((((((((decide (97 ≤ c.toNat) && decide (c.toNat ≤ 122)) || (decide (65 ≤ c.toNat) && decide (c.toNat ≤ 90))) || (decide (48 ≤ c.toNat) && decide (c.toNat ≤ 57))) || decide (c.toNat = 33)) || decide (c.toNat = 35)) || decide (c.toNat = 37)) || decide (c.toNat = 43)) || decide (c.toNat = 44)) || decide (c.toNat = 45)) || decide (c.toNat = 46)) || decide (c.toNat = 61)) || decide (c.toNat = 64)) || decide (c.toNat = 95)) || decide (c.toNat = 126)) := by
  have h : ∀ n : Fin 256, letB (UInt8.ofNat n.val) = ((((((((((((((decide (97 ≤ n.val) && decide (n.val ≤ 122)) || (decide (65 ≤ n.val) && decide (n.val ≤ 90))) || (decide (48 ≤ n.val) && decide (n.val ≤ 57))) || decide (n.val = 33)) || decide (n.val = 35)) || decide (n.val = 37)) || decide (n.val = 43)) || decide (n.val = 44)) || decide (n.val = 45)) || decide (n.val = 46)) || decide (n.val = 61)) || decide (n.val = 64)) || decide (n.val = 95)) || decide (n.val = 126)) := by decide +kernel
  have := h ⟨c.toNat, c.toNat_lt⟩
  simpa using this
theorem rletter_M {c : UInt8} {K : Bool → Prop} (h : K (letB c)) : M_smithyref1_letter (c.toNat : Int) K := by
  unfold M_smithyref1_letter
  rw [letNat] at h
  have d : ∀ a b : Nat, decide ((a : Int) ≤ (b : Int)) = decide (a ≤ b) := fun a b => by rw [decide_eq_decide]; omega
  have e : ∀ a b : Nat, decide ((a : Int) = (b : Int)) = decide (a = b) := fun a b => by rw [decide_eq_decide]; omega
  have d1 : decide ((97 : Int) ≤ (c.toNat : Int)) = decide (97 ≤ c.toNat) := d 97 c.toNat
  have d2 : decide ((c.toNat : Int) ≤ (122 : Int)) = decide (c.toNat ≤ 122) := d c.toNat 122
  have d3 : decide ((65 : Int) ≤ (c.toNat : Int)) = decide (65 ≤ c.toNat) := d 65 c.toNat
  have d4 : decide ((c.toNat : Int) ≤ (90 : Int)) = decide (c.toNat ≤ 90) := d c.toNat 90
  have d5 : decide ((48 : Int) ≤ (c.toNat : Int)) = decide (48 ≤ c.toNat) := d 48 c.toNat
  have d6 : decide ((c.toNat : Int) ≤ (57 : Int)) = decide (c.toNat ≤ 57) := d c.toNat 57
  have e1 : decide ((c.toNat : Int) = (33 : Int)) = decide (c.toNat = 33) := e c.toNat 33
  have e2 : decide ((c.toNat : Int) = (35 : Int)) = decide (c.toNat = 35) := e c.toNat 35
  have e3 : decide ((c.toNat : Int) = (37 : Int)) = decide (c.toNat = 37) := e c.toNat 37
  have e4 : decide ((c.toNat : Int) = (43 : Int)) = decide (c.toNat = 43) := e c.toNat 43
  have e5 : decide ((c.toNat : Int) = (44 : Int)) = decide (c.toNat = 44) := e c.toNat 44
  have e6 : decide ((c.toNat : Int) = (45 : Int)) = decide (c.toNat = 45) := e c.toNat 45
  have e7 : decide ((c.toNat : Int) = (46 : Int)) = decide (c.toNat = 46) := e c.toNat 46
  have e8 : decide ((c.toNat : Int) = (61 : Int)) = decide (c.toNat = 61) := e c.toNat 61
  have e9 : decide ((c.toNat : Int) = (64 : Int)) = decide (c.toNat = 64) := e c.toNat 64
  have e10 : decide ((c.toNat : Int) = (95 : Int)) = decide (c.toNat = 95) := e c.toNat 95
  have e11 : decide ((c.toNat : Int) = (126 : Int)) = decide (c.toNat = 126) := e c.toNat 126
  rw [d1, d2, d3, d4, d5, d6, e1, e2, e3, e4, e5, e6, e7, e8, e9, e10, e11]
  exact h
theorem rpart_M {s : List UInt8} {K : Bool → Prop} (hs : s.length ≤ 4000000000) (h : K (fairB s)) : M_smithyref1_part s false K := by
  unfold M_smithyref1_part
  refine ⟨fun i => ∃ k : Nat, i = k ∧ k ≤ s.length ∧ (s.take k).all letB = true, fun i => (s.length - i.toNat), ⟨0, rfl, by omega, by simp⟩, ?_⟩
  rintro _ ⟨k, rfl, hk, hall⟩
  refine ⟨fun hlt => ⟨by omega, rletter_M ?_⟩, fun hge => ?_⟩
  · have hk' : k < s.length := by omega
    rw [Int.toNat_natCast]
    cases hl : letB (s.getD k 0) with
    | false =>
      refine ⟨fun _ h => (by cases h), fun _ => ?_, fun h1 => by simp at h1⟩
      have : s.all letB = false := by
        rw [List.all_eq_false]
        exact ⟨s.getD k 0, getD_mem hk', by rw [hl]; simp⟩
      unfold fairB at h
      rw [this] at h
      exact h
    | true => exact ⟨fun h1 => by simp at h1, fun h1 => by simp at h1, fun _ => ⟨by simp only [In]; omega, ⟨k + 1, by omega, by omega, take_all_succ hall hk' hl⟩, by dsimp only; omega⟩⟩
  · obtain rfl : k = s.length := by omega
    rw [List.take_length] at hall
    unfold fairB dotsB at h
    rw [hall, Bool.true_and, Bool.not_or, Bool.not_or] at h
    exact h
theorem rparts_M {p : List UInt8} {K : List (List UInt8) → Prop} (hp : p.length ≤ 4000000000) (h : K (cuts p)) : M_smithyref1_Parts p K := by
  unfold M_smithyref1_Parts
  have hn := cuts_length p
  refine ⟨fun out f i => ∃ (a k : Nat), f = a ∧ i = k ∧ ((a ≤ k ∧ k ≤ p.length ∧ out ++ cuts (p.drop a) = cuts p ∧ ∀ j, a ≤ j → j < k → p.getD j 0 ≠ 47) ∨ (k = p.length + 1 ∧ out = cuts p)), fun _ _ i => p.length + 1 - i.toNat, ⟨0, 0, rfl, rfl, .inl ⟨by omega, by omega, by simp, fun j _ h => by omega⟩⟩, ?_⟩
  rintro out _ _ ⟨a, k, rfl, rfl, hI⟩
  refine ⟨fun hlt => ?_, fun hge => ?_⟩
  · rcases hI with ⟨hak, hk, hc, hno⟩ | ⟨hk, _⟩
    · have ho : out.length ≤ (cuts p).length := by rw [← hc, List.length_append]; omega
      have hpiece : cuts ((p.drop a).take (k - a)) = [(p.drop a).take (k - a)] := cuts_none fun c hcm => by
        obtain ⟨j, hj, rfl⟩ := List.getElem_of_mem hcm
        rw [List.length_take, List.length_drop] at hj
        have := hno (a + j) (by omega) (by omega)
        rw [List.getElem_take, List.getElem_drop]
        simpa [List.getD, show a + j < p.length by omega] using this
      refine ⟨fun out' f' => ∃ a' : Nat, f' = a' ∧ ((a' ≤ k + 1 ∧ k + 1 ≤ p.length ∧ out' ++ cuts (p.drop a') = cuts p ∧ ∀ j, a' ≤ j → j < k + 1 → p.getD j 0 ≠ 47) ∨ (k = p.length ∧ out' = cuts p)), ⟨fun h1 => ?_, fun h1 => ?_, fun h1 => ?_⟩, ?_⟩
      · have := of_decide_eq_false h1; omega
      · rw [Int.toNat_natCast] at h1
        simp only [Int.toNat_natCast]
        refine ⟨by omega, by simp only [List.length_cons, List.length_nil]; omega, by simp only [In]; omega, k + 1, by omega, ?_⟩
        by_cases e : k = p.length
        · refine .inr ⟨e, ?_⟩
          rw [← hc]
          have : (p.drop a).take (k - a) = p.drop a := List.take_of_length_le (by rw [List.length_drop]; omega)
          rw [this] at hpiece ⊢
          rw [hpiece]
        · have hk' : k < p.length := by omega
          have h47 : p.getD k 0 = 47 := by
            rw [decide_eq_false (by omega : ¬ (k : Int) = (p.length : Int)), Bool.false_or] at h1
            exact UInt8.toNat_inj.mp (show (p.getD k 0).toNat = 47 by have := of_decide_eq_true h1; omega)
          refine .inl ⟨by omega, by omega, ?_, fun j h2 h3 => by omega⟩
          rw [← hc, List.append_assoc]
          congr 1
          have h2 : p[k] = 47 := by simpa [List.getD, hk'] using h47
          have : p.drop a = (p.drop a).take (k - a) ++ 47 :: p.drop (k + 1) := by
            conv => lhs; rw [← List.take_append_drop (k - a) (p.drop a)]
            congr 1
            rw [List.drop_drop, show a + (k - a) = k by omega, List.drop_eq_getElem_cons hk', h2]
          conv => rhs; rw [this]
          rw [cuts_append, hpiece]
      · rw [Int.toNat_natCast, Bool.or_eq_false_iff] at h1
        have h2 := of_decide_eq_false h1.1
        have h3 := of_decide_eq_false h1.2
        refine ⟨a, rfl, .inl ⟨by omega, by omega, hc, fun j h4 h5 => ?_⟩⟩
        by_cases e : j = k
        · rw [e]; exact fun h6 => h3 (by rw [h6]; rfl)
        · exact hno j h4 (by omega)
      · rintro out' _ ⟨a', rfl, hI'⟩
        refine ⟨by simp only [In]; omega, ⟨a', k + 1, rfl, by omega, ?_⟩, by dsimp only; omega⟩
        rcases hI' with h1 | ⟨h1, h2⟩
        · exact .inl h1
        · exact .inr ⟨by omega, h2⟩
    · omega
  · rcases hI with ⟨_, hk, _⟩ | ⟨_, rfl⟩
    · omega
    · exact h
theorem glue_snoc {l : List (List UInt8)} {x : List UInt8} (h : l ≠ []) : glue (l ++ [x]) = glue l ++ 47 :: x := by
  induction l with
  | nil => exact absurd rfl h
  | cons y l ih =>
    cases l with
    | nil => simp [glue]
    | cons z l =>
      have := ih (by simp)
      simp only [List.cons_append] at this ⊢
      simp only [glue]
      rw [this]
      simp
theorem rglue_M {l : List (List UInt8)} {K : List UInt8 → Prop} (hw : wt l ≤ 4000000000) (h : K (glue l)) : M_smithyref1_glue l K := by
  intro _
  have hl := length_wt l
  refine ⟨fun s i => ∃ k : Nat, i = k ∧ k ≤ l.length ∧ s = glue (l.take k), fun _ i => l.length - i.toNat, ⟨0, rfl, by omega, by simp [glue]⟩, ?_⟩
  rintro _ _ ⟨k, rfl, hk, rfl⟩
  have hg := glue_length (l.take k)
  have ht := wt_take l k
  refine ⟨fun hlt => ⟨fun s => s = if k = 0 then [] else glue (l.take k) ++ [47], ⟨fun h1 => ⟨by simp only [List.length_cons, List.length_nil]; omega, ?_⟩, fun h1 => ?_⟩, ?_⟩, fun hge => ?_⟩
  · dsimp only
    rw [if_neg (by omega)]
  · dsimp only
    rw [if_pos (by omega)]
    obtain rfl : k = 0 := by omega
    simp [glue]
  · rintro _ rfl
    have hk' : k < l.length := by omega
    rw [Int.toNat_natCast]
    have hx : (l.getD k []).length ≤ wt l := by
      have h1 : wt (l.drop k) ≤ wt l := by
        conv => rhs; rw [← List.take_append_drop k l]
        rw [wt_append]; omega
      rw [List.drop_eq_getElem_cons hk'] at h1
      simp only [wt] at h1
      have : l.getD k [] = l[k] := by simp [List.getD, hk']
      rw [this]; omega
    have hs : l.take (k + 1) = l.take k ++ [l.getD k []] := by
      rw [List.take_succ_eq_append_getElem hk']
      simp [List.getD, hk']
    refine ⟨by omega, ?_, by simp only [In]; omega, ⟨k + 1, by omega, by omega, ?_⟩, by dsimp only; omega⟩
    · split
      · simp only [List.length_nil]; omega
      · rw [List.length_append]; simp only [List.length_cons, List.length_nil]; omega
    · rw [hs]
      split
      · rename_i e
        subst e
        simp [glue]
      · rename_i e
        rw [glue_snoc (fun h1 => by have := congrArg List.length h1; rw [List.length_take, List.length_nil] at this; omega)]
        simp
  · obtain rfl : k = l.length := by omega
    rw [List.take_length]
    exact h
def KR (K : List UInt8 → Bool → Prop) : Option (List UInt8) → Prop
  | none => K [] false
  | some o => K o true
theorem rclean_M {p : List UInt8} {K : List UInt8 → Bool → Prop} (hp : p.length ≤ 4000000000 - 1) (h : KR K (cleanP p)) : M_smithyref1_Clean p K := by
  unfold M_smithyref1_Clean
  refine rparts_M (by omega) ?_
  have hw := wt_cuts p
  have hn := length_wt (cuts p)
  refine ⟨fun l i => ∃ k : Nat, i = k ∧ k ≤ (cuts p).length ∧ wt l + wt ((cuts p).drop k) ≤ p.length + 1 ∧ cl l ((cuts p).drop k) = cl [] (cuts p), fun l i => (cuts p).length - i.toNat, ⟨0, rfl, by omega, by simp [wt, hw], by simp⟩, ?_⟩
  rintro l _ ⟨k, rfl, hk, hb, hc⟩
  have hl := length_wt l
  refine ⟨fun hlt => ?_, fun hge => ?_⟩
  · have hk' : k < (cuts p).length := by omega
    have hd : (cuts p).drop k = (cuts p).getD k [] :: (cuts p).drop (k + 1) := by
      rw [List.drop_eq_getElem_cons hk']
      simp [List.getD, hk']
    have hm : (cuts p).getD k [] ∈ cuts p := getD_mem hk'
    have hx := cuts_part hm
    rw [hd] at hb hc
    rw [Int.toNat_natCast]
    generalize (cuts p).getD k [] = x at hb hc hx hm
    simp only [wt, cl] at hb hc
    refine ⟨fun l' => wt l' + wt ((cuts p).drop (k + 1)) ≤ p.length + 1 ∧ cl l' ((cuts p).drop (k + 1)) = cl [] (cuts p), ⟨by omega, fun _ => by omega, fun h1 => ?_, fun h1 => ⟨by omega, fun h2 => ⟨fun h3 => ?_, fun h3 => ?_⟩, fun h2 => ⟨by omega, ?_⟩⟩⟩, ?_⟩
    · rw [if_pos h1] at hc
      exact ⟨by omega, hc⟩
    · rw [if_neg (by rw [h1]; simp), if_neg (by rw [decide_eq_false (by omega : ¬ 0 < l.length)]; simp), if_neg (by rw [h2]; decide)] at hc
      unfold cleanP at h
      rw [← hc] at h
      exact h
    · rw [if_neg (by rw [h1]; simp), if_pos (by rw [decide_eq_true h2, decide_eq_true (by omega : 0 < l.length)]; rfl)] at hc
      have ht := wt_take l (l.length - 1)
      rw [show ((l.length : Int) - 1).toNat = l.length - 1 by omega]
      exact ⟨by simp only [In]; omega, by omega, by omega, hc⟩
    · rw [if_neg (by rw [h1]; simp), if_neg (by rw [decide_eq_false h2]; simp)] at hc
      refine rpart_M (by omega) ⟨fun h3 => ?_, fun h3 => ?_⟩
      · have h4 : fairB x = false := by simpa using h3
        rw [if_neg (by rw [h4]; simp)] at hc
        unfold cleanP at h
        rw [← hc] at h
        exact h
      · have h4 : fairB x = true := by simpa using h3
        rw [if_pos h4] at hc
        refine ⟨by omega, by simp only [List.length_cons, List.length_nil]; omega, ?_, hc⟩
        rw [wt_append]
        simp only [wt]
        omega
    · intro l' h'
      exact ⟨by simp only [In]; omega, ⟨k + 1, by omega, by omega, h'.1, h'.2⟩, by dsimp only; omega⟩
  · obtain rfl : k = (cuts p).length := by omega
    rw [List.drop_length] at hb hc
    simp only [cl, wt] at hb hc
    refine rglue_M (by omega) ?_
    unfold cleanP at h
    rw [← hc] at h
    dsimp only at h
    refine ⟨fun h1 => ?_, fun h1 => ?_⟩
    · rw [if_neg (by omega)] at h
      exact h
    · rw [if_pos (by omega)] at h
      exact h
theorem rjoin_M {l : List (List UInt8)} {K : List UInt8 → Bool → Prop} (hw : wt l ≤ 4000000000 - 1) (h : KR K (cleanP (glue l))) : M_smithyref1_Join l K := by
  intro _
  have := glue_length l
  exact rglue_M (by omega) (rclean_M (by omega) h)
def oS : Option (List UInt8) → List UInt8
  | none => []
  | some o => o
def oE : Option (List UInt8) → Er
  | none => .e 11
  | some _ => .ok
theorem kc {K : List UInt8 → Er → Prop} {x : Option (List UInt8)} (h : K (oS x) (oE x)) : KC K x := by cases x <;> exact h
theorem kr {K : List UInt8 → Bool → Prop} {x : Option (List UInt8)} (h : K (oS x) x.isSome) : KR K x := by cases x <;> exact h
theorem valid_is (p : List UInt8) : ((cleanP p).isSome && decide (oS (cleanP p) = p) && !decide (p = [])) = validB p := by
  cases hv : validB p with
  | true =>
    have hl : p.length ≤ 200 := by
      unfold validB at hv
      rw [Bool.and_eq_true] at hv
      exact of_decide_eq_true hv.1
    rw [clean_fairs hl (valid_parts hv)]
    simp [oS, (valid_head hv).1]
  | false =>
    cases hc : cleanP p with
    | none => rfl
    | some o =>
      by_cases e : o = p
      · subst e
        have ho := cln_of hc
        rcases ho.2 with rfl | ⟨_, h4⟩
        · simp
        · rw [valid_of ho.1 h4] at hv; cases hv
      · simp [oS, e]
theorem last_uniq {o : List UInt8} {r s : Int} (hr : LastIs o 47 r) (hs : LastIs o 47 s) : r = s := by
  rcases hr with ⟨rfl, h1⟩ | ⟨i, rfl, hi, hc, hno⟩
  · rcases hs with ⟨rfl, _⟩ | ⟨j, rfl, hj, hd, _⟩
    · rfl
    · exact absurd hd (h1 j hj)
  · rcases hs with ⟨rfl, h1⟩ | ⟨j, rfl, hj, hd, hno'⟩
    · exact absurd hc (h1 i hi)
    · rcases Nat.lt_trichotomy i j with h2 | h2 | h2
      · exact absurd hd (hno j h2 hj)
      · rw [h2]
      · exact absurd hc (hno' i h2 hi)
theorem rdir_M {p : List UInt8} {K : List UInt8 → Prop} (hp : p.length ≤ 4000000000) (h : ∀ r, LastIs p 47 r → K (p.take r.toNat)) : M_smithyref1_Dir p K := by
  unfold M_smithyref1_Dir
  refine ⟨by simp only [In]; omega, fun i => -1 ≤ i ∧ i < p.length ∧ ∀ j : Nat, i < j → j < p.length → p.getD j 0 ≠ 47, fun i => (i + 1).toNat, ⟨by omega, by omega, fun j h1 h2 => by omega⟩, ?_⟩
  rintro i ⟨h1, h2, h3⟩
  refine ⟨fun h0 => ⟨by omega, fun he => ⟨by omega, ?_⟩, fun he => ⟨by simp only [In]; omega, ⟨by omega, by omega, fun j h4 h5 => ?_⟩, by dsimp only; omega⟩⟩, fun h0 => ?_⟩
  · exact h i (.inr ⟨i.toNat, by omega, by omega, UInt8.toNat_inj.mp (show (p.getD i.toNat 0).toNat = 47 by omega), fun j h4 h5 => h3 j (by omega) h5⟩)
  · rcases Int.lt_or_le i j with h6 | h6
    · exact h3 j h6 h5
    · obtain rfl : j = i.toNat := by omega
      intro e
      exact he (by rw [e]; rfl)
  · exact h (-1) (.inl ⟨rfl, fun j hj => h3 j (by omega) hj⟩)
theorem rbase_M {p : List UInt8} {K : List UInt8 → Prop} (hp : p.length ≤ 4000000000) (h : ∀ r, LastIs p 47 r → K (p.drop (r + 1).toNat)) : M_smithyref1_Base p K := by
  unfold M_smithyref1_Base
  refine ⟨by simp only [In]; omega, fun i => -1 ≤ i ∧ i < p.length ∧ ∀ j : Nat, i < j → j < p.length → p.getD j 0 ≠ 47, fun i => (i + 1).toNat, ⟨by omega, by omega, fun j h1 h2 => by omega⟩, ?_⟩
  rintro i ⟨h1, h2, h3⟩
  refine ⟨fun h0 => ⟨by omega, fun he => ⟨by simp only [In]; omega, by omega, ?_⟩, fun he => ⟨by simp only [In]; omega, ⟨by omega, by omega, fun j h4 h5 => ?_⟩, by dsimp only; omega⟩⟩, fun h0 => ?_⟩
  · exact h i (.inr ⟨i.toNat, by omega, by omega, UInt8.toNat_inj.mp (show (p.getD i.toNat 0).toNat = 47 by omega), fun j h4 h5 => h3 j (by omega) h5⟩)
  · rcases Int.lt_or_le i j with h6 | h6
    · exact h3 j h6 h5
    · obtain rfl : j = i.toNat := by omega
      intro e
      exact he (by rw [e]; rfl)
  · exact h (-1) (.inl ⟨rfl, fun j hj => h3 j (by omega) hj⟩)
theorem runder_M {p d : List UInt8} {K : Bool → Prop} (h : K (underB p d)) : M_smithyref1_Under p d K := by
  unfold M_smithyref1_Under
  unfold underB at h
  refine ⟨fun e => ?_, fun e => ⟨fun h1 => ?_, fun h1 => ?_, ?_⟩⟩
  · rw [if_pos e] at h; exact h
  · have := of_decide_eq_true h1; omega
  · rw [Bool.and_eq_true] at h1
    have := of_decide_eq_true h1.1; omega
  · rw [if_neg e] at h
    have heq : ((decide ((d.length : Int) < (p.length : Int)) && decide (p.take (d.length : Int).toNat = d)) && decide (((p.getD (d.length : Int).toNat 0).toNat : Int) = 47)) = (d ++ [47]).isPrefixOf p := by
      rw [Bool.eq_iff_iff, Bool.and_eq_true, Bool.and_eq_true, decide_eq_true_eq, decide_eq_true_eq, decide_eq_true_eq, List.isPrefixOf_iff_prefix, Int.toNat_natCast]
      constructor
      · rintro ⟨⟨h1, h2⟩, h3⟩
        have hlt : d.length < p.length := by omega
        have h4 : p[d.length] = 47 := by
          have : p.getD d.length 0 = 47 := UInt8.toNat_inj.mp (show (p.getD d.length 0).toNat = 47 by omega)
          simpa [List.getD, hlt] using this
        have : d ++ [47] = p.take (d.length + 1) := by rw [List.take_succ_eq_append_getElem hlt, h2, h4]
        rw [this]
        exact List.take_prefix _ _
      · rintro ⟨t, rfl⟩
        refine ⟨⟨by simp; omega, by simp⟩, by simp [List.getD]⟩
    rw [heq]
    exact h
theorem wt_le {l : List (List UInt8)} (h : ∀ x ∈ l, x.length ≤ 300) : wt l ≤ 301 * l.length := by
  induction l with
  | nil => simp [wt]
  | cons x l ih =>
    have h1 := h x (by simp)
    have h2 := ih (fun y hy => h y (by simp [hy]))
    simp only [wt, List.length_cons]
    omega
theorem code_M {b : Bool} {K : Int → Prop} (h : K (if b then 0 else 112)) : M_smithylaw1_code b K := by
  refine ⟨fun e => ?_, fun e => ?_⟩ <;> subst e <;> exact h
theorem is_oE (x : Option (List UInt8)) : isB (oE x) (if x.isSome then 0 else 112) = true := by cases x <;> rfl
theorem says_ok {p d : List UInt8} {l : List (List UInt8)} {K : Bool → Prop} (_ : p.length ≤ maxLen) (_ : d.length ≤ maxLen) (_ : ∀ x ∈ l, x.length ≤ maxLen) (H : K true) : M_smithylaw1_PathSays p d l K := by
  intro _
  refine first_M ⟨fun h => by simp at h, fun _ => ⟨fun _ => H, fun h1 => ?_⟩⟩
  have h2 : (p.length ≤ 500 ∧ d.length ≤ 500) ∧ l.length ≤ 10 := by simp at h1; omega
  refine ⟨fun i => ∃ k : Nat, i = k ∧ k ≤ l.length ∧ ∀ j, j < k → (l.getD j []).length ≤ 300, fun i => l.length - i.toNat, ⟨0, rfl, by omega, fun j hj => by omega⟩, ?_⟩
  rintro _ ⟨k, rfl, hk, hall⟩
  refine ⟨fun hlt => ⟨by omega, fun _ => H, fun h3 => ⟨by simp only [In]; omega, ⟨k + 1, by omega, by omega, fun j hj => ?_⟩, by dsimp only; omega⟩⟩, fun hge => ?_⟩
  · rw [Int.toNat_natCast] at h3
    by_cases e : j = k
    · rw [e]; omega
    · exact hall j (by omega)
  have hl : wt l ≤ 3010 := by
    have := wt_le (l := l) fun x hx => by
      obtain ⟨j, hj, rfl⟩ := List.getElem_of_mem hx
      have := hall j (by omega)
      simpa [List.getD, hj] using this
    omega
  have hg := glue_length l
  refine clean_M (by omega) (kc (rclean_M (by omega) (kr (join_M (by omega) (by omega) (kc (rjoin_M (by omega) (kr ?_)))))))
  refine ⟨fun b => b = true, ⟨fun _ => code_M (is_M (is_oE _)), fun h => by simp at h⟩, ?_⟩
  rintro _ rfl
  refine ⟨fun b => b = true, ⟨fun _ => code_M (is_M (is_oE _)), fun h => by simp at h⟩, ?_⟩
  rintro _ rfl
  refine ⟨fun b => b = true, ⟨fun _ => valid_M (by omega) (rclean_M (by omega) (kr ?_)), fun h => by simp at h⟩, ?_⟩
  · rw [valid_is]; simp
  rintro _ rfl
  refine ⟨fun b => b = true, ⟨fun _ => dir_M (by omega) fun r hr => rdir_M (by omega) fun s hs => by rw [last_uniq hr hs]; simp, fun h => by simp at h⟩, ?_⟩
  rintro _ rfl
  refine ⟨fun b => b = true, ⟨fun _ => base_M (by omega) fun r hr => rbase_M (by omega) fun s hs => by rw [last_uniq hr hs]; simp, fun h => by simp at h⟩, ?_⟩
  rintro _ rfl
  refine ⟨fun b => b = true, ⟨fun _ => under_M (by omega) (runder_M (by simp)), fun h => by simp at h⟩, ?_⟩
  rintro _ rfl
  exact H
end Go.Proofs.YtcfljnfaakjdjaaDoor
 