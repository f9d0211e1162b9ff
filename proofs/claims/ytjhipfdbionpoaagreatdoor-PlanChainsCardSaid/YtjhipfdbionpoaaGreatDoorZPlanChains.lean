/- PlanChains: the row and the card. -/
import Derived.Test.YtjhipfdbionpoaaGreatDoorJ6
import Derived.Test.YtjhipfdbionpoaaGreatDoorCards
import Derived.Test.YtjhipfdbionpoaaGreatDoorTie
import Derived.Lay
import Derived.ChangeMaps5
namespace Go.Proofs.YtjhipfdbionpoaaGreatDoor
open Go Go.RowKit Go.WideShapes Go.ChangeShapes Go.ChangeAt
theorem ownPlanChains : ownKnob Tryz.prog.godebug = none := by kernel_rfl
theorem laidOutPlanChains : laidOutB Tryz.prog = true := by kernel_rfl
theorem planChains_met (os : Os) : laidMetH Tryz.prog Rows.planChainsRow.laid ((World.laidAll Tryz.prog os Rows.planChainsRow.laid).forCall (fun _ _ => 0) ⟨#[], #[.int .i64 0, .int .i64 0, .string ⟨⟨[]⟩⟩], []⟩).memory := by
  rw [MakeChecks.laidMetH_plain _ _ _ (by kernel_rfl)]
  exact laidMet_laidAll _ (by kernel_rfl) (by kernel_rfl)
set_option maxRecDepth 100000 in
theorem planChains_lifted (os : Os) (started : os.Started) (H : Type) (enc : TypeId × Value → H) :
    ReturnsInHanded {} Tryz.checked os 4 .any (fun w args => (Rows.planChainsSpec.pre enc Tryz.prog Tryz.f4 [] false w args ∧ laidMetH Tryz.prog Rows.planChainsRow.laid w) ∧ sizedMet enc Tryz.prog Tryz.f4 (OpenSpec.ofChange Rows.planChainsSpec) false w args)
      (Rows.planChainsSpec.post enc Tryz.prog Tryz.f4 false true false false) := by
  refine handed_both (C := Tryz.checked) (X := fun w _ => laidMetH Tryz.prog Rows.planChainsRow.laid w) (fun _ _ _ hh h => h.of_heap hh) ownPlanChains started (by kernel_rfl) Tryz.func4
    (ChangeSpec.witness_shaped (enc := enc) (C := Tryz.checked) (os := os) (X := fun w _ => laidMetH Tryz.prog Rows.planChainsRow.laid w) false (World.laidAll Tryz.prog os Rows.planChainsRow.laid) #[.int .i64 0, .int .i64 0, .string ⟨⟨[]⟩⟩] 8 (World.laidAll_os _ _ _) (World.shaped_of_ZipB (by kernel_rfl) (by kernel_rfl)) (by kernel_rfl) (by kernel_rfl) (by kernel_rfl) (planChains_met os)) ?_
  intro W base args ds gs before hval0 hW hL hsh
  have hval : ∀ (j : Nat) t v, Tryz.f4.params[j]? = some t → args[j]? = some v → Value.okWide Tryz.prog W .any base t v := hval0
  have hW' := hW
  obtain ⟨p, q, hA0, hV, rfl, hfz, hnd⟩ := hW
  have hA : DataW.TrodAll enc Tryz.prog W 0 (fun _ => true) true Tryz.f4.params.toList args.toList ds p := hA0
  rw [Tryz.params4] at hA hval
  obtain ⟨v0, v1, v2, d0, d1, d2, p0, p1, p2, rfl, rfl, rfl, h0, h1, h2⟩ := trodAll_three hA
  obtain ⟨rfl, rfl⟩ := trodVars_none hV
  obtain ⟨x0, rfl, rfl, rfl, hx0⟩ := open_int Tryz.underlying3 (hval 0 3 v0 rfl rfl) h0
  have hx0 : In .i64 x0 := by simpa [Lit.wf, In, IntKind.min, IntKind.max, IntKind.signed, IntKind.bits] using hx0
  obtain ⟨x1, rfl, rfl, rfl, hx1⟩ := open_int Tryz.underlying3 (hval 1 3 v1 rfl rfl) h1
  have hx1 : In .i64 x1 := by simpa [Lit.wf, In, IntKind.min, IntKind.max, IntKind.signed, IntKind.bits] using hx1
  obtain ⟨s2, rfl, rfl, rfl, hs2⟩ := ChangeMaps.open_string Tryz.underlying9 (hval 2 9 v2 rfl rfl) h2
  obtain ⟨⟨x2⟩⟩ := s2
  have hs2 : x2.length ≤ maxLen := hs2
  have hG : GOK [4, 6, 9, 10, 11, 16, 100, 101] W := gok_of_laid hL (by kernel_rfl) (by kernel_rfl) (fun _ => maxLenCell hsh) (fun _ => tab_of_laid (g := 7) hL (by kernel_rfl) (by kernel_rfl) (by kernel_rfl) Tryz.underlying232 Tryz.underlying131 (by kernel_rfl) (by kernel_rfl) (List.mem_of_getElem? (i := 2) (by kernel_rfl)))
  have hF := W_smithylaw26_PlanChains hG (by decide) (by decide) (by decide) (by decide) (by decide) (by decide) (by decide) (by decide)    (show M_smithylaw26_PlanChains x0 x1 x2 (fun b => b = true) from chains_pl3 hx0 hx1 hs2 rfl)
  refine (hF.2 W (Eqv.refl W)).mono fun e W' ⟨r, w0, he, hE', hg, b, hv, hb⟩ => ?_
  subst hb
  subst hv
  exact ⟨_, he, post_true laidOutPlanChains (by kernel_rfl) hW' rfl rfl rfl rfl rfl Tryz.underlying4 (gr_eqv hg hE')⟩
theorem planChains_said : Rows.PlanChainsSaid :=
  OpenClaim.holds_of_wide 4 Tryz.f4 rfl rfl rfl rfl rfl rfl rfl ⟨rfl, rfl, rfl, rfl, rfl⟩ rfl rfl rfl rfl rfl (by kernel_rfl) Tryz.func4 (by kernel_rfl)
    (of_decide_eq_true (by kernel_rfl)) (by unfold Func.isWrapper; first | (rw [if_pos (by decide +kernel)]; kernel_rfl) | (rw [if_neg (by decide +kernel)]; exact ⟨rfl, rfl⟩))
    (fun os started H enc _ => planChains_lifted os started H enc)
theorem planChains_plain (f : FuncId) (fn : Func) (hf : Tryz.pinned.checked.prog.funcNamed "smithy/smithylaw26.PlanChains" = some f) (hfn : Tryz.pinned.checked.prog.funcs[f]? = some fn) :
    false = Tryz.pinned.checked.prog.looks [] ∧ ∀ (j : Nat) t, fn.params[j]? = some t → Tryz.pinned.checked.prog.wantsStandIn t = false := by
  obtain rfl : f = 4 := Option.some.inj ((show Tryz.prog.funcNamed "smithy/smithylaw26.PlanChains" = some 4 by kernel_rfl).symm.trans hf) |>.symm
  obtain rfl : fn = Tryz.f4 := (Option.some.inj (Tryz.func4.symm.trans hfn)).symm
  refine ⟨by kernel_rfl, fun j t ht => ?_⟩
  rw [Tryz.params4] at ht
  have hm := Array.mem_of_getElem? ht
  have hall : (#[3, 3, 9] : Array TypeId).all (fun t => Tryz.prog.wantsStandIn t == false) = true := by kernel_rfl
  have := Array.all_eq_true_iff_forall_mem.mp hall t hm
  rw [beq_iff_eq] at this
  exact this
theorem planChains_card : Rows.PlanChainsCardSaid :=
  Claim7.holds_tied_plain_at .later [] _ _ _ _ planChains_said (fun _ h => by cases h) (by kernel_rfl) (fun _ h => by cases h) planChains_row_tie rfl ⟨rfl, rfl⟩ (by kernel_rfl) rfl planChains_plain (by kernel_rfl)
end Go.Proofs.YtjhipfdbionpoaaGreatDoor

 