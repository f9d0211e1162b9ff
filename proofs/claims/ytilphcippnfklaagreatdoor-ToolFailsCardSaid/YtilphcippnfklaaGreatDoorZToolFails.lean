/- ToolFails (the card): arguments that a tool does not take fail, whatever it reads; a tool that is none is told; too great a text fails. -/
import Derived.Test.YtilphcippnfklaaGreatDoorJ6
import Derived.Test.YtilphcippnfklaaGreatDoorCards
import Derived.Test.YtilphcippnfklaaGreatDoorTie
import Derived.Lay
import Derived.ChangeMaps5
namespace Go.Proofs.YtilphcippnfklaaGreatDoor
open Go Go.RowKit Go.WideShapes Go.ChangeShapes Go.ChangeAt
theorem ownToolFails : ownKnob Tryz.prog.godebug = none := by kernel_rfl
theorem laidOutToolFails : laidOutB Tryz.prog = true := by kernel_rfl
theorem toolFails_met (os : Os) : laidMetH Tryz.prog Rows.toolFailsRow.laid ((World.laidAll Tryz.prog os Rows.toolFailsRow.laid).forCall (fun _ _ => 0) ⟨#[], #[.int .i64 0, .slice none 0 0, .int .i64 0], []⟩).memory := by
  rw [MakeChecks.laidMetH_plain _ _ _ (by kernel_rfl)]
  exact laidMet_laidAll _ (by kernel_rfl) (by kernel_rfl)
set_option maxRecDepth 100000 in
theorem toolFails_lifted (os : Os) (started : os.Started) (H : Type) (enc : TypeId × Value → H) :
    ReturnsInHanded {} Tryz.checked os 3 .any (fun w args => (Rows.toolFailsSpec.pre enc Tryz.prog Tryz.f3 [] false w args ∧ laidMetH Tryz.prog Rows.toolFailsRow.laid w) ∧ sizedMet enc Tryz.prog Tryz.f3 (OpenSpec.ofChange Rows.toolFailsSpec) false w args)
      (Rows.toolFailsSpec.post enc Tryz.prog Tryz.f3 false true false false) := by
  refine handed_both (C := Tryz.checked) (X := fun w _ => laidMetH Tryz.prog Rows.toolFailsRow.laid w) (fun _ _ _ hh h => h.of_heap hh) ownToolFails started (by kernel_rfl) Tryz.func3
    (ChangeSpec.witness_shaped (enc := enc) (C := Tryz.checked) (os := os) (X := fun w _ => laidMetH Tryz.prog Rows.toolFailsRow.laid w) false (World.laidAll Tryz.prog os Rows.toolFailsRow.laid) #[.int .i64 0, .slice none 0 0, .int .i64 0] 8 (World.laidAll_os _ _ _) (World.shaped_of_ZipB (by kernel_rfl) (by kernel_rfl)) (by kernel_rfl) (by kernel_rfl) (by kernel_rfl) (toolFails_met os)) ?_
  intro W base args ds gs before hval0 hW hL hsh
  have hval : ∀ (j : Nat) t v, Tryz.f3.params[j]? = some t → args[j]? = some v → Value.okWide Tryz.prog W .any base t v := hval0
  have hW' := hW
  obtain ⟨p, q, hA0, hV, rfl, hfz, hnd⟩ := hW
  have hA : DataW.TrodAll enc Tryz.prog W 0 (fun _ => true) true Tryz.f3.params.toList args.toList ds p := hA0
  rw [Tryz.params3] at hA hval
  obtain ⟨v0, v1, v2, d0, d1, d2, p0, p1, p2, rfl, rfl, rfl, h0, h1, h2⟩ := trodAll_three hA
  obtain ⟨rfl, rfl⟩ := trodVars_none hV
  obtain ⟨x0, rfl, rfl, rfl, hx0⟩ := open_int Tryz.underlying3 (hval 0 3 v0 rfl rfl) h0
  have hx0 : In .i64 x0 := by simpa [Lit.wf, In, IntKind.min, IntKind.max, IntKind.signed, IntKind.bits] using hx0
  obtain ⟨A1, c1, x1, rfl, hR1, hx1⟩ := open_rds Tryz.underlying22 Tryz.underlying9 (by kernel_rfl) (hval 1 22 v1 rfl rfl) h1
  obtain ⟨x2, rfl, rfl, rfl, hx2⟩ := open_int Tryz.underlying3 (hval 2 3 v2 rfl rfl) h2
  have hx2 : In .i64 x2 := by simpa [Lit.wf, In, IntKind.min, IntKind.max, IntKind.signed, IntKind.bits] using hx2
  have hG : GOK [0, 1, 2, 3, 4, 5, 6, 7, 8, 9, 10, 11, 12, 13, 14, 15, 16, 100] W := gok_of_laid hL (by kernel_rfl) (by kernel_rfl) (fun _ => maxLenCell hsh) (fun h => absurd h (by decide))
  have hF := W_smithylaw23_ToolFails hG (by decide) (by decide) (by decide) (by decide) (by decide) (by decide) (by decide) (by decide) (by decide) (by decide) (by decide) (by decide) (by decide) (by decide) (by decide) (by decide) (by decide) (by decide)  hR1 rfl  (show M_smithylaw23_ToolFails x0 x1 x2 (fun b => b = true) from fails_ok hx0 hx1 hx2 rfl)
  refine (hF.2 W (Eqv.refl W)).mono fun e W' ⟨r, w0, he, hE', hg, b, hv, hb⟩ => ?_
  subst hb
  subst hv
  exact ⟨_, he, post_true laidOutToolFails (by kernel_rfl) hW' rfl rfl rfl rfl rfl Tryz.underlying4 (gr_eqv hg hE')⟩
theorem toolFails_said : Rows.ToolFailsSaid :=
  OpenClaim.holds_of_wide 3 Tryz.f3 rfl rfl rfl rfl rfl rfl rfl ⟨rfl, rfl, rfl, rfl, rfl⟩ rfl rfl rfl rfl rfl (by kernel_rfl) Tryz.func3 (by kernel_rfl)
    (of_decide_eq_true (by kernel_rfl)) (by unfold Func.isWrapper; first | (rw [if_pos (by decide +kernel)]; kernel_rfl) | (rw [if_neg (by decide +kernel)]; exact ⟨rfl, rfl⟩))
    (fun os started H enc _ => toolFails_lifted os started H enc)
theorem toolFails_plain (f : FuncId) (fn : Func) (hf : Tryz.pinned.checked.prog.funcNamed "smithy/smithylaw23.ToolFails" = some f) (hfn : Tryz.pinned.checked.prog.funcs[f]? = some fn) :
    true = Tryz.pinned.checked.prog.looks [] ∧ ∀ (j : Nat) t, fn.params[j]? = some t → Tryz.pinned.checked.prog.wantsStandIn t = false := by
  obtain rfl : f = 3 := Option.some.inj ((show Tryz.prog.funcNamed "smithy/smithylaw23.ToolFails" = some 3 by kernel_rfl).symm.trans hf) |>.symm
  obtain rfl : fn = Tryz.f3 := (Option.some.inj (Tryz.func3.symm.trans hfn)).symm
  refine ⟨by kernel_rfl, fun j t ht => ?_⟩
  rw [Tryz.params3] at ht
  have hm := Array.mem_of_getElem? ht
  have hall : (#[3, 22, 3] : Array TypeId).all (fun t => Tryz.prog.wantsStandIn t == false) = true := by kernel_rfl
  have := Array.all_eq_true_iff_forall_mem.mp hall t hm
  rw [beq_iff_eq] at this
  exact this
theorem toolFails_card : Rows.ToolFailsCardSaid :=
  Claim7.holds_tied_plain_at .later [] _ _ _ _ toolFails_said (fun _ h => by cases h) (by kernel_rfl) (fun _ h => by cases h) toolFails_row_tie rfl ⟨rfl, rfl⟩ (by kernel_rfl) rfl toolFails_plain (by kernel_rfl)
end Go.Proofs.YtilphcippnfklaaGreatDoor
 