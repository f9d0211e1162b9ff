/- ToolSays: any tool, any arguments, any texts. -/
import Derived.Test.YtilphcippnfklaaGreatDoorJ6
import Derived.Test.YtilphcippnfklaaGreatDoorCards
import Derived.Test.YtilphcippnfklaaGreatDoorTie
import Derived.Lay
import Derived.ChangeMaps5
namespace Go.Proofs.YtilphcippnfklaaGreatDoor
open Go Go.RowKit Go.WideShapes Go.ChangeShapes Go.ChangeAt
theorem ownToolSays : ownKnob Tryz.prog.godebug = none := by kernel_rfl
theorem laidOutToolSays : laidOutB Tryz.prog = true := by kernel_rfl
theorem toolSays_met (os : Os) : laidMetH Tryz.prog Rows.toolSaysRow.laid ((World.laidAll Tryz.prog os Rows.toolSaysRow.laid).forCall (fun _ _ => 0) ⟨#[], #[.int .i64 0, .slice none 0 0, .slice none 0 0, .string ⟨⟨[]⟩⟩], []⟩).memory := by
  rw [MakeChecks.laidMetH_plain _ _ _ (by kernel_rfl)]
  exact laidMet_laidAll _ (by kernel_rfl) (by kernel_rfl)
set_option maxRecDepth 100000 in
theorem toolSays_lifted (os : Os) (started : os.Started) (H : Type) (enc : TypeId × Value → H) :
    ReturnsInHanded {} Tryz.checked os 4 .any (fun w args => (Rows.toolSaysSpec.pre enc Tryz.prog Tryz.f4 [] false w args ∧ laidMetH Tryz.prog Rows.toolSaysRow.laid w) ∧ sizedMet enc Tryz.prog Tryz.f4 (OpenSpec.ofChange Rows.toolSaysSpec) false w args)
      (Rows.toolSaysSpec.post enc Tryz.prog Tryz.f4 false true false false) := by
  refine handed_both (C := Tryz.checked) (X := fun w _ => laidMetH Tryz.prog Rows.toolSaysRow.laid w) (fun _ _ _ hh h => h.of_heap hh) ownToolSays started (by kernel_rfl) Tryz.func4
    (ChangeSpec.witness_shaped (enc := enc) (C := Tryz.checked) (os := os) (X := fun w _ => laidMetH Tryz.prog Rows.toolSaysRow.laid w) false (World.laidAll Tryz.prog os Rows.toolSaysRow.laid) #[.int .i64 0, .slice none 0 0, .slice none 0 0, .string ⟨⟨[]⟩⟩] 8 (World.laidAll_os _ _ _) (World.shaped_of_ZipB (by kernel_rfl) (by kernel_rfl)) (by kernel_rfl) (by kernel_rfl) (by kernel_rfl) (toolSays_met os)) ?_
  intro W base args ds gs before hval0 hW hL hsh
  have hval : ∀ (j : Nat) t v, Tryz.f4.params[j]? = some t → args[j]? = some v → Value.okWide Tryz.prog W .any base t v := hval0
  have hW' := hW
  obtain ⟨p, q, hA0, hV, rfl, hfz, hnd⟩ := hW
  have hA : DataW.TrodAll enc Tryz.prog W 0 (fun _ => true) true Tryz.f4.params.toList args.toList ds p := hA0
  rw [Tryz.params4] at hA hval
  obtain ⟨v0, v1, v2, v3, d0, d1, d2, d3, p0, p1, p2, p3, rfl, rfl, rfl, h0, h1, h2, h3⟩ := trodAll_four hA
  obtain ⟨rfl, rfl⟩ := trodVars_none hV
  obtain ⟨x0, rfl, rfl, rfl, hx0⟩ := open_int Tryz.underlying3 (hval 0 3 v0 rfl rfl) h0
  have hx0 : In .i64 x0 := by simpa [Lit.wf, In, IntKind.min, IntKind.max, IntKind.signed, IntKind.bits] using hx0
  obtain ⟨A1, c1, x1, rfl, hR1, hx1⟩ := open_rds Tryz.underlying22 Tryz.underlying9 (by kernel_rfl) (hval 1 22 v1 rfl rfl) h1
  obtain ⟨A2, c2, x2, rfl, hR2, hx2⟩ := open_rds Tryz.underlying22 Tryz.underlying9 (by kernel_rfl) (hval 2 22 v2 rfl rfl) h2
  obtain ⟨s3, rfl, rfl, rfl, hs3⟩ := ChangeMaps.open_string Tryz.underlying9 (hval 3 9 v3 rfl rfl) h3
  obtain ⟨⟨x3⟩⟩ := s3
  have hs3 : x3.length ≤ maxLen := hs3
  have hG : GOK [0, 1, 2, 3, 4, 5, 6, 7, 8, 9, 10, 11, 12, 13, 14, 15, 16, 100] W := gok_of_laid hL (by kernel_rfl) (by kernel_rfl) (fun _ => maxLenCell hsh) (fun h => absurd h (by decide))
  have hF := W_smithylaw23_ToolSays hG (by decide) (by decide) (by decide) (by decide) (by decide) (by decide) (by decide) (by decide) (by decide) (by decide) (by decide) (by decide) (by decide) (by decide) (by decide) (by decide) (by decide) (by decide)  hR1 rfl hR2 rfl  (show M_smithylaw23_ToolSays x0 x1 x2 x3 (fun b => b = true) from tsays_ok hx0 hx1 hx2 hs3 rfl)
  refine (hF.2 W (Eqv.refl W)).mono fun e W' ⟨r, w0, he, hE', hg, b, hv, hb⟩ => ?_
  subst hb
  subst hv
  exact ⟨_, he, post_true laidOutToolSays (by kernel_rfl) hW' rfl rfl rfl rfl rfl Tryz.underlying4 (gr_eqv hg hE')⟩
theorem toolSays_said : Rows.ToolSaysSaid :=
  OpenClaim.holds_of_wide 4 Tryz.f4 rfl rfl rfl rfl rfl rfl rfl ⟨rfl, rfl, rfl, rfl, rfl⟩ rfl rfl rfl rfl rfl (by kernel_rfl) Tryz.func4 (by kernel_rfl)
    (of_decide_eq_true (by kernel_rfl)) (by unfold Func.isWrapper; first | (rw [if_pos (by decide +kernel)]; kernel_rfl) | (rw [if_neg (by decide +kernel)]; exact ⟨rfl, rfl⟩))
    (fun os started H enc _ => toolSays_lifted os started H enc)
theorem toolSays_plain (f : FuncId) (fn : Func) (hf : Tryz.pinned.checked.prog.funcNamed "smithy/smithylaw23.ToolSays" = some f) (hfn : Tryz.pinned.checked.prog.funcs[f]? = some fn) :
    true = Tryz.pinned.checked.prog.looks [] ∧ ∀ (j : Nat) t, fn.params[j]? = some t → Tryz.pinned.checked.prog.wantsStandIn t = false := by
  obtain rfl : f = 4 := Option.some.inj ((show Tryz.prog.funcNamed "smithy/smithylaw23.ToolSays" = some 4 by kernel_rfl).symm.trans hf) |>.symm
  obtain rfl : fn = Tryz.f4 := (Option.some.inj (Tryz.func4.symm.trans hfn)).symm
  refine ⟨by kernel_rfl, fun j t ht => ?_⟩
  rw [Tryz.params4] at ht
  have hm := Array.mem_of_getElem? ht
  have hall : (#[3, 22, 22, 9] : Array TypeId).all (fun t => Tryz.prog.wantsStandIn t == false) = true := by kernel_rfl
  have := Array.all_eq_true_iff_forall_mem.mp hall t hm
  rw [beq_iff_eq] at this
  exact this
theorem toolSays_card : Rows.ToolSaysCardSaid :=
  Claim7.holds_tied_plain_at .later [] _ _ _ _ toolSays_said (fun _ h => by cases h) (by kernel_rfl) (fun _ h => by cases h) toolSays_row_tie rfl ⟨rfl, rfl⟩ (by kernel_rfl) rfl toolSays_plain (by kernel_rfl)
end Go.Proofs.YtilphcippnfklaaGreatDoor
 