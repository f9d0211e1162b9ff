/- NumSays (the card): any two numbers, added, taken away, multiplied, divided, held against each other, are what the chapter says; they stay. -/
import Derived.Test.YtilphcippnfklaaDoorJ6
import Derived.Test.YtilphcippnfklaaDoorCards
import Derived.Test.YtilphcippnfklaaDoorTie
import Derived.Lay
import Derived.ChangeMaps5
namespace Go.Proofs.YtilphcippnfklaaDoor
open Go Go.RowKit Go.WideShapes Go.ChangeShapes Go.ChangeAt
theorem ownNumSays : ownKnob Tryd.prog.godebug = none := by kernel_rfl
theorem laidOutNumSays : laidOutB Tryd.prog = true := by kernel_rfl
theorem numSays_met (os : Os) : laidMetH Tryd.prog Rows.numSaysRow.laid ((World.doorLaid Tryd.prog 342 os).forCall (fun _ _ => 0) ⟨#[], #[.string ⟨⟨[]⟩⟩, .string ⟨⟨[]⟩⟩], []⟩).memory :=
  laidMetH_of_parts3 (fuel := 8) (laidMet_of_run' 8 (by kernel_rfl) (by kernel_rfl)) (by kernel_rfl) (by kernel_rfl)
set_option maxRecDepth 100000 in
theorem numSays_lifted (os : Os) (started : os.Started) (H : Type) (enc : TypeId × Value → H) :
    ReturnsInHanded {} Tryd.checked os 5 .any (fun w args => (Rows.numSaysSpec.pre enc Tryd.prog Tryd.f5 [] false w args ∧ laidMetH Tryd.prog Rows.numSaysRow.laid w) ∧ sizedMet enc Tryd.prog Tryd.f5 (OpenSpec.ofChange Rows.numSaysSpec) false w args)
      (Rows.numSaysSpec.post enc Tryd.prog Tryd.f5 false true false false) := by
  refine returnsInHanded_of_change_and (C := Tryd.checked) (X := fun w _ => laidMetH Tryd.prog Rows.numSaysRow.laid w) (fun _ _ _ hh h => h.of_heap hh) ownNumSays started (by kernel_rfl) Tryd.func5
    (ChangeSpec.witness_shaped (enc := enc) (C := Tryd.checked) (os := os) (X := fun w _ => laidMetH Tryd.prog Rows.numSaysRow.laid w) false (World.doorLaid Tryd.prog 342 os) #[.string ⟨⟨[]⟩⟩, .string ⟨⟨[]⟩⟩] 8 rfl (World.shaped_of_RefB (by kernel_rfl) (by kernel_rfl)) (by kernel_rfl) (by kernel_rfl) (by kernel_rfl) (numSays_met os)) ?_
  intro W base args ds gs before hval0 hW _ _ hL _
  have hval : ∀ (j : Nat) t v, Tryd.f5.params[j]? = some t → args[j]? = some v → Value.okWide Tryd.prog W .any base t v := hval0
  have hW' := hW
  obtain ⟨p, q, hA0, hV, rfl, hfz, hnd⟩ := hW
  have hA : DataW.TrodAll enc Tryd.prog W 0 (fun _ => true) true Tryd.f5.params.toList args.toList ds p := hA0
  rw [Tryd.params5] at hA hval
  obtain ⟨v0, v1, d0, d1, p0, p1, rfl, rfl, rfl, h0, h1⟩ := trodAll_two hA
  obtain ⟨rfl, rfl⟩ := trodVars_none hV
  obtain ⟨s0, rfl, rfl, rfl, hs0⟩ := ChangeMaps.open_string Tryd.underlying9 (hval 0 9 v0 rfl rfl) h0
  obtain ⟨⟨x0⟩⟩ := s0
  have hs0 : x0.length ≤ maxLen := hs0
  obtain ⟨s1, rfl, rfl, rfl, hs1⟩ := ChangeMaps.open_string Tryd.underlying9 (hval 1 9 v1 rfl rfl) h1
  obtain ⟨⟨x1⟩⟩ := s1
  have hs1 : x1.length ≤ maxLen := hs1
  have hG : GOK [0, 1, 2, 3, 4, 5, 6, 7, 8, 9, 10, 11, 12, 13, 14, 15, 16] W := gok_of_laid hL (by kernel_rfl) (by kernel_rfl) (fun h => absurd h (by decide)) (fun h => absurd h (by decide))
  have hF := W_smithylaw9_NumSays hG (by decide) (by decide) (by decide) (by decide) (by decide) (by decide) (by decide) (by decide) (by decide) (by decide) (by decide) (by decide) (by decide) (by decide) (by decide) (by decide) (by decide)   (show M_smithylaw9_NumSays x0 x1 (fun b => b = true) from says_num hs0 hs1 rfl)
  refine (hF.2 W (Eqv.refl W)).mono fun e W' ⟨r, w0, he, hE', hg, b, hv, hb⟩ => ?_
  subst hb
  subst hv
  exact ⟨_, he, post_true laidOutNumSays (by kernel_rfl) hW' rfl rfl rfl rfl rfl Tryd.underlying4 (gr_eqv hg hE')⟩
theorem numSays_said : Rows.NumSaysSaid :=
  OpenClaim.holds_of_wide 5 Tryd.f5 rfl rfl rfl rfl rfl rfl rfl ⟨rfl, rfl, rfl, rfl, rfl⟩ rfl rfl rfl rfl rfl (by kernel_rfl) Tryd.func5 (by kernel_rfl)
    (of_decide_eq_true (by kernel_rfl)) (by unfold Func.isWrapper; first | (rw [if_pos (by decide +kernel)]; kernel_rfl) | (rw [if_neg (by decide +kernel)]; exact ⟨rfl, rfl⟩))
    (fun os started H enc _ => numSays_lifted os started H enc)
theorem numSays_plain (f : FuncId) (fn : Func) (hf : Tryd.pinned.checked.prog.funcNamed "smithy/smithylaw9.NumSays" = some f) (hfn : Tryd.pinned.checked.prog.funcs[f]? = some fn) :
    true = Tryd.pinned.checked.prog.looks [] ∧ ∀ (j : Nat) t, fn.params[j]? = some t → Tryd.pinned.checked.prog.wantsStandIn t = false := by
  obtain rfl : f = 5 := Option.some.inj ((show Tryd.prog.funcNamed "smithy/smithylaw9.NumSays" = some 5 by kernel_rfl).symm.trans hf) |>.symm
  obtain rfl : fn = Tryd.f5 := (Option.some.inj (Tryd.func5.symm.trans hfn)).symm
  refine ⟨by kernel_rfl, fun j t ht => ?_⟩
  rw [Tryd.params5] at ht
  have hm := Array.mem_of_getElem? ht
  have hall : (#[9, 9] : Array TypeId).all (fun t => Tryd.prog.wantsStandIn t == false) = true := by kernel_rfl
  have := Array.all_eq_true_iff_forall_mem.mp hall t hm
  rw [beq_iff_eq] at this
  exact this
theorem numSays_card : Rows.NumSaysCardSaid :=
  Claim7.holds_tied_plain_at .later [] _ _ _ _ numSays_said (fun _ h => by cases h) (by kernel_rfl) (fun _ h => by cases h) numSays_row_tie rfl ⟨rfl, rfl⟩ (by kernel_rfl) rfl numSays_plain (by kernel_rfl)
end Go.Proofs.YtilphcippnfklaaDoor
 