/- ListOvers. -/
import Derived.Test.YtjoepdjeekadcaaGreatDoorJ6
import Derived.Test.YtjoepdjeekadcaaGreatDoorCards
import Derived.Test.YtjoepdjeekadcaaGreatDoorTie
import Derived.Lay
import Derived.ChangeMaps5
namespace Go.Proofs.YtjoepdjeekadcaaGreatDoor
open Go Go.RowKit Go.WideShapes Go.ChangeShapes Go.ChangeAt
theorem ownListOvers : ownKnob Tryz.prog.godebug = none := by kernel_rfl
theorem laidOutListOvers : laidOutB Tryz.prog = true := by kernel_rfl
theorem listOvers_met (os : Os) : laidMetH Tryz.prog Rows.listOversRow.laid ((World.doorLaid Tryz.prog 347 os).forCall (fun _ _ => 0) ⟨#[], #[.slice none 0 0, .int .i64 0], []⟩).memory :=
  laidMetH_of_parts3 (fuel := 8) (laidMet_of_run' 8 (by kernel_rfl) (by kernel_rfl)) (by kernel_rfl) (by kernel_rfl)
set_option maxRecDepth 100000 in
theorem listOvers_lifted (os : Os) (started : os.Started) (H : Type) (enc : TypeId × Value → H) :
    ReturnsInHanded {} Tryz.checked os 4 .any (fun w args => (Rows.listOversSpec.pre enc Tryz.prog Tryz.f4 [] false w args ∧ laidMetH Tryz.prog Rows.listOversRow.laid w) ∧ sizedMet enc Tryz.prog Tryz.f4 (OpenSpec.ofChange Rows.listOversSpec) false w args)
      (Rows.listOversSpec.post enc Tryz.prog Tryz.f4 false true false false) := by
  refine returnsInHanded_of_change_and (C := Tryz.checked) (X := fun w _ => laidMetH Tryz.prog Rows.listOversRow.laid w) (fun _ _ _ hh h => h.of_heap hh) ownListOvers started (by kernel_rfl) Tryz.func4
    (ChangeSpec.witness_shaped (enc := enc) (C := Tryz.checked) (os := os) (X := fun w _ => laidMetH Tryz.prog Rows.listOversRow.laid w) false (World.doorLaid Tryz.prog 347 os) #[.slice none 0 0, .int .i64 0] 8 rfl (World.shaped_of_RefB (by kernel_rfl) (by kernel_rfl)) (by kernel_rfl) (by kernel_rfl) (by kernel_rfl) (listOvers_met os)) ?_
  intro W base args ds gs before hval0 hW _ _ hL _
  have hval : ∀ (j : Nat) t v, Tryz.f4.params[j]? = some t → args[j]? = some v → Value.okWide Tryz.prog W .any base t v := hval0
  have hW' := hW
  obtain ⟨p, q, hA0, hV, rfl, hfz, hnd⟩ := hW
  have hA : DataW.TrodAll enc Tryz.prog W 0 (fun _ => true) true Tryz.f4.params.toList args.toList ds p := hA0
  rw [Tryz.params4] at hA hval
  obtain ⟨v0, v1, d0, d1, p0, p1, rfl, rfl, rfl, h0, h1⟩ := trodAll_two hA
  obtain ⟨rfl, rfl⟩ := trodVars_none hV
  obtain ⟨A0, c0, x0, rfl, hR0, hx0⟩ := open_rdi Tryz.underlying28 Tryz.underlying3 (by kernel_rfl) (hval 0 28 v0 rfl rfl) h0
  obtain ⟨x1, rfl, rfl, rfl, hx1⟩ := open_int Tryz.underlying3 (hval 1 3 v1 rfl rfl) h1
  have hx1 : In .i64 x1 := by simpa [Lit.wf, In, IntKind.min, IntKind.max, IntKind.signed, IntKind.bits] using hx1
  have hG : GOK [0, 1, 2, 3, 4, 5, 6, 7, 8, 9, 10, 11, 12, 13, 14, 15, 16] W := gok_of_laid hL (by kernel_rfl) (by kernel_rfl) (fun h => absurd h (by decide)) (fun h => absurd h (by decide))
  have hF := W_smithylaw12_ListOvers hG (by decide) (by decide) (by decide) (by decide) (by decide) (by decide) (by decide) (by decide) (by decide) (by decide) (by decide) (by decide) (by decide) (by decide) (by decide) (by decide) (by decide) hR0 rfl  (show jL x0 x1 (fun b => b = true) from overs_lo hx0 hx1 rfl)
  refine (hF.2 W (Eqv.refl W)).mono fun e W' ⟨r, w0, he, hE', hg, b, hv, hb⟩ => ?_
  subst hb
  subst hv
  exact ⟨_, he, post_true laidOutListOvers (by kernel_rfl) hW' rfl rfl rfl rfl rfl Tryz.underlying4 (jo hg hE')⟩
theorem listOvers_inPlace : (Rows.listOversRow.inPlace == Tryz.pinned.checked.prog.inPlace 4) = true := by kernel_rfl
theorem listOvers_unfollowed : (Rows.listOversRow.unfollowed == Tryz.pinned.checked.prog.unfollowed 4) = true := by kernel_rfl
theorem listOvers_recurses : (Rows.listOversRow.recurses == Tryz.pinned.checked.prog.recurses 4) = true := by kernel_rfl
theorem listOvers_named : (Rows.listOversRow.named == Tryz.pinned.checked.prog.varsNamed 4) = true := by kernel_rfl
theorem listOvers_closed : joinedFacts Tryz.pinned.checked.prog 4 Tryz.f4 Rows.listOversSpec Rows.listOversRow = true := by
  unfold joinedFacts
  rw [listOvers_inPlace, listOvers_unfollowed, listOvers_recurses, listOvers_named]
  kernel_rfl
theorem listOvers_said : Rows.ListOversSaid :=
  OpenClaim.holds_of_wide 4 Tryz.f4 rfl rfl rfl rfl rfl rfl rfl ⟨rfl, rfl, rfl, rfl, rfl⟩ rfl rfl rfl rfl rfl (by kernel_rfl) Tryz.func4 listOvers_closed
    (of_decide_eq_true (by kernel_rfl)) (by unfold Func.isWrapper; first | (rw [if_pos (by decide +kernel)]; kernel_rfl) | (rw [if_neg (by decide +kernel)]; exact ⟨rfl, rfl⟩))
    (fun os started H enc _ => listOvers_lifted os started H enc)
theorem listOvers_plain (f : FuncId) (fn : Func) (hf : Tryz.pinned.checked.prog.funcNamed "smithy/smithylaw12.ListOvers" = some f) (hfn : Tryz.pinned.checked.prog.funcs[f]? = some fn) :
    true = Tryz.pinned.checked.prog.looks [] ∧ ∀ (j : Nat) t, fn.params[j]? = some t → Tryz.pinned.checked.prog.wantsStandIn t = false := by
  obtain rfl : f = 4 := Option.some.inj ((show Tryz.prog.funcNamed "smithy/smithylaw12.ListOvers" = some 4 by kernel_rfl).symm.trans hf) |>.symm
  obtain rfl : fn = Tryz.f4 := (Option.some.inj (Tryz.func4.symm.trans hfn)).symm
  refine ⟨by kernel_rfl, fun j t ht => ?_⟩
  rw [Tryz.params4] at ht
  have hm := Array.mem_of_getElem? ht
  have hall : (#[28, 3] : Array TypeId).all (fun t => Tryz.prog.wantsStandIn t == false) = true := by kernel_rfl
  have := Array.all_eq_true_iff_forall_mem.mp hall t hm
  rw [beq_iff_eq] at this
  exact this
theorem listOvers_card : Rows.ListOversCardSaid :=
  Claim7.holds_tied_plain_at .later [] _ _ _ _ listOvers_said (fun _ h => by cases h) (by kernel_rfl) (fun _ h => by cases h) listOvers_row_tie rfl ⟨rfl, rfl⟩ (by kernel_rfl) rfl listOvers_plain (by kernel_rfl)
end Go.Proofs.YtjoepdjeekadcaaGreatDoor

 