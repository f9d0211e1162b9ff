/- ListRanges: a range has the items that it says, each found where it stands, none else; gone over, all, in order: for every argument. -/
import Derived.Test.YtjoepdjeekadcaaGreatDoorJ5
import Derived.Test.YtjoepdjeekadcaaGreatDoorCards
import Derived.Test.YtjoepdjeekadcaaGreatDoorTie
import Derived.Lay
import Derived.ChangeMaps5
namespace Go.Proofs.YtjoepdjeekadcaaGreatDoor
open Go Go.RowKit Go.WideShapes Go.ChangeShapes Go.ChangeAt
theorem ownListRanges : ownKnob Tryz.prog.godebug = none := by kernel_rfl
theorem laidOutListRanges : laidOutB Tryz.prog = true := by kernel_rfl
theorem listRanges_met (os : Os) : laidMetH Tryz.prog Rows.listRangesRow.laid ((World.doorLaid Tryz.prog 347 os).forCall (fun _ _ => 0) ⟨#[], #[.int .i64 0, .int .i64 0, .int .i64 0, .int .i64 0], []⟩).memory :=
  laidMetH_of_parts3 (fuel := 8) (laidMet_of_run' 8 (by kernel_rfl) (by kernel_rfl)) (by kernel_rfl) (by kernel_rfl)
set_option maxRecDepth 100000 in
theorem listRanges_lifted (os : Os) (started : os.Started) (H : Type) (enc : TypeId × Value → H) :
    ReturnsInHanded {} Tryz.checked os 6 .any (fun w args => (Rows.listRangesSpec.pre enc Tryz.prog Tryz.f6 [] false w args ∧ laidMetH Tryz.prog Rows.listRangesRow.laid w) ∧ sizedMet enc Tryz.prog Tryz.f6 (OpenSpec.ofChange Rows.listRangesSpec) false w args)
      (Rows.listRangesSpec.post enc Tryz.prog Tryz.f6 false true false false) := by
  refine returnsInHanded_of_change_and (C := Tryz.checked) (X := fun w _ => laidMetH Tryz.prog Rows.listRangesRow.laid w) (fun _ _ _ hh h => h.of_heap hh) ownListRanges started (by kernel_rfl) Tryz.func6
    (ChangeSpec.witness_shaped (enc := enc) (C := Tryz.checked) (os := os) (X := fun w _ => laidMetH Tryz.prog Rows.listRangesRow.laid w) false (World.doorLaid Tryz.prog 347 os) #[.int .i64 0, .int .i64 0, .int .i64 0, .int .i64 0] 8 rfl (World.shaped_of_RefB (by kernel_rfl) (by kernel_rfl)) (by kernel_rfl) (by kernel_rfl) (by kernel_rfl) (listRanges_met os)) ?_
  intro W base args ds gs before hval0 hW _ _ hL _
  have hval : ∀ (j : Nat) t v, Tryz.f6.params[j]? = some t → args[j]? = some v → Value.okWide Tryz.prog W .any base t v := hval0
  have hW' := hW
  obtain ⟨p, q, hA0, hV, rfl, hfz, hnd⟩ := hW
  have hA : DataW.TrodAll enc Tryz.prog W 0 (fun _ => true) true Tryz.f6.params.toList args.toList ds p := hA0
  rw [Tryz.params6] at hA hval
  obtain ⟨v0, v1, v2, v3, d0, d1, d2, d3, p0, p1, p2, p3, rfl, rfl, rfl, h0, h1, h2, h3⟩ := trodAll_four hA
  obtain ⟨rfl, rfl⟩ := trodVars_none hV
  obtain ⟨x0, rfl, rfl, rfl, hx0⟩ := open_int Tryz.underlying3 (hval 0 3 v0 rfl rfl) h0
  have hx0 : In .i64 x0 := by simpa [Lit.wf, In, IntKind.min, IntKind.max, IntKind.signed, IntKind.bits] using hx0
  obtain ⟨x1, rfl, rfl, rfl, hx1⟩ := open_int Tryz.underlying3 (hval 1 3 v1 rfl rfl) h1
  have hx1 : In .i64 x1 := by simpa [Lit.wf, In, IntKind.min, IntKind.max, IntKind.signed, IntKind.bits] using hx1
  obtain ⟨x2, rfl, rfl, rfl, hx2⟩ := open_int Tryz.underlying3 (hval 2 3 v2 rfl rfl) h2
  have hx2 : In .i64 x2 := by simpa [Lit.wf, In, IntKind.min, IntKind.max, IntKind.signed, IntKind.bits] using hx2
  obtain ⟨x3, rfl, rfl, rfl, hx3⟩ := open_int Tryz.underlying3 (hval 3 3 v3 rfl rfl) h3
  have hx3 : In .i64 x3 := by simpa [Lit.wf, In, IntKind.min, IntKind.max, IntKind.signed, IntKind.bits] using hx3
  have hG : GOK [0, 1, 2, 3, 4, 5, 6, 7, 8, 9, 10, 11, 12, 13, 14, 15, 16] W := gok_of_laid hL (by kernel_rfl) (by kernel_rfl) (fun h => absurd h (by decide)) (fun h => absurd h (by decide))
  have hF := W_smithylaw12_ListRanges hG (by decide) (by decide) (by decide) (by decide) (by decide) (by decide) (by decide) (by decide) (by decide) (by decide) (by decide) (by decide) (by decide) (by decide) (by decide) (by decide) (by decide)     (show jA x0 x1 x2 x3 (fun b => b = true) from ranges_lr hx0 hx1 hx2 hx3 rfl)
  refine (hF.2 W (Eqv.refl W)).mono fun e W' ⟨r, w0, he, hE', hg, b, hv, hb⟩ => ?_
  subst hb
  subst hv
  exact ⟨_, he, post_true laidOutListRanges (by kernel_rfl) hW' rfl rfl rfl rfl rfl Tryz.underlying4 (qN hg hE')⟩
theorem listRanges_inPlace : (Rows.listRangesRow.inPlace == Tryz.pinned.checked.prog.inPlace 6) = true := by kernel_rfl
theorem listRanges_unfollowed : (Rows.listRangesRow.unfollowed == Tryz.pinned.checked.prog.unfollowed 6) = true := by kernel_rfl
theorem listRanges_recurses : (Rows.listRangesRow.recurses == Tryz.pinned.checked.prog.recurses 6) = true := by kernel_rfl
theorem listRanges_named : (Rows.listRangesRow.named == Tryz.pinned.checked.prog.varsNamed 6) = true := by kernel_rfl
theorem listRanges_closed : joinedFacts Tryz.pinned.checked.prog 6 Tryz.f6 Rows.listRangesSpec Rows.listRangesRow = true := by
  unfold joinedFacts
  rw [listRanges_inPlace, listRanges_unfollowed, listRanges_recurses, listRanges_named]
  kernel_rfl
theorem listRanges_said : Rows.ListRangesSaid :=
  OpenClaim.holds_of_wide 6 Tryz.f6 rfl rfl rfl rfl rfl rfl rfl ⟨rfl, rfl, rfl, rfl, rfl⟩ rfl rfl rfl rfl rfl (by kernel_rfl) Tryz.func6 listRanges_closed
    (of_decide_eq_true (by kernel_rfl)) (by unfold Func.isWrapper; first | (rw [if_pos (by decide +kernel)]; kernel_rfl) | (rw [if_neg (by decide +kernel)]; exact ⟨rfl, rfl⟩))
    (fun os started H enc _ => listRanges_lifted os started H enc)
theorem listRanges_plain (f : FuncId) (fn : Func) (hf : Tryz.pinned.checked.prog.funcNamed "smithy/smithylaw12.ListRanges" = some f) (hfn : Tryz.pinned.checked.prog.funcs[f]? = some fn) :
    true = Tryz.pinned.checked.prog.looks [] ∧ ∀ (j : Nat) t, fn.params[j]? = some t → Tryz.pinned.checked.prog.wantsStandIn t = false := by
  obtain rfl : f = 6 := Option.some.inj ((show Tryz.prog.funcNamed "smithy/smithylaw12.ListRanges" = some 6 by kernel_rfl).symm.trans hf) |>.symm
  obtain rfl : fn = Tryz.f6 := (Option.some.inj (Tryz.func6.symm.trans hfn)).symm
  refine ⟨by kernel_rfl, fun j t ht => ?_⟩
  rw [Tryz.params6] at ht
  have hm := Array.mem_of_getElem? ht
  have hall : (#[3, 3, 3, 3] : Array TypeId).all (fun t => Tryz.prog.wantsStandIn t == false) = true := by kernel_rfl
  have := Array.all_eq_true_iff_forall_mem.mp hall t hm
  rw [beq_iff_eq] at this
  exact this
theorem listRanges_card : Rows.ListRangesCardSaid :=
  Claim7.holds_tied_plain_at .later [] _ _ _ _ listRanges_said (fun _ h => by cases h) (by kernel_rfl) (fun _ h => by cases h) listRanges_row_tie rfl ⟨rfl, rfl⟩ (by kernel_rfl) rfl listRanges_plain (by kernel_rfl)
end Go.Proofs.YtjoepdjeekadcaaGreatDoor

 