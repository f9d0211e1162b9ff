/- DepsRows. -/
import Derived.Test.YtofenpiiihhigaaDoorJ5
import Derived.Test.YtofenpiiihhigaaDoorCards
import Derived.Test.YtofenpiiihhigaaDoorTie
import Derived.Lay
import Derived.ChangeMaps5
namespace Go.Proofs.YtofenpiiihhigaaDoor
open Go Go.RowKit Go.WideShapes Go.ChangeShapes Go.ChangeAt
theorem ownDepsRows : ownKnob Tryd.prog.godebug = none := by kernel_rfl
theorem laidOutDepsRows : laidOutB Tryd.prog = true := by kernel_rfl
theorem depsRows_met (os : Os) : laidMetH Tryd.prog Rows.depsRowsRow.laid ((World.doorLaid Tryd.prog 347 os).forCall (fun _ _ => 0) ⟨#[], #[.int .i64 0, .int .i64 0], []⟩).memory :=
  laidMetH_of_parts3 (fuel := 8) (laidMet_of_run' 8 (by kernel_rfl) (by kernel_rfl)) (by kernel_rfl) (by kernel_rfl)
set_option maxRecDepth 100000 in
theorem depsRows_lifted (os : Os) (started : os.Started) (H : Type) (enc : TypeId × Value → H) :
    ReturnsInHanded {} Tryd.checked os 4 .any (fun w args => (Rows.depsRowsSpec.pre enc Tryd.prog Tryd.f4 [] false w args ∧ laidMetH Tryd.prog Rows.depsRowsRow.laid w) ∧ sizedMet enc Tryd.prog Tryd.f4 (OpenSpec.ofChange Rows.depsRowsSpec) false w args)
      (Rows.depsRowsSpec.post enc Tryd.prog Tryd.f4 false true false false) := by
  refine returnsInHanded_of_change_and (C := Tryd.checked) (X := fun w _ => laidMetH Tryd.prog Rows.depsRowsRow.laid w) (fun _ _ _ hh h => h.of_heap hh) ownDepsRows started (by kernel_rfl) Tryd.func4
    (ChangeSpec.witness_shaped (enc := enc) (C := Tryd.checked) (os := os) (X := fun w _ => laidMetH Tryd.prog Rows.depsRowsRow.laid w) false (World.doorLaid Tryd.prog 347 os) #[.int .i64 0, .int .i64 0] 8 rfl (World.shaped_of_RefB (by kernel_rfl) (by kernel_rfl)) (by kernel_rfl) (by kernel_rfl) (by kernel_rfl) (depsRows_met os)) ?_
  intro W base args ds gs before hval0 hW _ _ hL _
  have hval : ∀ (j : Nat) t v, Tryd.f4.params[j]? = some t → args[j]? = some v → Value.okWide Tryd.prog W .any base t v := hval0
  have hW' := hW
  obtain ⟨p, q, hA0, hV, rfl, hfz, hnd⟩ := hW
  have hA : DataW.TrodAll enc Tryd.prog W 0 (fun _ => true) true Tryd.f4.params.toList args.toList ds p := hA0
  rw [Tryd.params4] at hA hval
  obtain ⟨v0, v1, d0, d1, p0, p1, rfl, rfl, rfl, h0, h1⟩ := trodAll_two hA
  obtain ⟨rfl, rfl⟩ := trodVars_none hV
  obtain ⟨x0, rfl, rfl, rfl, hx0⟩ := open_int Tryd.underlying3 (hval 0 3 v0 rfl rfl) h0
  have hx0 : In .i64 x0 := by simpa [Lit.wf, In, IntKind.min, IntKind.max, IntKind.signed, IntKind.bits] using hx0
  obtain ⟨x1, rfl, rfl, rfl, hx1⟩ := open_int Tryd.underlying3 (hval 1 3 v1 rfl rfl) h1
  have hx1 : In .i64 x1 := by simpa [Lit.wf, In, IntKind.min, IntKind.max, IntKind.signed, IntKind.bits] using hx1
  have hG : GOK [0, 1, 2, 3, 4, 5, 6, 7, 8, 9, 10, 11, 12, 13, 14, 15, 16] W := gok_of_laid hL (by kernel_rfl) (by kernel_rfl) (fun h => absurd h (by decide)) (fun h => absurd h (by decide))
  have hF := W_smithylaw13_DepsRows hG (by decide) (by decide) (by decide) (by decide) (by decide) (by decide) (by decide) (by decide) (by decide) (by decide) (by decide) (by decide) (by decide) (by decide) (by decide) (by decide) (by decide)   (show M_smithylaw13_DepsRows x0 x1 (fun b => b = true) from depsRows_ok hx0 hx1 rfl)
  refine (hF.2 W (Eqv.refl W)).mono fun e W' ⟨r, w0, he, hE', hg, b, hv, hb⟩ => ?_
  subst hb
  subst hv
  exact ⟨_, he, post_true laidOutDepsRows (by kernel_rfl) hW' rfl rfl rfl rfl rfl Tryd.underlying4 (gr_eqv hg hE')⟩
theorem depsRows_said : Rows.DepsRowsSaid :=
  OpenClaim.holds_of_wide 4 Tryd.f4 rfl rfl rfl rfl rfl rfl rfl ⟨rfl, rfl, rfl, rfl, rfl⟩ rfl rfl rfl rfl rfl (by kernel_rfl) Tryd.func4 (by kernel_rfl)
    (of_decide_eq_true (by kernel_rfl)) (by unfold Func.isWrapper; first | (rw [if_pos (by decide +kernel)]; kernel_rfl) | (rw [if_neg (by decide +kernel)]; exact ⟨rfl, rfl⟩))
    (fun os started H enc _ => depsRows_lifted os started H enc)
theorem depsRows_plain (f : FuncId) (fn : Func) (hf : Tryd.pinned.checked.prog.funcNamed "smithy/smithylaw13.DepsRows" = some f) (hfn : Tryd.pinned.checked.prog.funcs[f]? = some fn) :
    true = Tryd.pinned.checked.prog.looks [] ∧ ∀ (j : Nat) t, fn.params[j]? = some t → Tryd.pinned.checked.prog.wantsStandIn t = false := by
  obtain rfl : f = 4 := Option.some.inj ((show Tryd.prog.funcNamed "smithy/smithylaw13.DepsRows" = some 4 by kernel_rfl).symm.trans hf) |>.symm
  obtain rfl : fn = Tryd.f4 := (Option.some.inj (Tryd.func4.symm.trans hfn)).symm
  refine ⟨by kernel_rfl, fun j t ht => ?_⟩
  rw [Tryd.params4] at ht
  have hm := Array.mem_of_getElem? ht
  have hall : (#[3, 3] : Array TypeId).all (fun t => Tryd.prog.wantsStandIn t == false) = true := by kernel_rfl
  have := Array.all_eq_true_iff_forall_mem.mp hall t hm
  rw [beq_iff_eq] at this
  exact this
theorem depsRows_card : Rows.DepsRowsCardSaid :=
  Claim7.holds_tied_plain_at .later [] _ _ _ _ depsRows_said (fun _ h => by cases h) (by kernel_rfl) (fun _ h => by cases h) depsRows_row_tie rfl ⟨rfl, rfl⟩ (by kernel_rfl) rfl depsRows_plain (by kernel_rfl)
end Go.Proofs.YtofenpiiihhigaaDoor

 