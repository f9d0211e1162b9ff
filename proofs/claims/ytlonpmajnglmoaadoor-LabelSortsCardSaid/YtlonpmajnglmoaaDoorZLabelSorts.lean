/- LabelSorts (the card): labels that are sorted rise, each once, all that were there; turned round they are sorted the same; without the document own answer. -/
import Derived.Test.YtlonpmajnglmoaaDoorJ2
import Derived.Test.YtlonpmajnglmoaaDoorCards
import Derived.Test.YtlonpmajnglmoaaDoorTie
import Derived.Lay
import Derived.ChangeMaps5
namespace Go.Proofs.YtlonpmajnglmoaaDoor
open Go Go.RowKit Go.WideShapes Go.ChangeShapes Go.ChangeAt
theorem ownLabelSorts : ownKnob Tryd.prog.godebug = none := by kernel_rfl
theorem laidOutLabelSorts : laidOutB Tryd.prog = true := by kernel_rfl
theorem labelSorts_met (os : Os) : laidMetH Tryd.prog Rows.labelSortsRow.laid ((World.laidAll Tryd.prog os Rows.labelSortsRow.laid).forCall (fun _ _ => 0) ⟨#[], #[.slice none 0 0], []⟩).memory := by
  rw [MakeChecks.laidMetH_plain _ _ _ (by kernel_rfl)]
  exact laidMet_laidAll _ (by kernel_rfl) (by kernel_rfl)
set_option maxRecDepth 100000 in
theorem labelSorts_lifted (os : Os) (started : os.Started) (H : Type) (enc : TypeId × Value → H) :
    ReturnsInHanded {} Tryd.checked os 3 .any (fun w args => (Rows.labelSortsSpec.pre enc Tryd.prog Tryd.f3 [] false w args ∧ laidMetH Tryd.prog Rows.labelSortsRow.laid w) ∧ sizedMet enc Tryd.prog Tryd.f3 (OpenSpec.ofChange Rows.labelSortsSpec) false w args)
      (Rows.labelSortsSpec.post enc Tryd.prog Tryd.f3 false true false false) := by
  refine handed_both (C := Tryd.checked) (X := fun w _ => laidMetH Tryd.prog Rows.labelSortsRow.laid w) (fun _ _ _ hh h => h.of_heap hh) ownLabelSorts started (by kernel_rfl) Tryd.func3
    (ChangeSpec.witness_shaped (enc := enc) (C := Tryd.checked) (os := os) (X := fun w _ => laidMetH Tryd.prog Rows.labelSortsRow.laid w) false (World.laidAll Tryd.prog os Rows.labelSortsRow.laid) #[.slice none 0 0] 8 (World.laidAll_os _ _ _) (World.shaped_of_ZipB (by kernel_rfl) (by kernel_rfl)) (by kernel_rfl) (by kernel_rfl) (by kernel_rfl) (labelSorts_met os)) ?_
  intro W base args ds gs before hval0 hW hL hsh
  have hval : ∀ (j : Nat) t v, Tryd.f3.params[j]? = some t → args[j]? = some v → Value.okWide Tryd.prog W .any base t v := hval0
  have hW' := hW
  obtain ⟨p, q, hA0, hV, rfl, hfz, hnd⟩ := hW
  have hA : DataW.TrodAll enc Tryd.prog W 0 (fun _ => true) true Tryd.f3.params.toList args.toList ds p := hA0
  rw [Tryd.params3] at hA hval
  obtain ⟨v0, d0, rfl, rfl, h0⟩ := trodAll_one hA
  obtain ⟨rfl, rfl⟩ := trodVars_none hV
  obtain ⟨A0, c0, x0, rfl, hR0, hx0⟩ := open_rds Tryd.underlying22 Tryd.underlying9 (by kernel_rfl) (hval 0 22 v0 rfl rfl) h0
  have hG : GOK [11, 100] W := gok_of_laid hL (by kernel_rfl) (by kernel_rfl) (fun _ => maxLenCell hsh) (fun h => absurd h (by decide))
  have hF := W_smithylaw17_LabelSorts hG (by decide) (by decide) hR0 rfl (show M_smithylaw17_LabelSorts x0 (fun b => b = true) from lsorts_ok hx0 rfl)
  refine (hF.2 W (Eqv.refl W)).mono fun e W' ⟨r, w0, he, hE', hg, b, hv, hb⟩ => ?_
  subst hb
  subst hv
  exact ⟨_, he, post_true laidOutLabelSorts (by kernel_rfl) hW' rfl rfl rfl rfl rfl Tryd.underlying4 (gr_eqv hg hE')⟩
theorem labelSorts_said : Rows.LabelSortsSaid :=
  OpenClaim.holds_of_wide 3 Tryd.f3 rfl rfl rfl rfl rfl rfl rfl ⟨rfl, rfl, rfl, rfl, rfl⟩ rfl rfl rfl rfl rfl (by kernel_rfl) Tryd.func3 (by kernel_rfl)
    (of_decide_eq_true (by kernel_rfl)) (by unfold Func.isWrapper; first | (rw [if_pos (by decide +kernel)]; kernel_rfl) | (rw [if_neg (by decide +kernel)]; exact ⟨rfl, rfl⟩))
    (fun os started H enc _ => labelSorts_lifted os started H enc)
theorem labelSorts_plain (f : FuncId) (fn : Func) (hf : Tryd.pinned.checked.prog.funcNamed "smithy/smithylaw17.LabelSorts" = some f) (hfn : Tryd.pinned.checked.prog.funcs[f]? = some fn) :
    true = Tryd.pinned.checked.prog.looks [] ∧ ∀ (j : Nat) t, fn.params[j]? = some t → Tryd.pinned.checked.prog.wantsStandIn t = false := by
  obtain rfl : f = 3 := Option.some.inj ((show Tryd.prog.funcNamed "smithy/smithylaw17.LabelSorts" = some 3 by kernel_rfl).symm.trans hf) |>.symm
  obtain rfl : fn = Tryd.f3 := (Option.some.inj (Tryd.func3.symm.trans hfn)).symm
  refine ⟨by kernel_rfl, fun j t ht => ?_⟩
  rw [Tryd.params3] at ht
  have hm := Array.mem_of_getElem? ht
  have hall : (#[22] : Array TypeId).all (fun t => Tryd.prog.wantsStandIn t == false) = true := by kernel_rfl
  have := Array.all_eq_true_iff_forall_mem.mp hall t hm
  rw [beq_iff_eq] at this
  exact this
theorem labelSorts_card : Rows.LabelSortsCardSaid :=
  Claim7.holds_tied_plain_at .later [] _ _ _ _ labelSorts_said (fun _ h => by cases h) (by kernel_rfl) (fun _ h => by cases h) labelSorts_row_tie rfl ⟨rfl, rfl⟩ (by kernel_rfl) rfl labelSorts_plain (by kernel_rfl)
end Go.Proofs.YtlonpmajnglmoaaDoor

 