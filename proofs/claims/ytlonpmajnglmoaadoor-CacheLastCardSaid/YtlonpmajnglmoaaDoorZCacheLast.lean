/- CacheLast. -/
import Derived.Test.YtlonpmajnglmoaaDoorJ5
import Derived.Test.YtlonpmajnglmoaaDoorCards
import Derived.Test.YtlonpmajnglmoaaDoorTie
import Derived.Lay
import Derived.ChangeMaps5
namespace Go.Proofs.YtlonpmajnglmoaaDoor
open Go Go.RowKit Go.WideShapes Go.ChangeShapes Go.ChangeAt
theorem ownCacheLast : ownKnob Tryd.prog.godebug = none := by kernel_rfl
theorem laidOutCacheLast : laidOutB Tryd.prog = true := by kernel_rfl
theorem cacheLast_met (os : Os) : laidMetH Tryd.prog Rows.cacheLastRow.laid ((World.laidAll Tryd.prog os Rows.cacheLastRow.laid).forCall (fun _ _ => 0) ⟨#[], #[.slice none 0 0], []⟩).memory := by
  rw [MakeChecks.laidMetH_plain _ _ _ (by kernel_rfl)]
  exact laidMet_laidAll _ (by kernel_rfl) (by kernel_rfl)
set_option maxRecDepth 100000 in
theorem cacheLast_lifted (os : Os) (started : os.Started) (H : Type) (enc : TypeId × Value → H) :
    ReturnsInHanded {} Tryd.checked os 8 .any (fun w args => (Rows.cacheLastSpec.pre enc Tryd.prog Tryd.f8 [] false w args ∧ laidMetH Tryd.prog Rows.cacheLastRow.laid w) ∧ sizedMet enc Tryd.prog Tryd.f8 (OpenSpec.ofChange Rows.cacheLastSpec) false w args)
      (Rows.cacheLastSpec.post enc Tryd.prog Tryd.f8 false true false false) := by
  refine handed_both (C := Tryd.checked) (X := fun w _ => laidMetH Tryd.prog Rows.cacheLastRow.laid w) (fun _ _ _ hh h => h.of_heap hh) ownCacheLast started (by kernel_rfl) Tryd.func8
    (ChangeSpec.witness_shaped (enc := enc) (C := Tryd.checked) (os := os) (X := fun w _ => laidMetH Tryd.prog Rows.cacheLastRow.laid w) false (World.laidAll Tryd.prog os Rows.cacheLastRow.laid) #[.slice none 0 0] 8 (World.laidAll_os _ _ _) (World.shaped_of_ZipB (by kernel_rfl) (by kernel_rfl)) (by kernel_rfl) (by kernel_rfl) (by kernel_rfl) (cacheLast_met os)) ?_
  intro W base args ds gs before hval0 hW hL hsh
  have hval : ∀ (j : Nat) t v, Tryd.f8.params[j]? = some t → args[j]? = some v → Value.okWide Tryd.prog W .any base t v := hval0
  have hW' := hW
  obtain ⟨p, q, hA0, hV, rfl, hfz, hnd⟩ := hW
  have hA : DataW.TrodAll enc Tryd.prog W 0 (fun _ => true) true Tryd.f8.params.toList args.toList ds p := hA0
  rw [Tryd.params8] at hA hval
  obtain ⟨v0, d0, rfl, rfl, h0⟩ := trodAll_one hA
  obtain ⟨rfl, rfl⟩ := trodVars_none hV
  obtain ⟨A0, c0, x0, rfl, hR0, hx0⟩ := open_rdi Tryd.underlying65 Tryd.underlying3 (by kernel_rfl) (hval 0 65 v0 rfl rfl) h0
  have hG : GOK [9, 11, 12, 15, 100] W := gok_of_laid hL (by kernel_rfl) (by kernel_rfl) (fun _ => maxLenCell hsh) (fun h => absurd h (by decide))
  have hF := W_smithylaw25_CacheLast hG (by decide) (by decide) (by decide) (by decide) (by decide) hR0 rfl (show M_smithylaw25_CacheLast x0 (fun b => b = true) from last_ok hx0 rfl)
  refine (hF.2 W (Eqv.refl W)).mono fun e W' ⟨r, w0, he, hE', hg, b, hv, hb⟩ => ?_
  subst hb
  subst hv
  exact ⟨_, he, post_true laidOutCacheLast (by kernel_rfl) hW' rfl rfl rfl rfl rfl Tryd.underlying4 (gr_eqv hg hE')⟩
theorem cacheLast_said : Rows.CacheLastSaid :=
  OpenClaim.holds_of_wide 8 Tryd.f8 rfl rfl rfl rfl rfl rfl rfl ⟨rfl, rfl, rfl, rfl, rfl⟩ rfl rfl rfl rfl rfl (by kernel_rfl) Tryd.func8 (by kernel_rfl)
    (of_decide_eq_true (by kernel_rfl)) (by unfold Func.isWrapper; first | (rw [if_pos (by decide +kernel)]; kernel_rfl) | (rw [if_neg (by decide +kernel)]; exact ⟨rfl, rfl⟩))
    (fun os started H enc _ => cacheLast_lifted os started H enc)
theorem cacheLast_plain (f : FuncId) (fn : Func) (hf : Tryd.pinned.checked.prog.funcNamed "smithy/smithylaw25.CacheLast" = some f) (hfn : Tryd.pinned.checked.prog.funcs[f]? = some fn) :
    true = Tryd.pinned.checked.prog.looks [] ∧ ∀ (j : Nat) t, fn.params[j]? = some t → Tryd.pinned.checked.prog.wantsStandIn t = false := by
  obtain rfl : f = 8 := Option.some.inj ((show Tryd.prog.funcNamed "smithy/smithylaw25.CacheLast" = some 8 by kernel_rfl).symm.trans hf) |>.symm
  obtain rfl : fn = Tryd.f8 := (Option.some.inj (Tryd.func8.symm.trans hfn)).symm
  refine ⟨by kernel_rfl, fun j t ht => ?_⟩
  rw [Tryd.params8] at ht
  have hm := Array.mem_of_getElem? ht
  have hall : (#[65] : Array TypeId).all (fun t => Tryd.prog.wantsStandIn t == false) = true := by kernel_rfl
  have := Array.all_eq_true_iff_forall_mem.mp hall t hm
  rw [beq_iff_eq] at this
  exact this
theorem cacheLast_card : Rows.CacheLastCardSaid :=
  Claim7.holds_tied_plain_at .later [] _ _ _ _ cacheLast_said (fun _ h => by cases h) (by kernel_rfl) (fun _ h => by cases h) cacheLast_row_tie rfl ⟨rfl, rfl⟩ (by kernel_rfl) rfl cacheLast_plain (by kernel_rfl)
end Go.Proofs.YtlonpmajnglmoaaDoor

 