/- CacheReads. -/
import Derived.Test.YtlonpmajnglmoaaDoorJ5
import Derived.Test.YtlonpmajnglmoaaDoorCards
import Derived.Test.YtlonpmajnglmoaaDoorTie
import Derived.Lay
import Derived.ChangeMaps5
namespace Go.Proofs.YtlonpmajnglmoaaDoor
open Go Go.RowKit Go.WideShapes Go.ChangeShapes Go.ChangeAt
theorem ownCacheReads : ownKnob Tryd.prog.godebug = none := by kernel_rfl
theorem laidOutCacheReads : laidOutB Tryd.prog = true := by kernel_rfl
theorem cacheReads_met (os : Os) : laidMetH Tryd.prog Rows.cacheReadsRow.laid ((World.laidAll Tryd.prog os Rows.cacheReadsRow.laid).forCall (fun _ _ => 0) ⟨#[], #[.string ⟨⟨[]⟩⟩, .slice none 0 0, .int .i64 0], []⟩).memory := by
  rw [MakeChecks.laidMetH_plain _ _ _ (by kernel_rfl)]
  exact laidMet_laidAll _ (by kernel_rfl) (by kernel_rfl)
set_option maxRecDepth 100000 in
theorem cacheReads_lifted (os : Os) (started : os.Started) (H : Type) (enc : TypeId × Value → H) :
    ReturnsInHanded {} Tryd.checked os 7 .any (fun w args => (Rows.cacheReadsSpec.pre enc Tryd.prog Tryd.f7 [] false w args ∧ laidMetH Tryd.prog Rows.cacheReadsRow.laid w) ∧ sizedMet enc Tryd.prog Tryd.f7 (OpenSpec.ofChange Rows.cacheReadsSpec) false w args)
      (Rows.cacheReadsSpec.post enc Tryd.prog Tryd.f7 false true false false) := by
  refine handed_both (C := Tryd.checked) (X := fun w _ => laidMetH Tryd.prog Rows.cacheReadsRow.laid w) (fun _ _ _ hh h => h.of_heap hh) ownCacheReads started (by kernel_rfl) Tryd.func7
    (ChangeSpec.witness_shaped (enc := enc) (C := Tryd.checked) (os := os) (X := fun w _ => laidMetH Tryd.prog Rows.cacheReadsRow.laid w) false (World.laidAll Tryd.prog os Rows.cacheReadsRow.laid) #[.string ⟨⟨[]⟩⟩, .slice none 0 0, .int .i64 0] 8 (World.laidAll_os _ _ _) (World.shaped_of_ZipB (by kernel_rfl) (by kernel_rfl)) (by kernel_rfl) (by kernel_rfl) (by kernel_rfl) (cacheReads_met os)) ?_
  intro W base args ds gs before hval0 hW hL hsh
  have hval : ∀ (j : Nat) t v, Tryd.f7.params[j]? = some t → args[j]? = some v → Value.okWide Tryd.prog W .any base t v := hval0
  have hW' := hW
  obtain ⟨p, q, hA0, hV, rfl, hfz, hnd⟩ := hW
  have hA : DataW.TrodAll enc Tryd.prog W 0 (fun _ => true) true Tryd.f7.params.toList args.toList ds p := hA0
  rw [Tryd.params7] at hA hval
  obtain ⟨v0, v1, v2, d0, d1, d2, p0, p1, p2, rfl, rfl, rfl, h0, h1, h2⟩ := trodAll_three hA
  obtain ⟨rfl, rfl⟩ := trodVars_none hV
  obtain ⟨s0, rfl, rfl, rfl, hs0⟩ := ChangeMaps.open_string Tryd.underlying9 (hval 0 9 v0 rfl rfl) h0
  obtain ⟨⟨x0⟩⟩ := s0
  have hs0 : x0.length ≤ maxLen := hs0
  obtain ⟨A1, c1, x1, rfl, hR1, hx1⟩ := open_rdi Tryd.underlying65 Tryd.underlying3 (by kernel_rfl) (hval 1 65 v1 rfl rfl) h1
  obtain ⟨x2, rfl, rfl, rfl, hx2⟩ := open_int Tryd.underlying3 (hval 2 3 v2 rfl rfl) h2
  have hx2 : In .i64 x2 := by simpa [Lit.wf, In, IntKind.min, IntKind.max, IntKind.signed, IntKind.bits] using hx2
  have hG : GOK [9, 11, 12, 15, 100] W := gok_of_laid hL (by kernel_rfl) (by kernel_rfl) (fun _ => maxLenCell hsh) (fun h => absurd h (by decide))
  have hF := W_smithylaw25_CacheReads hG (by decide) (by decide) (by decide) (by decide) (by decide)  hR1 rfl  (show M_smithylaw25_CacheReads x0 x1 x2 (fun b => b = true) from reads_ok hs0 hx1 hx2 rfl)
  refine (hF.2 W (Eqv.refl W)).mono fun e W' ⟨r, w0, he, hE', hg, b, hv, hb⟩ => ?_
  subst hb
  subst hv
  exact ⟨_, he, post_true laidOutCacheReads (by kernel_rfl) hW' rfl rfl rfl rfl rfl Tryd.underlying4 (gr_eqv hg hE')⟩
theorem cacheReads_said : Rows.CacheReadsSaid :=
  OpenClaim.holds_of_wide 7 Tryd.f7 rfl rfl rfl rfl rfl rfl rfl ⟨rfl, rfl, rfl, rfl, rfl⟩ rfl rfl rfl rfl rfl (by kernel_rfl) Tryd.func7 (by kernel_rfl)
    (of_decide_eq_true (by kernel_rfl)) (by unfold Func.isWrapper; first | (rw [if_pos (by decide +kernel)]; kernel_rfl) | (rw [if_neg (by decide +kernel)]; exact ⟨rfl, rfl⟩))
    (fun os started H enc _ => cacheReads_lifted os started H enc)
theorem cacheReads_plain (f : FuncId) (fn : Func) (hf : Tryd.pinned.checked.prog.funcNamed "smithy/smithylaw25.CacheReads" = some f) (hfn : Tryd.pinned.checked.prog.funcs[f]? = some fn) :
    true = Tryd.pinned.checked.prog.looks [] ∧ ∀ (j : Nat) t, fn.params[j]? = some t → Tryd.pinned.checked.prog.wantsStandIn t = false := by
  obtain rfl : f = 7 := Option.some.inj ((show Tryd.prog.funcNamed "smithy/smithylaw25.CacheReads" = some 7 by kernel_rfl).symm.trans hf) |>.symm
  obtain rfl : fn = Tryd.f7 := (Option.some.inj (Tryd.func7.symm.trans hfn)).symm
  refine ⟨by kernel_rfl, fun j t ht => ?_⟩
  rw [Tryd.params7] at ht
  have hm := Array.mem_of_getElem? ht
  have hall : (#[9, 65, 3] : Array TypeId).all (fun t => Tryd.prog.wantsStandIn t == false) = true := by kernel_rfl
  have := Array.all_eq_true_iff_forall_mem.mp hall t hm
  rw [beq_iff_eq] at this
  exact this
theorem cacheReads_card : Rows.CacheReadsCardSaid :=
  Claim7.holds_tied_plain_at .later [] _ _ _ _ cacheReads_said (fun _ h => by cases h) (by kernel_rfl) (fun _ h => by cases h) cacheReads_row_tie rfl ⟨rfl, rfl⟩ (by kernel_rfl) rfl cacheReads_plain (by kernel_rfl)
end Go.Proofs.YtlonpmajnglmoaaDoor

 