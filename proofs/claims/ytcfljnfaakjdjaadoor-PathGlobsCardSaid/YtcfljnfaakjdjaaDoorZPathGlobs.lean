/- PathGlobs (the card): what is globbed is among the paths, rises, each once; one pattern more lets no less, one that takes away no more. -/
import Derived.Test.YtcfljnfaakjdjaaDoorJ6
import Derived.Test.YtcfljnfaakjdjaaDoorCards
import Derived.Test.YtcfljnfaakjdjaaDoorTie
import Derived.Lay
import Derived.ChangeMaps5
namespace Go.Proofs.YtcfljnfaakjdjaaDoor
open Go Go.RowKit Go.WideShapes Go.ChangeShapes Go.ChangeAt
theorem ownPathGlobs : ownKnob Tryd.prog.godebug = none := by kernel_rfl
theorem laidOutPathGlobs : laidOutB Tryd.prog = true := by kernel_rfl
theorem pathGlobs_met (os : Os) : laidMetH Tryd.prog Rows.pathGlobsRow.laid ((World.laidAll Tryd.prog os Rows.pathGlobsRow.laid).forCall (fun _ _ => 0) ⟨#[], #[.slice none 0 0, .slice none 0 0, .slice none 0 0, .string ⟨⟨[]⟩⟩], []⟩).memory := by
  rw [MakeChecks.laidMetH_plain _ _ _ (by kernel_rfl)]
  exact laidMet_laidAll _ (by kernel_rfl) (by kernel_rfl)
set_option maxRecDepth 100000 in
theorem pathGlobs_lifted (os : Os) (started : os.Started) (H : Type) (enc : TypeId × Value → H) :
    ReturnsInHanded {} Tryd.checked os 14 .any (fun w args => (Rows.pathGlobsSpec.pre enc Tryd.prog Tryd.f14 [] false w args ∧ laidMetH Tryd.prog Rows.pathGlobsRow.laid w) ∧ sizedMet enc Tryd.prog Tryd.f14 (OpenSpec.ofChange Rows.pathGlobsSpec) false w args)
      (Rows.pathGlobsSpec.post enc Tryd.prog Tryd.f14 false true false false) := by
  refine handed_both (C := Tryd.checked) (X := fun w _ => laidMetH Tryd.prog Rows.pathGlobsRow.laid w) (fun _ _ _ hh h => h.of_heap hh) ownPathGlobs started (by kernel_rfl) Tryd.func14
    (ChangeSpec.witness_shaped (enc := enc) (C := Tryd.checked) (os := os) (X := fun w _ => laidMetH Tryd.prog Rows.pathGlobsRow.laid w) false (World.laidAll Tryd.prog os Rows.pathGlobsRow.laid) #[.slice none 0 0, .slice none 0 0, .slice none 0 0, .string ⟨⟨[]⟩⟩] 8 (World.laidAll_os _ _ _) (World.shaped_of_ZipB (by kernel_rfl) (by kernel_rfl)) (by kernel_rfl) (by kernel_rfl) (by kernel_rfl) (pathGlobs_met os)) ?_
  intro W base args ds gs before hval0 hW hL hsh
  have hval : ∀ (j : Nat) t v, Tryd.f14.params[j]? = some t → args[j]? = some v → Value.okWide Tryd.prog W .any base t v := hval0
  have hW' := hW
  obtain ⟨p, q, hA0, hV, rfl, hfz, hnd⟩ := hW
  have hA : DataW.TrodAll enc Tryd.prog W 0 (fun _ => true) true Tryd.f14.params.toList args.toList ds p := hA0
  rw [Tryd.params14] at hA hval
  obtain ⟨v0, v1, v2, v3, d0, d1, d2, d3, p0, p1, p2, p3, rfl, rfl, rfl, h0, h1, h2, h3⟩ := trodAll_four hA
  obtain ⟨rfl, rfl⟩ := trodVars_none hV
  obtain ⟨A0, c0, x0, rfl, hR0, hx0⟩ := open_rds Tryd.underlying22 Tryd.underlying9 (by kernel_rfl) (hval 0 22 v0 rfl rfl) h0
  obtain ⟨A1, c1, x1, rfl, hR1, hx1⟩ := open_rds Tryd.underlying22 Tryd.underlying9 (by kernel_rfl) (hval 1 22 v1 rfl rfl) h1
  obtain ⟨A2, c2, x2, rfl, hR2, hx2⟩ := open_rds Tryd.underlying22 Tryd.underlying9 (by kernel_rfl) (hval 2 22 v2 rfl rfl) h2
  obtain ⟨s3, rfl, rfl, rfl, hs3⟩ := ChangeMaps.open_string Tryd.underlying9 (hval 3 9 v3 rfl rfl) h3
  obtain ⟨⟨x3⟩⟩ := s3
  have hs3 : x3.length ≤ maxLen := hs3
  have hG : GOK [11, 100] W := gok_of_laid hL (by kernel_rfl) (by kernel_rfl) (fun _ => maxLenCell hsh) (fun h => absurd h (by decide))
  have hF := W_smithylaw1_PathGlobs hG (by decide) (by decide) hR0 rfl hR1 rfl hR2 rfl  (show M_smithylaw1_PathGlobs x0 x1 x2 x3 (fun b => b = true) from globs_ok hx0 hx1 hx2 hs3 rfl)
  refine (hF.2 W (Eqv.refl W)).mono fun e W' ⟨r, w0, he, hE', hg, b, hv, hb⟩ => ?_
  subst hb
  subst hv
  exact ⟨_, he, post_true laidOutPathGlobs (by kernel_rfl) hW' rfl rfl rfl rfl rfl Tryd.underlying4 (gr_eqv hg hE')⟩
theorem pathGlobs_said : Rows.PathGlobsSaid :=
  OpenClaim.holds_of_wide 14 Tryd.f14 rfl rfl rfl rfl rfl rfl rfl ⟨rfl, rfl, rfl, rfl, rfl⟩ rfl rfl rfl rfl rfl (by kernel_rfl) Tryd.func14 (by kernel_rfl)
    (of_decide_eq_true (by kernel_rfl)) (by unfold Func.isWrapper; first | (rw [if_pos (by decide +kernel)]; kernel_rfl) | (rw [if_neg (by decide +kernel)]; exact ⟨rfl, rfl⟩))
    (fun os started H enc _ => pathGlobs_lifted os started H enc)
theorem pathGlobs_plain (f : FuncId) (fn : Func) (hf : Tryd.pinned.checked.prog.funcNamed "smithy/smithylaw1.PathGlobs" = some f) (hfn : Tryd.pinned.checked.prog.funcs[f]? = some fn) :
    true = Tryd.pinned.checked.prog.looks [] ∧ ∀ (j : Nat) t, fn.params[j]? = some t → Tryd.pinned.checked.prog.wantsStandIn t = false := by
  obtain rfl : f = 14 := Option.some.inj ((show Tryd.prog.funcNamed "smithy/smithylaw1.PathGlobs" = some 14 by kernel_rfl).symm.trans hf) |>.symm
  obtain rfl : fn = Tryd.f14 := (Option.some.inj (Tryd.func14.symm.trans hfn)).symm
  refine ⟨by kernel_rfl, fun j t ht => ?_⟩
  rw [Tryd.params14] at ht
  have hm := Array.mem_of_getElem? ht
  have hall : (#[22, 22, 22, 9] : Array TypeId).all (fun t => Tryd.prog.wantsStandIn t == false) = true := by kernel_rfl
  have := Array.all_eq_true_iff_forall_mem.mp hall t hm
  rw [beq_iff_eq] at this
  exact this
theorem pathGlobs_card : Rows.PathGlobsCardSaid :=
  Claim7.holds_tied_plain_at .later [] _ _ _ _ pathGlobs_said (fun _ h => by cases h) (by kernel_rfl) (fun _ h => by cases h) pathGlobs_row_tie rfl ⟨rfl, rfl⟩ (by kernel_rfl) rfl pathGlobs_plain (by kernel_rfl)
end Go.Proofs.YtcfljnfaakjdjaaDoor
 