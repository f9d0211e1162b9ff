/- ShaPieces: for any bytes and cuts the law returns true, and both read as before; the error variable that the row lists is met only by a premise, which the card ties to the program's text. -/
import Derived.Test.YtfibkajdahaggaaDoorCards
import Derived.Test.YtfibkajdahaggaaDoorTie
import Derived.Test.YtfibkajdahaggaaDoorRow1
import Derived.Test.YtfibkajdahaggaaDoorSha12
namespace Go.Proofs.YtfibkajdahaggaaDoor
open Go Go.RowKit Go.WideShapes Go.ChangeShapes Go.ChangeAt

theorem Tryd.own : ownKnob Tryd.prog.godebug = none := by kernel_rfl
theorem Tryd.laidOut : laidOutB Tryd.prog = true := by kernel_rfl
theorem pieces_met (os : Os) : laidMetH Tryd.prog Rows.shaPiecesRow.laid ((World.doorLaid Tryd.prog 332 os).forCall (fun _ _ => 0) ⟨#[], #[.slice none 0 0, .slice none 0 0], []⟩).memory :=
  laidMetH_of_parts3 (fuel := 8) (laidMet_of_run' 8 (by kernel_rfl) (by kernel_rfl)) (by kernel_rfl) (by kernel_rfl)
set_option maxRecDepth 100000 in
theorem shaPieces_lifted (os : Os) (started : os.Started) (H : Type) (enc : TypeId × Value → H) :
    ReturnsInHanded {} Tryd.checked os 3 .any (fun w args => (Rows.shaPiecesSpec.pre enc Tryd.prog Tryd.f3 [] false w args ∧ laidMetH Tryd.prog Rows.shaPiecesRow.laid w) ∧ sizedMet enc Tryd.prog Tryd.f3 (OpenSpec.ofChange Rows.shaPiecesSpec) false w args)
      (Rows.shaPiecesSpec.post enc Tryd.prog Tryd.f3 false true false false) := by
  refine returnsInHanded_of_change_and (C := Tryd.checked) (X := fun w _ => laidMetH Tryd.prog Rows.shaPiecesRow.laid w) (fun _ _ _ hh h => h.of_heap hh) Tryd.own started (by kernel_rfl) Tryd.func3
    (ChangeSpec.witness_shaped (enc := enc) (C := Tryd.checked) (os := os) (X := fun w _ => laidMetH Tryd.prog Rows.shaPiecesRow.laid w) false (World.doorLaid Tryd.prog 332 os) #[.slice none 0 0, .slice none 0 0] 8 rfl (World.shaped_of_RefB (by kernel_rfl) (by kernel_rfl)) (by kernel_rfl) (by kernel_rfl) (by kernel_rfl) (pieces_met os)) ?_
  intro W base args ds gs before hval0 hW _ _ hL _
  have hval : ∀ (j : Nat) t v, Tryd.f3.params[j]? = some t → args[j]? = some v → Value.okWide Tryd.prog W .any base t v := hval0
  have hW' := hW
  obtain ⟨p, q, hA0, hV, rfl, hfz, hnd⟩ := hW
  have hA : DataW.TrodAll enc Tryd.prog W 0 (fun _ => true) true Tryd.f3.params.toList args.toList ds p := hA0
  rw [Tryd.params3] at hA hval
  obtain ⟨v0, v1, d0, d1, p0, p1, rfl, rfl, rfl, h0, h1⟩ := trodAll_two hA
  obtain ⟨rfl, rfl⟩ := trodVars_none hV
  obtain ⟨A, c, b, rfl, hR⟩ := open_rdb Tryd.underlying22 Tryd.underlying5 (by kernel_rfl) (hval 0 22 v0 rfl rfl) h0
  obtain ⟨A2, c2, cuts, rfl, hC, _⟩ := open_rdi Tryd.underlying23 Tryd.underlying3 (by kernel_rfl) (hval 1 23 v1 rfl rfl) h1
  obtain ⟨u, v, hE⟩ := cell_of_laid (g := 0) (by kernel_rfl) (by kernel_rfl) Tryd.underlying34 (by kernel_rfl) hL
  refine ((pieces_fn A c b A2 c2 cuts _ W hR hC hE).2 W (Eqv.refl W)).mono fun e W' ⟨r, w0, he, hE', hv, hg⟩ => ?_
  subst hv
  exact ⟨_, he, post_true Tryd.laidOut (by kernel_rfl) hW' rfl rfl rfl rfl rfl Tryd.underlying4 (gr_eqv hg hE')⟩
theorem shaPieces_said : Rows.ShaPiecesSaid :=
  OpenClaim.holds_of_wide 3 Tryd.f3 rfl rfl rfl rfl rfl rfl rfl ⟨rfl, rfl, rfl, rfl, rfl⟩ rfl rfl rfl rfl rfl (by kernel_rfl) Tryd.func3 (by kernel_rfl)
    (of_decide_eq_true (by kernel_rfl)) (by unfold Func.isWrapper; first | (rw [if_pos (by decide +kernel)]; kernel_rfl) | (rw [if_neg (by decide +kernel)]; exact ⟨rfl, rfl⟩))
    (fun os started H enc _ => shaPieces_lifted os started H enc)
theorem shaPieces_plain (f : FuncId) (fn : Func) (hf : Tryd.pinned.checked.prog.funcNamed "smithy/smithylaw2.ShaPieces" = some f) (hfn : Tryd.pinned.checked.prog.funcs[f]? = some fn) :
    true = Tryd.pinned.checked.prog.looks [] ∧ ∀ (j : Nat) t, fn.params[j]? = some t → Tryd.pinned.checked.prog.wantsStandIn t = false := by
  obtain rfl : f = 3 := Option.some.inj ((show Tryd.prog.funcNamed "smithy/smithylaw2.ShaPieces" = some 3 by kernel_rfl).symm.trans hf) |>.symm
  obtain rfl : fn = Tryd.f3 := (Option.some.inj (Tryd.func3.symm.trans hfn)).symm
  refine ⟨by kernel_rfl, fun j t ht => ?_⟩
  rw [Tryd.params3] at ht
  have hm := Array.mem_of_getElem? ht
  have hall : (#[22, 23] : Array TypeId).all (fun t => Tryd.prog.wantsStandIn t == false) = true := by kernel_rfl
  have := Array.all_eq_true_iff_forall_mem.mp hall t hm
  rw [beq_iff_eq] at this
  exact this
theorem shaPieces_card : Rows.ShaPiecesCardSaid :=
  Claim7.holds_tied_plain_at .later [] _ _ _ _ shaPieces_said (fun _ h => by cases h) (by kernel_rfl) (fun _ h => by cases h) shaPieces_row_tie rfl ⟨rfl, rfl⟩ (by kernel_rfl) rfl shaPieces_plain (by kernel_rfl)
end Go.Proofs.YtfibkajdahaggaaDoor
