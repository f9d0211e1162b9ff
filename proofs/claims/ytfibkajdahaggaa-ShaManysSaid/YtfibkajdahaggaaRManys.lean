/- ShaManys: for any texts the law returns true, and the texts read as before; no condition. -/
import Derived.Test.YtfibkajdahaggaaRows
import Derived.Test.YtfibkajdahaggaaRow0
import Derived.Test.YtfibkajdahaggaaSha9
namespace Go.Proofs.Ytfibkajdahaggaa
open Go Go.RowKit Go.WideShapes Go.ChangeShapes Go.ChangeAt

theorem Try.own : ownKnob Try.prog.godebug = none := by kernel_rfl
theorem Try.laidOut : laidOutB Try.prog = true := by kernel_rfl
set_option maxRecDepth 100000 in
theorem shaManys_lifted (os : Os) (started : os.Started) (H : Type) (enc : TypeId × Value → H) :
    ReturnsInHanded {} Try.checked os 3 .any (Rows.shaManysSpec.pre6 enc Try.prog Try.f3 Rows.shaManysRow.domain false) (Rows.shaManysSpec.post enc Try.prog Try.f3 false true false false) := by
  refine returnsInHanded_of_change (C := Try.checked) Try.own started (by kernel_rfl) Try.func3
    (ChangeSpec.witness6 (enc := enc) (C := Try.checked) false ⟨#[], #[.slice none 0 0], []⟩ 8 (by kernel_rfl) (by kernel_rfl) (by kernel_rfl) (by kernel_rfl)) ?_
  intro W base args ds gs before hval0 hW hcnd _
  have hval : ∀ (j : Nat) t v, Try.f3.params[j]? = some t → args[j]? = some v → Value.okWide Try.prog W .any base t v := hval0
  have hW' := hW
  obtain ⟨p, q, hA0, hV, rfl, hfz, hnd⟩ := hW
  have hA : DataW.TrodAll enc Try.prog W 0 (fun _ => true) true Try.f3.params.toList args.toList ds p := hA0
  rw [Try.params3] at hA hval
  obtain ⟨v0, d0, rfl, rfl, h0⟩ := trodAll_one hA
  obtain ⟨rfl, rfl⟩ := trodVars_none hV
  obtain ⟨A, c, l, rfl, hR, _⟩ := open_rds Try.underlying22 Try.underlying9 (by kernel_rfl) (hval 0 22 v0 rfl rfl) h0
  refine ((manys_fn A c l W hR).2 W (Eqv.refl W)).mono fun e W' ⟨v, w0, he, hE, hv, hg⟩ => ?_
  subst hv
  exact ⟨_, he, post_true Try.laidOut (by kernel_rfl) hW' rfl rfl rfl rfl rfl Try.underlying4 (gr_eqv hg hE)⟩
theorem shaManys_holds : Rows.ShaManysSaid :=
  OpenClaim.holds_of_wide 3 Try.f3 rfl rfl rfl rfl rfl rfl rfl ⟨rfl, rfl, rfl, rfl, rfl⟩ rfl rfl rfl rfl rfl (by kernel_rfl) Try.func3 (by kernel_rfl)
    (of_decide_eq_true (by kernel_rfl)) (by unfold Func.isWrapper; first | (rw [if_pos (by decide +kernel)]; kernel_rfl) | (rw [if_neg (by decide +kernel)]; exact ⟨rfl, rfl⟩))
    (fun os started H enc _ => shaManys_lifted os started H enc)
end Go.Proofs.Ytfibkajdahaggaa
