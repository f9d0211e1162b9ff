/- KeyParts (the card): the parts of a key tell where the arguments end and the inputs begin, however many there are, and whatever they say. -/
import Derived.Test.YtcfljnfaakjdjaaDoorJ4
import Derived.Test.YtcfljnfaakjdjaaDoorCards
import Derived.Test.YtcfljnfaakjdjaaDoorTie
import Derived.Lay
import Derived.ChangeMaps5
namespace Go.Proofs.YtcfljnfaakjdjaaDoor
open Go Go.RowKit Go.WideShapes Go.ChangeShapes Go.ChangeAt
theorem ownKeyParts : ownKnob Tryd.prog.godebug = none := by kernel_rfl
theorem laidOutKeyParts : laidOutB Tryd.prog = true := by kernel_rfl
theorem keyParts_met (os : Os) : laidMetH Tryd.prog Rows.keyPartsRow.laid ((World.doorLaid Tryd.prog 357 os).forCall (fun _ _ => 0) ⟨#[], #[.int .i64 0, .slice none 0 0, .slice none 0 0], []⟩).memory :=
  laidMetH_of_parts3 (fuel := 8) (laidMet_of_run' 8 (by kernel_rfl) (by kernel_rfl)) (by kernel_rfl) (by kernel_rfl)
set_option maxRecDepth 100000 in
theorem keyParts_lifted (os : Os) (started : os.Started) (H : Type) (enc : TypeId × Value → H) :
    ReturnsInHanded {} Tryd.checked os 6 .any (fun w args => (Rows.keyPartsSpec.pre enc Tryd.prog Tryd.f6 [] false w args ∧ laidMetH Tryd.prog Rows.keyPartsRow.laid w) ∧ sizedMet enc Tryd.prog Tryd.f6 (OpenSpec.ofChange Rows.keyPartsSpec) false w args)
      (Rows.keyPartsSpec.post enc Tryd.prog Tryd.f6 false true false false) := by
  refine returnsInHanded_of_change_and (C := Tryd.checked) (X := fun w _ => laidMetH Tryd.prog Rows.keyPartsRow.laid w) (fun _ _ _ hh h => h.of_heap hh) ownKeyParts started (by kernel_rfl) Tryd.func6
    (ChangeSpec.witness_shaped (enc := enc) (C := Tryd.checked) (os := os) (X := fun w _ => laidMetH Tryd.prog Rows.keyPartsRow.laid w) false (World.doorLaid Tryd.prog 357 os) #[.int .i64 0, .slice none 0 0, .slice none 0 0] 8 rfl (World.shaped_of_RefB (by kernel_rfl) (by kernel_rfl)) (by kernel_rfl) (by kernel_rfl) (by kernel_rfl) (keyParts_met os)) ?_
  intro W base args ds gs before hval0 hW _ _ hL _
  have hval : ∀ (j : Nat) t v, Tryd.f6.params[j]? = some t → args[j]? = some v → Value.okWide Tryd.prog W .any base t v := hval0
  have hW' := hW
  obtain ⟨p, q, hA0, hV, rfl, hfz, hnd⟩ := hW
  have hA : DataW.TrodAll enc Tryd.prog W 0 (fun _ => true) true Tryd.f6.params.toList args.toList ds p := hA0
  rw [Tryd.params6] at hA hval
  obtain ⟨v0, v1, v2, d0, d1, d2, p0, p1, p2, rfl, rfl, rfl, h0, h1, h2⟩ := trodAll_three hA
  obtain ⟨rfl, rfl⟩ := trodVars_none hV
  obtain ⟨x0, rfl, rfl, rfl, hx0⟩ := open_int Tryd.underlying3 (hval 0 3 v0 rfl rfl) h0
  have hx0 : In .i64 x0 := by simpa [Lit.wf, In, IntKind.min, IntKind.max, IntKind.signed, IntKind.bits] using hx0
  obtain ⟨A1, c1, x1, rfl, hR1, hx1⟩ := open_rds Tryd.underlying22 Tryd.underlying9 (by kernel_rfl) (hval 1 22 v1 rfl rfl) h1
  obtain ⟨A2, c2, x2, rfl, hR2, hx2⟩ := open_rds Tryd.underlying22 Tryd.underlying9 (by kernel_rfl) (hval 2 22 v2 rfl rfl) h2
  have hG : GOK [101] W := gok_of_laid hL (by kernel_rfl) (by kernel_rfl) (fun h => absurd h (by decide)) (fun _ => tab_of_laid (g := 3) hL (by kernel_rfl) (by kernel_rfl) (by kernel_rfl) Tryd.underlying200 Tryd.underlying125 (by kernel_rfl) (by kernel_rfl) (List.mem_of_getElem? (i := 2) (by kernel_rfl)))
  have hF := W_smithylaw24_KeyParts hG (by decide)  hR1 rfl hR2 rfl (show M_smithylaw24_KeyParts x0 x1 x2 (fun b => b = true) from parts_key hx0 hx1 hx2 rfl)
  refine (hF.2 W (Eqv.refl W)).mono fun e W' ⟨r, w0, he, hE', hg, b, hv, hb⟩ => ?_
  subst hb
  subst hv
  exact ⟨_, he, post_true laidOutKeyParts (by kernel_rfl) hW' rfl rfl rfl rfl rfl Tryd.underlying4 (gr_eqv hg hE')⟩
theorem keyParts_said : Rows.KeyPartsSaid :=
  OpenClaim.holds_of_wide 6 Tryd.f6 rfl rfl rfl rfl rfl rfl rfl ⟨rfl, rfl, rfl, rfl, rfl⟩ rfl rfl rfl rfl rfl (by kernel_rfl) Tryd.func6 (by kernel_rfl)
    (of_decide_eq_true (by kernel_rfl)) (by unfold Func.isWrapper; first | (rw [if_pos (by decide +kernel)]; kernel_rfl) | (rw [if_neg (by decide +kernel)]; exact ⟨rfl, rfl⟩))
    (fun os started H enc _ => keyParts_lifted os started H enc)
theorem keyParts_plain (f : FuncId) (fn : Func) (hf : Tryd.pinned.checked.prog.funcNamed "smithy/smithylaw24.KeyParts" = some f) (hfn : Tryd.pinned.checked.prog.funcs[f]? = some fn) :
    true = Tryd.pinned.checked.prog.looks [] ∧ ∀ (j : Nat) t, fn.params[j]? = some t → Tryd.pinned.checked.prog.wantsStandIn t = false := by
  obtain rfl : f = 6 := Option.some.inj ((show Tryd.prog.funcNamed "smithy/smithylaw24.KeyParts" = some 6 by kernel_rfl).symm.trans hf) |>.symm
  obtain rfl : fn = Tryd.f6 := (Option.some.inj (Tryd.func6.symm.trans hfn)).symm
  refine ⟨by kernel_rfl, fun j t ht => ?_⟩
  rw [Tryd.params6] at ht
  have hm := Array.mem_of_getElem? ht
  have hall : (#[3, 22, 22] : Array TypeId).all (fun t => Tryd.prog.wantsStandIn t == false) = true := by kernel_rfl
  have := Array.all_eq_true_iff_forall_mem.mp hall t hm
  rw [beq_iff_eq] at this
  exact this
theorem keyParts_card : Rows.KeyPartsCardSaid :=
  Claim7.holds_tied_plain_at .later [] _ _ _ _ keyParts_said (fun _ h => by cases h) (by kernel_rfl) (fun _ h => by cases h) keyParts_row_tie rfl ⟨rfl, rfl⟩ (by kernel_rfl) rfl keyParts_plain (by kernel_rfl)
end Go.Proofs.YtcfljnfaakjdjaaDoor
 