/- StrSays (the card): what each tool says is what the chapter says. -/
import Derived.Test.YtjinkmipkfjblaaDoorJ4
import Derived.Test.YtjinkmipkfjblaaDoorCards
import Derived.Test.YtjinkmipkfjblaaDoorTie
import Derived.Lay
import Derived.ChangeMaps5
namespace Go.Proofs.YtjinkmipkfjblaaDoor
open Go Go.RowKit Go.WideShapes Go.ChangeShapes Go.ChangeAt
theorem ownStrSays : ownKnob Tryd.prog.godebug = none := by kernel_rfl
theorem laidOutStrSays : laidOutB Tryd.prog = true := by kernel_rfl
theorem strSays_met (os : Os) : laidMetH Tryd.prog Rows.strSaysRow.laid ((World.laidAll Tryd.prog os Rows.strSaysRow.laid).forCall (fun _ _ => 0) ⟨#[], #[.string ⟨⟨[]⟩⟩, .string ⟨⟨[]⟩⟩, .string ⟨⟨[]⟩⟩, .slice none 0 0, .int .i64 0, .int .i64 0, .bool false, .bool false], []⟩).memory := by
  rw [MakeChecks.laidMetH_plain _ _ _ (by kernel_rfl)]
  exact laidMet_laidAll _ (by kernel_rfl) (by kernel_rfl)
set_option maxRecDepth 100000 in
theorem strSays_lifted (os : Os) (started : os.Started) (H : Type) (enc : TypeId × Value → H) :
    ReturnsInHanded {} Tryd.checked os 8 .any (fun w args => (Rows.strSaysSpec.pre enc Tryd.prog Tryd.f8 [] false w args ∧ laidMetH Tryd.prog Rows.strSaysRow.laid w) ∧ sizedMet enc Tryd.prog Tryd.f8 (OpenSpec.ofChange Rows.strSaysSpec) false w args)
      (Rows.strSaysSpec.post enc Tryd.prog Tryd.f8 false true false false) := by
  refine handed_both (C := Tryd.checked) (X := fun w _ => laidMetH Tryd.prog Rows.strSaysRow.laid w) (fun _ _ _ hh h => h.of_heap hh) ownStrSays started (by kernel_rfl) Tryd.func8
    (ChangeSpec.witness_shaped (enc := enc) (C := Tryd.checked) (os := os) (X := fun w _ => laidMetH Tryd.prog Rows.strSaysRow.laid w) false (World.laidAll Tryd.prog os Rows.strSaysRow.laid) #[.string ⟨⟨[]⟩⟩, .string ⟨⟨[]⟩⟩, .string ⟨⟨[]⟩⟩, .slice none 0 0, .int .i64 0, .int .i64 0, .bool false, .bool false] 8 (World.laidAll_os _ _ _) (World.shaped_of_ZipB (by kernel_rfl) (by kernel_rfl)) (by kernel_rfl) (by kernel_rfl) (by kernel_rfl) (strSays_met os)) ?_
  intro W base args ds gs before hval0 hW hL hsh
  have hval : ∀ (j : Nat) t v, Tryd.f8.params[j]? = some t → args[j]? = some v → Value.okWide Tryd.prog W .any base t v := hval0
  have hW' := hW
  obtain ⟨p, q, hA0, hV, rfl, hfz, hnd⟩ := hW
  have hA : DataW.TrodAll enc Tryd.prog W 0 (fun _ => true) true Tryd.f8.params.toList args.toList ds p := hA0
  rw [Tryd.params8] at hA hval
  obtain ⟨v0, v1, v2, v3, v4, v5, v6, v7, d0, d1, d2, d3, d4, d5, d6, d7, p0, p1, p2, p3, p4, p5, p6, p7, rfl, rfl, rfl, h0, h1, h2, h3, h4, h5, h6, h7⟩ := trodAll_eight hA
  obtain ⟨rfl, rfl⟩ := trodVars_none hV
  obtain ⟨s0, rfl, rfl, rfl, hs0⟩ := ChangeMaps.open_string Tryd.underlying9 (hval 0 9 v0 rfl rfl) h0
  obtain ⟨⟨x0⟩⟩ := s0
  have hs0 : x0.length ≤ maxLen := hs0
  obtain ⟨s1, rfl, rfl, rfl, hs1⟩ := ChangeMaps.open_string Tryd.underlying9 (hval 1 9 v1 rfl rfl) h1
  obtain ⟨⟨x1⟩⟩ := s1
  have hs1 : x1.length ≤ maxLen := hs1
  obtain ⟨s2, rfl, rfl, rfl, hs2⟩ := ChangeMaps.open_string Tryd.underlying9 (hval 2 9 v2 rfl rfl) h2
  obtain ⟨⟨x2⟩⟩ := s2
  have hs2 : x2.length ≤ maxLen := hs2
  obtain ⟨A3, c3, x3, rfl, hR3, hx3⟩ := open_rds Tryd.underlying22 Tryd.underlying9 (by kernel_rfl) (hval 3 22 v3 rfl rfl) h3
  obtain ⟨x4, rfl, rfl, rfl, hx4⟩ := open_int Tryd.underlying3 (hval 4 3 v4 rfl rfl) h4
  have hx4 : In .i64 x4 := by simpa [Lit.wf, In, IntKind.min, IntKind.max, IntKind.signed, IntKind.bits] using hx4
  obtain ⟨x5, rfl, rfl, rfl, hx5⟩ := open_int Tryd.underlying3 (hval 5 3 v5 rfl rfl) h5
  have hx5 : In .i64 x5 := by simpa [Lit.wf, In, IntKind.min, IntKind.max, IntKind.signed, IntKind.bits] using hx5
  obtain ⟨x6, rfl, rfl, rfl⟩ := open_bool Tryd.underlying4 (hval 6 4 v6 rfl rfl) h6
  obtain ⟨x7, rfl, rfl, rfl⟩ := open_bool Tryd.underlying4 (hval 7 4 v7 rfl rfl) h7
  have hG : GOK [0, 1, 2, 3, 4, 5, 6, 7, 8, 9, 10, 11, 12, 13, 14, 15, 16, 100] W := gok_of_laid hL (by kernel_rfl) (by kernel_rfl) (fun _ => maxLenCell hsh) (fun h => absurd h (by decide))
  have hF := W_smithylaw11_StrSays hG (by decide) (by decide) (by decide) (by decide) (by decide) (by decide) (by decide) (by decide) (by decide) (by decide) (by decide) (by decide) (by decide) (by decide) (by decide) (by decide) (by decide) (by decide)    hR3 rfl     (show M_smithylaw11_StrSays x0 x1 x2 x3 x4 x5 x6 x7 (fun b => b = true) from ssays_ok hs0 hs1 hs2 hx3 hx4 hx5 rfl)
  refine (hF.2 W (Eqv.refl W)).mono fun e W' ⟨r, w0, he, hE', hg, b, hv, hb⟩ => ?_
  subst hb
  subst hv
  exact ⟨_, he, post_true laidOutStrSays (by kernel_rfl) hW' rfl rfl rfl rfl rfl Tryd.underlying4 (gr_eqv hg hE')⟩
theorem strSays_said : Rows.StrSaysSaid :=
  OpenClaim.holds_of_wide 8 Tryd.f8 rfl rfl rfl rfl rfl rfl rfl ⟨rfl, rfl, rfl, rfl, rfl⟩ rfl rfl rfl rfl rfl (by kernel_rfl) Tryd.func8 (by kernel_rfl)
    (of_decide_eq_true (by kernel_rfl)) (by unfold Func.isWrapper; first | (rw [if_pos (by decide +kernel)]; kernel_rfl) | (rw [if_neg (by decide +kernel)]; exact ⟨rfl, rfl⟩))
    (fun os started H enc _ => strSays_lifted os started H enc)
theorem strSays_plain (f : FuncId) (fn : Func) (hf : Tryd.pinned.checked.prog.funcNamed "smithy/smithylaw11.StrSays" = some f) (hfn : Tryd.pinned.checked.prog.funcs[f]? = some fn) :
    true = Tryd.pinned.checked.prog.looks [] ∧ ∀ (j : Nat) t, fn.params[j]? = some t → Tryd.pinned.checked.prog.wantsStandIn t = false := by
  obtain rfl : f = 8 := Option.some.inj ((show Tryd.prog.funcNamed "smithy/smithylaw11.StrSays" = some 8 by kernel_rfl).symm.trans hf) |>.symm
  obtain rfl : fn = Tryd.f8 := (Option.some.inj (Tryd.func8.symm.trans hfn)).symm
  refine ⟨by kernel_rfl, fun j t ht => ?_⟩
  rw [Tryd.params8] at ht
  have hm := Array.mem_of_getElem? ht
  have hall : (#[9, 9, 9, 22, 3, 3, 4, 4] : Array TypeId).all (fun t => Tryd.prog.wantsStandIn t == false) = true := by kernel_rfl
  have := Array.all_eq_true_iff_forall_mem.mp hall t hm
  rw [beq_iff_eq] at this
  exact this
theorem strSays_card : Rows.StrSaysCardSaid :=
  Claim7.holds_tied_plain_at .later [] _ _ _ _ strSays_said (fun _ h => by cases h) (by kernel_rfl) (fun _ h => by cases h) strSays_row_tie rfl ⟨rfl, rfl⟩ (by kernel_rfl) rfl strSays_plain (by kernel_rfl)
end Go.Proofs.YtjinkmipkfjblaaDoor

 