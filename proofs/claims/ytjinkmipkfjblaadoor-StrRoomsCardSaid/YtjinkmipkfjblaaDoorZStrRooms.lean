/- StrRooms (the card): how much room each tool leaves. -/
import Derived.Test.YtjinkmipkfjblaaDoorJ3
import Derived.Test.YtjinkmipkfjblaaDoorCards
import Derived.Test.YtjinkmipkfjblaaDoorTie
import Derived.Lay
import Derived.ChangeMaps5
namespace Go.Proofs.YtjinkmipkfjblaaDoor
open Go Go.RowKit Go.WideShapes Go.ChangeShapes Go.ChangeAt
theorem ownStrRooms : ownKnob Tryd.prog.godebug = none := by kernel_rfl
theorem laidOutStrRooms : laidOutB Tryd.prog = true := by kernel_rfl
theorem strRooms_met (os : Os) : laidMetH Tryd.prog Rows.strRoomsRow.laid ((World.laidAll Tryd.prog os Rows.strRoomsRow.laid).forCall (fun _ _ => 0) ⟨#[], #[.int .i64 0, .int .i64 0], []⟩).memory := by
  rw [MakeChecks.laidMetH_plain _ _ _ (by kernel_rfl)]
  exact laidMet_laidAll _ (by kernel_rfl) (by kernel_rfl)
set_option maxRecDepth 100000 in
theorem strRooms_lifted (os : Os) (started : os.Started) (H : Type) (enc : TypeId × Value → H) :
    ReturnsInHanded {} Tryd.checked os 7 .any (fun w args => (Rows.strRoomsSpec.pre enc Tryd.prog Tryd.f7 [] false w args ∧ laidMetH Tryd.prog Rows.strRoomsRow.laid w) ∧ sizedMet enc Tryd.prog Tryd.f7 (OpenSpec.ofChange Rows.strRoomsSpec) false w args)
      (Rows.strRoomsSpec.post enc Tryd.prog Tryd.f7 false true false false) := by
  refine handed_both (C := Tryd.checked) (X := fun w _ => laidMetH Tryd.prog Rows.strRoomsRow.laid w) (fun _ _ _ hh h => h.of_heap hh) ownStrRooms started (by kernel_rfl) Tryd.func7
    (ChangeSpec.witness_shaped (enc := enc) (C := Tryd.checked) (os := os) (X := fun w _ => laidMetH Tryd.prog Rows.strRoomsRow.laid w) false (World.laidAll Tryd.prog os Rows.strRoomsRow.laid) #[.int .i64 0, .int .i64 0] 8 (World.laidAll_os _ _ _) (World.shaped_of_ZipB (by kernel_rfl) (by kernel_rfl)) (by kernel_rfl) (by kernel_rfl) (by kernel_rfl) (strRooms_met os)) ?_
  intro W base args ds gs before hval0 hW hL hsh
  have hval : ∀ (j : Nat) t v, Tryd.f7.params[j]? = some t → args[j]? = some v → Value.okWide Tryd.prog W .any base t v := hval0
  have hW' := hW
  obtain ⟨p, q, hA0, hV, rfl, hfz, hnd⟩ := hW
  have hA : DataW.TrodAll enc Tryd.prog W 0 (fun _ => true) true Tryd.f7.params.toList args.toList ds p := hA0
  rw [Tryd.params7] at hA hval
  obtain ⟨v0, v1, d0, d1, p0, p1, rfl, rfl, rfl, h0, h1⟩ := trodAll_two hA
  obtain ⟨rfl, rfl⟩ := trodVars_none hV
  obtain ⟨x0, rfl, rfl, rfl, hx0⟩ := open_int Tryd.underlying3 (hval 0 3 v0 rfl rfl) h0
  have hx0 : In .i64 x0 := by simpa [Lit.wf, In, IntKind.min, IntKind.max, IntKind.signed, IntKind.bits] using hx0
  obtain ⟨x1, rfl, rfl, rfl, hx1⟩ := open_int Tryd.underlying3 (hval 1 3 v1 rfl rfl) h1
  have hx1 : In .i64 x1 := by simpa [Lit.wf, In, IntKind.min, IntKind.max, IntKind.signed, IntKind.bits] using hx1
  have hG : GOK [0, 1, 2, 3, 4, 5, 6, 7, 8, 9, 10, 11, 12, 13, 14, 15, 16, 100] W := gok_of_laid hL (by kernel_rfl) (by kernel_rfl) (fun _ => maxLenCell hsh) (fun h => absurd h (by decide))
  have hF := W_smithylaw11_StrRooms hG (by decide) (by decide) (by decide) (by decide) (by decide) (by decide) (by decide) (by decide) (by decide) (by decide) (by decide) (by decide) (by decide) (by decide) (by decide) (by decide) (by decide) (by decide)   (show M_smithylaw11_StrRooms x0 x1 (fun b => b = true) from rooms_ok hx0 hx1 rfl)
  refine (hF.2 W (Eqv.refl W)).mono fun e W' ⟨r, w0, he, hE', hg, b, hv, hb⟩ => ?_
  subst hb
  subst hv
  exact ⟨_, he, post_true laidOutStrRooms (by kernel_rfl) hW' rfl rfl rfl rfl rfl Tryd.underlying4 (gr_eqv hg hE')⟩
theorem strRooms_said : Rows.StrRoomsSaid :=
  OpenClaim.holds_of_wide 7 Tryd.f7 rfl rfl rfl rfl rfl rfl rfl ⟨rfl, rfl, rfl, rfl, rfl⟩ rfl rfl rfl rfl rfl (by kernel_rfl) Tryd.func7 (by kernel_rfl)
    (of_decide_eq_true (by kernel_rfl)) (by unfold Func.isWrapper; first | (rw [if_pos (by decide +kernel)]; kernel_rfl) | (rw [if_neg (by decide +kernel)]; exact ⟨rfl, rfl⟩))
    (fun os started H enc _ => strRooms_lifted os started H enc)
theorem strRooms_plain (f : FuncId) (fn : Func) (hf : Tryd.pinned.checked.prog.funcNamed "smithy/smithylaw11.StrRooms" = some f) (hfn : Tryd.pinned.checked.prog.funcs[f]? = some fn) :
    true = Tryd.pinned.checked.prog.looks [] ∧ ∀ (j : Nat) t, fn.params[j]? = some t → Tryd.pinned.checked.prog.wantsStandIn t = false := by
  obtain rfl : f = 7 := Option.some.inj ((show Tryd.prog.funcNamed "smithy/smithylaw11.StrRooms" = some 7 by kernel_rfl).symm.trans hf) |>.symm
  obtain rfl : fn = Tryd.f7 := (Option.some.inj (Tryd.func7.symm.trans hfn)).symm
  refine ⟨by kernel_rfl, fun j t ht => ?_⟩
  rw [Tryd.params7] at ht
  have hm := Array.mem_of_getElem? ht
  have hall : (#[3, 3] : Array TypeId).all (fun t => Tryd.prog.wantsStandIn t == false) = true := by kernel_rfl
  have := Array.all_eq_true_iff_forall_mem.mp hall t hm
  rw [beq_iff_eq] at this
  exact this
theorem strRooms_card : Rows.StrRoomsCardSaid :=
  Claim7.holds_tied_plain_at .later [] _ _ _ _ strRooms_said (fun _ h => by cases h) (by kernel_rfl) (fun _ h => by cases h) strRooms_row_tie rfl ⟨rfl, rfl⟩ (by kernel_rfl) rfl strRooms_plain (by kernel_rfl)
end Go.Proofs.YtjinkmipkfjblaaDoor

 