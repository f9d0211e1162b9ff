/- A cache that is told anything, whose disk loses power whenever, has the entries that the chapter says, and answers what it says. -/
import Derived.Test.YtafpeckmdjplnaaGreatDoorJ6
import Derived.Test.YtafpeckmdjplnaaGreatDoorCards
import Derived.Test.YtafpeckmdjplnaaGreatDoorTie
import Derived.Lay
import Derived.ChangeMaps5
namespace Go.Proofs.YtafpeckmdjplnaaGreatDoor
open Go Go.RowKit Go.WideShapes Go.ChangeShapes Go.ChangeAt
theorem ownCachePlays : ownKnob Tryz.prog.godebug = none := by kernel_rfl
theorem laidOutCachePlays : laidOutB Tryz.prog = true := by kernel_rfl
set_option maxHeartbeats 1000000 in
theorem el42_openCachePlays {H : Type} {enc : TypeId × Value → H} {W : World} (n : Nat) (cs : List Value) (y : DataW H × List MemPlace) (h : DataW.trod enc Tryz.prog W 0 (fun _ => true) true n 42 cs = some y) (hl : cs.length = 4) : ∃ x : Int × Int × Int × List UInt8, cs = enc42 x ∧ (In .i64 (x.1) ∧ In .i64 (x.2.1) ∧ In .i64 (x.2.2.1) ∧ (x.2.2.2).length ≤ maxLen) := by
  obtain ⟨m, hfl⟩ := fieldsOne Tryz.underlying42 (by kernel_rfl) h
  match cs, hl with
  | [v0, v1, v2, v3], _ =>
    obtain ⟨u0, y0, e0, t0⟩ := hfl 0 _ rfl (by simp)
    obtain ⟨z0, c0, _, w0⟩ := DataW.trod_int Tryz.underlying3 t0
    simp only [List.cons.injEq, and_true] at c0
    subst c0
    simp only [List.getElem?_cons_zero, Option.some.injEq] at e0
    subst e0
    obtain ⟨u1, y1, e1, t1⟩ := hfl 1 _ rfl (by simp)
    obtain ⟨z1, c1, _, w1⟩ := DataW.trod_int Tryz.underlying3 t1
    simp only [List.cons.injEq, and_true] at c1
    subst c1
    simp only [List.getElem?_cons_zero, List.getElem?_cons_succ, Option.some.injEq] at e1
    subst e1
    obtain ⟨u2, y2, e2, t2⟩ := hfl 2 _ rfl (by simp)
    obtain ⟨z2, c2, _, w2⟩ := DataW.trod_int Tryz.underlying3 t2
    simp only [List.cons.injEq, and_true] at c2
    subst c2
    simp only [List.getElem?_cons_zero, List.getElem?_cons_succ, Option.some.injEq] at e2
    subst e2
    obtain ⟨u3, y3, e3, t3⟩ := hfl 3 _ rfl (by simp)
    obtain ⟨⟨⟨z3⟩⟩, c3, _, w3⟩ := DataW.trod_string Tryz.underlying9 t3
    simp only [List.cons.injEq, and_true] at c3
    subst c3
    simp only [List.getElem?_cons_zero, List.getElem?_cons_succ, Option.some.injEq] at e3
    subst e3
    exact ⟨(z0, z1, z2, z3), rfl, ⟨(by simpa [Lit.wf, In, IntKind.min, IntKind.max, IntKind.signed, IntKind.bits] using w0), (by simpa [Lit.wf, In, IntKind.min, IntKind.max, IntKind.signed, IntKind.bits] using w1), (by simpa [Lit.wf, In, IntKind.min, IntKind.max, IntKind.signed, IntKind.bits] using w2), (show z3.length ≤ maxLen from w3)⟩⟩
theorem cachePlays_met (os : Os) : laidMetH Tryz.prog Rows.cachePlaysRow.laid ((World.laidAll Tryz.prog os Rows.cachePlaysRow.laid).forCall (fun _ _ => 0) ⟨#[], #[.string ⟨⟨[]⟩⟩, .slice none 0 0], []⟩).memory := by
  rw [MakeChecks.laidMetH_plain _ _ _ (by kernel_rfl)]
  exact laidMet_laidAll _ (by kernel_rfl) (by kernel_rfl)
set_option maxRecDepth 100000 in
theorem cachePlays_lifted (os : Os) (started : os.Started) (H : Type) (enc : TypeId × Value → H) :
    ReturnsInHanded {} Tryz.checked os 3 .any (fun w args => (Rows.cachePlaysSpec.pre enc Tryz.prog Tryz.f3 [] false w args ∧ laidMetH Tryz.prog Rows.cachePlaysRow.laid w) ∧ sizedMet enc Tryz.prog Tryz.f3 (OpenSpec.ofChange Rows.cachePlaysSpec) false w args)
      (Rows.cachePlaysSpec.post enc Tryz.prog Tryz.f3 false true false false) := by
  refine handed_both (C := Tryz.checked) (X := fun w _ => laidMetH Tryz.prog Rows.cachePlaysRow.laid w) (fun _ _ _ hh h => h.of_heap hh) ownCachePlays started (by kernel_rfl) Tryz.func3
    (ChangeSpec.witness_shaped (enc := enc) (C := Tryz.checked) (os := os) (X := fun w _ => laidMetH Tryz.prog Rows.cachePlaysRow.laid w) false (World.laidAll Tryz.prog os Rows.cachePlaysRow.laid) #[.string ⟨⟨[]⟩⟩, .slice none 0 0] 8 (World.laidAll_os _ _ _) (World.shaped_of_ZipB (by kernel_rfl) (by kernel_rfl)) (by kernel_rfl) (by kernel_rfl) (by kernel_rfl) (cachePlays_met os)) ?_
  intro W base args ds gs before hval0 hW hL hsh
  have hval : ∀ (j : Nat) t v, Tryz.f3.params[j]? = some t → args[j]? = some v → Value.okWide Tryz.prog W .any base t v := hval0
  have hW' := hW
  obtain ⟨p, q, hA0, hV, rfl, hfz, hnd⟩ := hW
  have hA : DataW.TrodAll enc Tryz.prog W 0 (fun _ => true) true Tryz.f3.params.toList args.toList ds p := hA0
  rw [Tryz.params3] at hA hval
  obtain ⟨v0, v1, d0, d1, p0, p1, rfl, rfl, rfl, h0, h1⟩ := trodAll_two hA
  obtain ⟨rfl, rfl⟩ := trodVars_none hV
  obtain ⟨s0, rfl, rfl, rfl, hs0⟩ := ChangeMaps.open_string Tryz.underlying9 (hval 0 9 v0 rfl rfl) h0
  obtain ⟨⟨x0⟩⟩ := s0
  have hs0 : x0.length ≤ maxLen := hs0
  obtain ⟨A1, c1, x1, rfl, hR1, hx1⟩ := open_rdK enc42_ok Tryz.underlying22 (by kernel_rfl) el42_openCachePlays (hval 1 22 v1 rfl rfl) h1
  have hG : GOK [0, 1, 2, 3, 4, 5, 6, 7, 8, 9, 10, 11, 12, 13, 14, 15, 16, 100] W := gok_of_laid hL (by kernel_rfl) (by kernel_rfl) (fun _ => maxLenCell hsh) (fun h => absurd h (by decide))
  have hF := W_smithylaw25_CachePlays hG (by decide) (by decide) (by decide) (by decide) (by decide) (by decide) (by decide) (by decide) (by decide) (by decide) (by decide) (by decide) (by decide) (by decide) (by decide) (by decide) (by decide) (by decide)  hR1 rfl (show j9 x0 x1 (fun b => b = true) from plays_cp hs0 hx1 rfl)
  refine (hF.2 W (Eqv.refl W)).mono fun e W' ⟨r, w0, he, hE', hg, b, hv, hb⟩ => ?_
  subst hb
  subst hv
  exact ⟨_, he, post_true laidOutCachePlays (by kernel_rfl) hW' rfl rfl rfl rfl rfl Tryz.underlying4 (jg hg hE')⟩
theorem cachePlays_inPlace : (Rows.cachePlaysRow.inPlace == Tryz.pinned.checked.prog.inPlace 3) = true := by kernel_rfl
theorem cachePlays_unfollowed : (Rows.cachePlaysRow.unfollowed == Tryz.pinned.checked.prog.unfollowed 3) = true := by kernel_rfl
theorem cachePlays_recurses : (Rows.cachePlaysRow.recurses == Tryz.pinned.checked.prog.recurses 3) = true := by kernel_rfl
theorem cachePlays_named : (Rows.cachePlaysRow.named == Tryz.pinned.checked.prog.varsNamed 3) = true := by kernel_rfl
theorem cachePlays_closed : joinedFacts Tryz.pinned.checked.prog 3 Tryz.f3 Rows.cachePlaysSpec Rows.cachePlaysRow = true := by
  unfold joinedFacts
  rw [cachePlays_inPlace, cachePlays_unfollowed, cachePlays_recurses, cachePlays_named]
  kernel_rfl
theorem cachePlays_said : Rows.CachePlaysSaid :=
  OpenClaim.holds_of_wide 3 Tryz.f3 rfl rfl rfl rfl rfl rfl rfl ⟨rfl, rfl, rfl, rfl, rfl⟩ rfl rfl rfl rfl rfl (by kernel_rfl) Tryz.func3 cachePlays_closed
    (of_decide_eq_true (by kernel_rfl)) (by unfold Func.isWrapper; first | (rw [if_pos (by decide +kernel)]; kernel_rfl) | (rw [if_neg (by decide +kernel)]; exact ⟨rfl, rfl⟩))
    (fun os started H enc _ => cachePlays_lifted os started H enc)
theorem cachePlays_plain (f : FuncId) (fn : Func) (hf : Tryz.pinned.checked.prog.funcNamed "smithy/smithylaw25.CachePlays" = some f) (hfn : Tryz.pinned.checked.prog.funcs[f]? = some fn) :
    true = Tryz.pinned.checked.prog.looks [] ∧ ∀ (j : Nat) t, fn.params[j]? = some t → Tryz.pinned.checked.prog.wantsStandIn t = false := by
  obtain rfl : f = 3 := Option.some.inj ((show Tryz.prog.funcNamed "smithy/smithylaw25.CachePlays" = some 3 by kernel_rfl).symm.trans hf) |>.symm
  obtain rfl : fn = Tryz.f3 := (Option.some.inj (Tryz.func3.symm.trans hfn)).symm
  refine ⟨by kernel_rfl, fun j t ht => ?_⟩
  rw [Tryz.params3] at ht
  have hm := Array.mem_of_getElem? ht
  have hall : (#[9, 22] : Array TypeId).all (fun t => Tryz.prog.wantsStandIn t == false) = true := by kernel_rfl
  have := Array.all_eq_true_iff_forall_mem.mp hall t hm
  rw [beq_iff_eq] at this
  exact this
theorem cachePlays_card : Rows.CachePlaysCardSaid :=
  Claim7.holds_tied_plain_at .later [] _ _ _ _ cachePlays_said (fun _ h => by cases h) (by kernel_rfl) (fun _ h => by cases h) cachePlays_row_tie rfl ⟨rfl, rfl⟩ (by kernel_rfl) rfl cachePlays_plain (by kernel_rfl)
end Go.Proofs.YtafpeckmdjplnaaGreatDoor

 