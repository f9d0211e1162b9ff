/- DiskKeeps. -/
import Derived.Test.YtlonpmajnglmoaaDoorJ4
import Derived.Test.YtlonpmajnglmoaaDoorCards
import Derived.Test.YtlonpmajnglmoaaDoorTie
import Derived.Lay
import Derived.ChangeMaps5
namespace Go.Proofs.YtlonpmajnglmoaaDoor
open Go Go.RowKit Go.WideShapes Go.ChangeShapes Go.ChangeAt
theorem ownDiskKeeps : ownKnob Tryd.prog.godebug = none := by kernel_rfl
theorem laidOutDiskKeeps : laidOutB Tryd.prog = true := by kernel_rfl
set_option maxHeartbeats 1000000 in
theorem el54_openDiskKeeps {H : Type} {enc : TypeId × Value → H} {W : World} (n : Nat) (cs : List Value) (y : DataW H × List MemPlace) (h : DataW.trod enc Tryd.prog W 0 (fun _ => true) true n 54 cs = some y) (hl : cs.length = 5) : ∃ x : Int × Int × Int × List UInt8 × List UInt8, cs = enc54 x ∧ (In .i64 (x.1) ∧ In .i64 (x.2.1) ∧ In .i64 (x.2.2.1) ∧ (x.2.2.2.1).length ≤ maxLen ∧ (x.2.2.2.2).length ≤ maxLen) := by
  obtain ⟨m, hfl⟩ := fieldsOne Tryd.underlying54 (by kernel_rfl) h
  match cs, hl with
  | [v0, v1, v2, v3, v4], _ =>
    obtain ⟨u0, y0, e0, t0⟩ := hfl 0 _ rfl (by simp)
    obtain ⟨z0, c0, _, w0⟩ := DataW.trod_int Tryd.underlying3 t0
    simp only [List.cons.injEq, and_true] at c0
    subst c0
    simp only [List.getElem?_cons_zero, List.getElem?_cons_succ, Option.some.injEq] at e0
    subst e0
    obtain ⟨u1, y1, e1, t1⟩ := hfl 1 _ rfl (by simp)
    obtain ⟨z1, c1, _, w1⟩ := DataW.trod_int Tryd.underlying3 t1
    simp only [List.cons.injEq, and_true] at c1
    subst c1
    simp only [List.getElem?_cons_zero, List.getElem?_cons_succ, Option.some.injEq] at e1
    subst e1
    obtain ⟨u2, y2, e2, t2⟩ := hfl 2 _ rfl (by simp)
    obtain ⟨z2, c2, _, w2⟩ := DataW.trod_int Tryd.underlying3 t2
    simp only [List.cons.injEq, and_true] at c2
    subst c2
    simp only [List.getElem?_cons_zero, List.getElem?_cons_succ, Option.some.injEq] at e2
    subst e2
    obtain ⟨u3, y3, e3, t3⟩ := hfl 3 _ rfl (by simp)
    obtain ⟨⟨⟨z3⟩⟩, c3, _, w3⟩ := DataW.trod_string Tryd.underlying9 t3
    simp only [List.cons.injEq, and_true] at c3
    subst c3
    simp only [List.getElem?_cons_zero, List.getElem?_cons_succ, Option.some.injEq] at e3
    subst e3
    obtain ⟨u4, y4, e4, t4⟩ := hfl 4 _ rfl (by simp)
    obtain ⟨⟨⟨z4⟩⟩, c4, _, w4⟩ := DataW.trod_string Tryd.underlying9 t4
    simp only [List.cons.injEq, and_true] at c4
    subst c4
    simp only [List.getElem?_cons_zero, List.getElem?_cons_succ, Option.some.injEq] at e4
    subst e4
    exact ⟨(z0, z1, z2, z3, z4), rfl, ⟨(by simpa [Lit.wf, In, IntKind.min, IntKind.max, IntKind.signed, IntKind.bits] using w0), (by simpa [Lit.wf, In, IntKind.min, IntKind.max, IntKind.signed, IntKind.bits] using w1), (by simpa [Lit.wf, In, IntKind.min, IntKind.max, IntKind.signed, IntKind.bits] using w2), (show z3.length ≤ maxLen from w3), (show z4.length ≤ maxLen from w4)⟩⟩
theorem diskKeeps_met (os : Os) : laidMetH Tryd.prog Rows.diskKeepsRow.laid ((World.laidAll Tryd.prog os Rows.diskKeepsRow.laid).forCall (fun _ _ => 0) ⟨#[], #[.slice none 0 0, .int .i64 0, .int .i64 0], []⟩).memory := by
  rw [MakeChecks.laidMetH_plain _ _ _ (by kernel_rfl)]
  exact laidMet_laidAll _ (by kernel_rfl) (by kernel_rfl)
set_option maxRecDepth 100000 in
theorem diskKeeps_lifted (os : Os) (started : os.Started) (H : Type) (enc : TypeId × Value → H) :
    ReturnsInHanded {} Tryd.checked os 5 .any (fun w args => (Rows.diskKeepsSpec.pre enc Tryd.prog Tryd.f5 [] false w args ∧ laidMetH Tryd.prog Rows.diskKeepsRow.laid w) ∧ sizedMet enc Tryd.prog Tryd.f5 (OpenSpec.ofChange Rows.diskKeepsSpec) false w args)
      (Rows.diskKeepsSpec.post enc Tryd.prog Tryd.f5 false true false false) := by
  refine handed_both (C := Tryd.checked) (X := fun w _ => laidMetH Tryd.prog Rows.diskKeepsRow.laid w) (fun _ _ _ hh h => h.of_heap hh) ownDiskKeeps started (by kernel_rfl) Tryd.func5
    (ChangeSpec.witness_shaped (enc := enc) (C := Tryd.checked) (os := os) (X := fun w _ => laidMetH Tryd.prog Rows.diskKeepsRow.laid w) false (World.laidAll Tryd.prog os Rows.diskKeepsRow.laid) #[.slice none 0 0, .int .i64 0, .int .i64 0] 8 (World.laidAll_os _ _ _) (World.shaped_of_ZipB (by kernel_rfl) (by kernel_rfl)) (by kernel_rfl) (by kernel_rfl) (by kernel_rfl) (diskKeeps_met os)) ?_
  intro W base args ds gs before hval0 hW hL hsh
  have hval : ∀ (j : Nat) t v, Tryd.f5.params[j]? = some t → args[j]? = some v → Value.okWide Tryd.prog W .any base t v := hval0
  have hW' := hW
  obtain ⟨p, q, hA0, hV, rfl, hfz, hnd⟩ := hW
  have hA : DataW.TrodAll enc Tryd.prog W 0 (fun _ => true) true Tryd.f5.params.toList args.toList ds p := hA0
  rw [Tryd.params5] at hA hval
  obtain ⟨v0, v1, v2, d0, d1, d2, p0, p1, p2, rfl, rfl, rfl, h0, h1, h2⟩ := trodAll_three hA
  obtain ⟨rfl, rfl⟩ := trodVars_none hV
  obtain ⟨A0, c0, x0, rfl, hR0, hx0⟩ := open_rdK enc54_ok Tryd.underlying51 (by kernel_rfl) el54_openDiskKeeps (hval 0 51 v0 rfl rfl) h0
  obtain ⟨x1, rfl, rfl, rfl, hx1⟩ := open_int Tryd.underlying3 (hval 1 3 v1 rfl rfl) h1
  have hx1 : In .i64 x1 := by simpa [Lit.wf, In, IntKind.min, IntKind.max, IntKind.signed, IntKind.bits] using hx1
  obtain ⟨x2, rfl, rfl, rfl, hx2⟩ := open_int Tryd.underlying3 (hval 2 3 v2 rfl rfl) h2
  have hx2 : In .i64 x2 := by simpa [Lit.wf, In, IntKind.min, IntKind.max, IntKind.signed, IntKind.bits] using hx2
  have hG : GOK [0, 1, 2, 3, 4, 5, 6, 7, 8, 9, 10, 11, 12, 13, 14, 15, 16, 100] W := gok_of_laid hL (by kernel_rfl) (by kernel_rfl) (fun _ => maxLenCell hsh) (fun h => absurd h (by decide))
  have hF := W_smithylaw3_DiskKeeps hG (by decide) (by decide) (by decide) (by decide) (by decide) (by decide) (by decide) (by decide) (by decide) (by decide) (by decide) (by decide) (by decide) (by decide) (by decide) (by decide) (by decide) (by decide) hR0 rfl   (show M_smithylaw3_DiskKeeps x0 x1 x2 (fun b => b = true) from keeps_ok hx0 hx1 hx2 rfl)
  refine (hF.2 W (Eqv.refl W)).mono fun e W' ⟨r, w0, he, hE', hg, b, hv, hb⟩ => ?_
  subst hb
  subst hv
  exact ⟨_, he, post_true laidOutDiskKeeps (by kernel_rfl) hW' rfl rfl rfl rfl rfl Tryd.underlying4 (gr_eqv hg hE')⟩
theorem diskKeeps_said : Rows.DiskKeepsSaid :=
  OpenClaim.holds_of_wide 5 Tryd.f5 rfl rfl rfl rfl rfl rfl rfl ⟨rfl, rfl, rfl, rfl, rfl⟩ rfl rfl rfl rfl rfl (by kernel_rfl) Tryd.func5 (by kernel_rfl)
    (of_decide_eq_true (by kernel_rfl)) (by unfold Func.isWrapper; first | (rw [if_pos (by decide +kernel)]; kernel_rfl) | (rw [if_neg (by decide +kernel)]; exact ⟨rfl, rfl⟩))
    (fun os started H enc _ => diskKeeps_lifted os started H enc)
theorem diskKeeps_plain (f : FuncId) (fn : Func) (hf : Tryd.pinned.checked.prog.funcNamed "smithy/smithylaw3.DiskKeeps" = some f) (hfn : Tryd.pinned.checked.prog.funcs[f]? = some fn) :
    true = Tryd.pinned.checked.prog.looks [] ∧ ∀ (j : Nat) t, fn.params[j]? = some t → Tryd.pinned.checked.prog.wantsStandIn t = false := by
  obtain rfl : f = 5 := Option.some.inj ((show Tryd.prog.funcNamed "smithy/smithylaw3.DiskKeeps" = some 5 by kernel_rfl).symm.trans hf) |>.symm
  obtain rfl : fn = Tryd.f5 := (Option.some.inj (Tryd.func5.symm.trans hfn)).symm
  refine ⟨by kernel_rfl, fun j t ht => ?_⟩
  rw [Tryd.params5] at ht
  have hm := Array.mem_of_getElem? ht
  have hall : (#[51, 3, 3] : Array TypeId).all (fun t => Tryd.prog.wantsStandIn t == false) = true := by kernel_rfl
  have := Array.all_eq_true_iff_forall_mem.mp hall t hm
  rw [beq_iff_eq] at this
  exact this
theorem diskKeeps_card : Rows.DiskKeepsCardSaid :=
  Claim7.holds_tied_plain_at .later [] _ _ _ _ diskKeeps_said (fun _ h => by cases h) (by kernel_rfl) (fun _ h => by cases h) diskKeeps_row_tie rfl ⟨rfl, rfl⟩ (by kernel_rfl) rfl diskKeeps_plain (by kernel_rfl)
end Go.Proofs.YtlonpmajnglmoaaDoor

 