/- DepsOnce. -/
import Derived.Test.YtofenpiiihhigaaDoorJ5
import Derived.Test.YtofenpiiihhigaaDoorCards
import Derived.Test.YtofenpiiihhigaaDoorTie
import Derived.Lay
import Derived.ChangeMaps5
namespace Go.Proofs.YtofenpiiihhigaaDoor
open Go Go.RowKit Go.WideShapes Go.ChangeShapes Go.ChangeAt
theorem ownDepsOnce : ownKnob Tryd.prog.godebug = none := by kernel_rfl
theorem laidOutDepsOnce : laidOutB Tryd.prog = true := by kernel_rfl
set_option maxHeartbeats 1000000 in
theorem el28_openDepsOnce {HH : Type} {enc : TypeId × Value → HH} {W : World} (n : Nat) (cs : List Value) (y : DataW HH × List MemPlace) (h : DataW.trod enc Tryd.prog W 0 (fun _ => true) true n 28 cs = some y) (hl : cs.length = 3) : ∃ (h : Int × Hdr × Hdr) (x : Int × List Int × List Int), cs = encH28 h ∧ de28.rel W h x ∧ ((In .i64 (x.1)) ∧ ((x.2.1).length ≤ maxLen ∧ ∀ s ∈ (x.2.1), In .i64 s) ∧ ((x.2.2).length ≤ maxLen ∧ ∀ s ∈ (x.2.2), In .i64 s)) := by
  obtain ⟨m, hfl⟩ := fieldsOne Tryd.underlying28 (by kernel_rfl) h
  match cs, hl with
  | [v0, v1, v2], _ =>
    obtain ⟨u0, y0, e0, t0⟩ := hfl 0 _ rfl (by simp)
    obtain ⟨z0, c0, _, w0⟩ := DataW.trod_int Tryd.underlying3 t0
    simp only [List.cons.injEq, and_true] at c0
    subst c0
    simp only [List.getElem?_cons_zero, Option.some.injEq] at e0
    subst e0
    obtain ⟨u1, y1, e1, t1⟩ := hfl 1 _ rfl (by simp)
    obtain ⟨A1, k1, z1, c1, r1, w1⟩ := open_rdi1 Tryd.underlying26 Tryd.underlying3 (by kernel_rfl) t1
    subst c1
    simp only [List.getElem?_cons_zero, List.getElem?_cons_succ, Option.some.injEq] at e1
    subst e1
    obtain ⟨u2, y2, e2, t2⟩ := hfl 2 _ rfl (by simp)
    obtain ⟨A2, k2, z2, c2, r2, w2⟩ := open_rdi1 Tryd.underlying26 Tryd.underlying3 (by kernel_rfl) t2
    subst c2
    simp only [List.getElem?_cons_zero, List.getElem?_cons_succ, Option.some.injEq] at e2
    subst e2
    exact ⟨(z0, ⟨A1, z1.length, k1⟩, ⟨A2, z2.length, k2⟩), (z0, z1, z2), rfl, ⟨rfl, ⟨rfl, r1⟩, ⟨rfl, r2⟩⟩, ⟨(by simpa [Lit.wf, In, IntKind.min, IntKind.max, IntKind.signed, IntKind.bits] using w0), ⟨Nat.le_trans r1.cap r1.max, fun s hs => by simpa [Lit.wf, In, IntKind.min, IntKind.max, IntKind.signed, IntKind.bits] using w1 s hs⟩, ⟨Nat.le_trans r2.cap r2.max, fun s hs => by simpa [Lit.wf, In, IntKind.min, IntKind.max, IntKind.signed, IntKind.bits] using w2 s hs⟩⟩⟩
theorem depsOnce_met (os : Os) : laidMetH Tryd.prog Rows.depsOnceRow.laid ((World.doorLaid Tryd.prog 347 os).forCall (fun _ _ => 0) ⟨#[], #[.slice none 0 0, .int .i64 0], []⟩).memory :=
  laidMetH_of_parts3 (fuel := 8) (laidMet_of_run' 8 (by kernel_rfl) (by kernel_rfl)) (by kernel_rfl) (by kernel_rfl)
set_option maxRecDepth 100000 in
theorem depsOnce_lifted (os : Os) (started : os.Started) (H : Type) (enc : TypeId × Value → H) :
    ReturnsInHanded {} Tryd.checked os 3 .any (fun w args => (Rows.depsOnceSpec.pre enc Tryd.prog Tryd.f3 [] false w args ∧ laidMetH Tryd.prog Rows.depsOnceRow.laid w) ∧ sizedMet enc Tryd.prog Tryd.f3 (OpenSpec.ofChange Rows.depsOnceSpec) false w args)
      (Rows.depsOnceSpec.post enc Tryd.prog Tryd.f3 false true false false) := by
  refine returnsInHanded_of_change_and (C := Tryd.checked) (X := fun w _ => laidMetH Tryd.prog Rows.depsOnceRow.laid w) (fun _ _ _ hh h => h.of_heap hh) ownDepsOnce started (by kernel_rfl) Tryd.func3
    (ChangeSpec.witness_shaped (enc := enc) (C := Tryd.checked) (os := os) (X := fun w _ => laidMetH Tryd.prog Rows.depsOnceRow.laid w) false (World.doorLaid Tryd.prog 347 os) #[.slice none 0 0, .int .i64 0] 8 rfl (World.shaped_of_RefB (by kernel_rfl) (by kernel_rfl)) (by kernel_rfl) (by kernel_rfl) (by kernel_rfl) (depsOnce_met os)) ?_
  intro W base args ds gs before hval0 hW _ _ hL _
  have hval : ∀ (j : Nat) t v, Tryd.f3.params[j]? = some t → args[j]? = some v → Value.okWide Tryd.prog W .any base t v := hval0
  have hW' := hW
  obtain ⟨p, q, hA0, hV, rfl, hfz, hnd⟩ := hW
  have hA : DataW.TrodAll enc Tryd.prog W 0 (fun _ => true) true Tryd.f3.params.toList args.toList ds p := hA0
  rw [Tryd.params3] at hA hval
  obtain ⟨v0, v1, d0, d1, p0, p1, rfl, rfl, rfl, h0, h1⟩ := trodAll_two hA
  obtain ⟨rfl, rfl⟩ := trodVars_none hV
  obtain ⟨A0, c0, hs0, x0, rfl, hR0, hr0, hx0⟩ := open_rdF encH28_ok Tryd.underlying22 (by kernel_rfl) el28_openDepsOnce (hval 0 22 v0 rfl rfl) h0
  obtain ⟨x1, rfl, rfl, rfl, hx1⟩ := open_int Tryd.underlying3 (hval 1 3 v1 rfl rfl) h1
  have hx1 : In .i64 x1 := by simpa [Lit.wf, In, IntKind.min, IntKind.max, IntKind.signed, IntKind.bits] using hx1
  have hG : GOK [3, 7] W := gok_of_laid hL (by kernel_rfl) (by kernel_rfl) (fun h => absurd h (by decide)) (fun h => absurd h (by decide))
  have hF := W_smithylaw13_DepsOnce hG (by decide) (by decide) hR0 rfl hr0  (show M_smithylaw13_DepsOnce x0 x1 (fun b => b = true) from depsOnce_r hx0 hx1 rfl)
  refine (hF.2 W (Eqv.refl W)).mono fun e W' ⟨r, w0, he, hE', hg, b, hv, hb⟩ => ?_
  subst hb
  subst hv
  exact ⟨_, he, post_true laidOutDepsOnce (by kernel_rfl) hW' rfl rfl rfl rfl rfl Tryd.underlying4 (gr_eqv hg hE')⟩
theorem depsOnce_said : Rows.DepsOnceSaid :=
  OpenClaim.holds_of_wide 3 Tryd.f3 rfl rfl rfl rfl rfl rfl rfl ⟨rfl, rfl, rfl, rfl, rfl⟩ rfl rfl rfl rfl rfl (by kernel_rfl) Tryd.func3 (by kernel_rfl)
    (of_decide_eq_true (by kernel_rfl)) (by unfold Func.isWrapper; first | (rw [if_pos (by decide +kernel)]; kernel_rfl) | (rw [if_neg (by decide +kernel)]; exact ⟨rfl, rfl⟩))
    (fun os started H enc _ => depsOnce_lifted os started H enc)
theorem depsOnce_plain (f : FuncId) (fn : Func) (hf : Tryd.pinned.checked.prog.funcNamed "smithy/smithylaw13.DepsOnce" = some f) (hfn : Tryd.pinned.checked.prog.funcs[f]? = some fn) :
    true = Tryd.pinned.checked.prog.looks [] ∧ ∀ (j : Nat) t, fn.params[j]? = some t → Tryd.pinned.checked.prog.wantsStandIn t = false := by
  obtain rfl : f = 3 := Option.some.inj ((show Tryd.prog.funcNamed "smithy/smithylaw13.DepsOnce" = some 3 by kernel_rfl).symm.trans hf) |>.symm
  obtain rfl : fn = Tryd.f3 := (Option.some.inj (Tryd.func3.symm.trans hfn)).symm
  refine ⟨by kernel_rfl, fun j t ht => ?_⟩
  rw [Tryd.params3] at ht
  have hm := Array.mem_of_getElem? ht
  have hall : (#[22, 3] : Array TypeId).all (fun t => Tryd.prog.wantsStandIn t == false) = true := by kernel_rfl
  have := Array.all_eq_true_iff_forall_mem.mp hall t hm
  rw [beq_iff_eq] at this
  exact this
theorem depsOnce_card : Rows.DepsOnceCardSaid :=
  Claim7.holds_tied_plain_at .later [] _ _ _ _ depsOnce_said (fun _ h => by cases h) (by kernel_rfl) (fun _ h => by cases h) depsOnce_row_tie rfl ⟨rfl, rfl⟩ (by kernel_rfl) rfl depsOnce_plain (by kernel_rfl)
end Go.Proofs.YtofenpiiihhigaaDoor

 