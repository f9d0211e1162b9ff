/- PlanSays holds of the given program: any graph over any files: what becomes of each action, what is written, what has to be done, is what the chapter says. Conditions: those of the card alone. -/
import Derived.Test.YtjobklaengaamaaGreatDoorJ7
import Derived.Test.YtjobklaengaamaaGreatDoorCards
import Derived.Test.YtjobklaengaamaaGreatDoorTie
import Derived.Lay
import Derived.ChangeMaps5
namespace Go.Proofs.YtjobklaengaamaaGreatDoor
open Go Go.RowKit Go.WideShapes Go.ChangeShapes Go.ChangeAt
theorem ownPlanSays : ownKnob Tryz.prog.godebug = none := by kernel_rfl
theorem laidOutPlanSays : laidOutB Tryz.prog = true := by kernel_rfl
set_option maxHeartbeats 1000000 in
theorem el64_openPlanSays {HH : Type} {enc : TypeId × Value → HH} {W : World} (n : Nat) (cs : List Value) (y : DataW HH × List MemPlace) (h : DataW.trod enc Tryz.prog W 0 (fun _ => true) true n 64 cs = some y) (hl : cs.length = 4) : ∃ (h : Int × Hdr × Hdr × List UInt8) (x : Int × List (List UInt8) × List (List UInt8) × List UInt8), cs = qP h ∧ de64.rel W h x ∧ ((In .i64 (x.1)) ∧ ((x.2.1).length ≤ maxLen ∧ ∀ s ∈ (x.2.1), s.length ≤ maxLen) ∧ ((x.2.2.1).length ≤ maxLen ∧ ∀ s ∈ (x.2.2.1), s.length ≤ maxLen) ∧ ((x.2.2.2).length ≤ maxLen)) := by
  obtain ⟨m, hfl⟩ := fieldsOne Tryz.underlying64 (by kernel_rfl) h
  match cs, hl with
  | [v0, v1, v2, v3], _ =>
    obtain ⟨u0, y0, e0, t0⟩ := hfl 0 _ rfl (by simp)
    obtain ⟨z0, c0, _, w0⟩ := DataW.trod_int Tryz.underlying3 t0
    simp only [List.cons.injEq, and_true] at c0
    subst c0
    simp only [List.getElem?_cons_zero, Option.some.injEq] at e0
    subst e0
    obtain ⟨u1, y1, e1, t1⟩ := hfl 1 _ rfl (by simp)
    obtain ⟨A1, k1, z1, c1, r1, w1⟩ := open_rds1 Tryz.underlying42 Tryz.underlying9 (by kernel_rfl) t1
    subst c1
    simp only [List.getElem?_cons_zero, List.getElem?_cons_succ, Option.some.injEq] at e1
    subst e1
    obtain ⟨u2, y2, e2, t2⟩ := hfl 2 _ rfl (by simp)
    obtain ⟨A2, k2, z2, c2, r2, w2⟩ := open_rds1 Tryz.underlying42 Tryz.underlying9 (by kernel_rfl) t2
    subst c2
    simp only [List.getElem?_cons_zero, List.getElem?_cons_succ, Option.some.injEq] at e2
    subst e2
    obtain ⟨u3, y3, e3, t3⟩ := hfl 3 _ rfl (by simp)
    obtain ⟨⟨⟨z3⟩⟩, c3, _, w3⟩ := DataW.trod_string Tryz.underlying9 t3
    simp only [List.cons.injEq, and_true] at c3
    subst c3
    simp only [List.getElem?_cons_zero, List.getElem?_cons_succ, Option.some.injEq] at e3
    subst e3
    exact ⟨(z0, ⟨A1, z1.length, k1⟩, ⟨A2, z2.length, k2⟩, z3), (z0, z1, z2, z3), rfl, ⟨rfl, ⟨rfl, r1⟩, ⟨rfl, r2⟩, rfl⟩, ⟨(by simpa [Lit.wf, In, IntKind.min, IntKind.max, IntKind.signed, IntKind.bits] using w0), ⟨Nat.le_trans r1.cap r1.max, w1⟩, ⟨Nat.le_trans r2.cap r2.max, w2⟩, (show z3.length ≤ maxLen from w3)⟩⟩
set_option maxHeartbeats 1000000 in
theorem el67_openPlanSays {H : Type} {enc : TypeId × Value → H} {W : World} (n : Nat) (cs : List Value) (y : DataW H × List MemPlace) (h : DataW.trod enc Tryz.prog W 0 (fun _ => true) true n 67 cs = some y) (hl : cs.length = 2) : ∃ x : List UInt8 × List UInt8, cs = enc67 x ∧ ((x.1).length ≤ maxLen ∧ (x.2).length ≤ maxLen) := by
  obtain ⟨m, hfl⟩ := fieldsOne Tryz.underlying67 (by kernel_rfl) h
  match cs, hl with
  | [v0, v1], _ =>
    obtain ⟨u0, y0, e0, t0⟩ := hfl 0 _ rfl (by simp)
    obtain ⟨⟨⟨z0⟩⟩, c0, _, w0⟩ := DataW.trod_string Tryz.underlying9 t0
    simp only [List.cons.injEq, and_true] at c0
    subst c0
    simp only [List.getElem?_cons_zero, Option.some.injEq] at e0
    subst e0
    obtain ⟨u1, y1, e1, t1⟩ := hfl 1 _ rfl (by simp)
    obtain ⟨⟨⟨z1⟩⟩, c1, _, w1⟩ := DataW.trod_string Tryz.underlying9 t1
    simp only [List.cons.injEq, and_true] at c1
    subst c1
    simp only [List.getElem?_cons_zero, List.getElem?_cons_succ, Option.some.injEq] at e1
    subst e1
    exact ⟨(z0, z1), rfl, ⟨(show z0.length ≤ maxLen from w0), (show z1.length ≤ maxLen from w1)⟩⟩
theorem planSays_met (os : Os) : laidMetH Tryz.prog Rows.planSaysRow.laid ((World.laidAll Tryz.prog os Rows.planSaysRow.laid).forCall (fun _ _ => 0) ⟨#[], #[.slice none 0 0, .slice none 0 0, .slice none 0 0], []⟩).memory := by
  rw [MakeChecks.laidMetH_plain _ _ _ (by kernel_rfl)]
  exact laidMet_laidAll _ (by kernel_rfl) (by kernel_rfl)
set_option maxRecDepth 100000 in
theorem planSays_lifted (os : Os) (started : os.Started) (H : Type) (enc : TypeId × Value → H) :
    ReturnsInHanded {} Tryz.checked os 3 .any (fun w args => (Rows.planSaysSpec.pre enc Tryz.prog Tryz.f3 [] false w args ∧ laidMetH Tryz.prog Rows.planSaysRow.laid w) ∧ sizedMet enc Tryz.prog Tryz.f3 (OpenSpec.ofChange Rows.planSaysSpec) false w args)
      (Rows.planSaysSpec.post enc Tryz.prog Tryz.f3 false true false false) := by
  refine handed_both (C := Tryz.checked) (X := fun w _ => laidMetH Tryz.prog Rows.planSaysRow.laid w) (fun _ _ _ hh h => h.of_heap hh) ownPlanSays started (by kernel_rfl) Tryz.func3
    (ChangeSpec.witness_shaped (enc := enc) (C := Tryz.checked) (os := os) (X := fun w _ => laidMetH Tryz.prog Rows.planSaysRow.laid w) false (World.laidAll Tryz.prog os Rows.planSaysRow.laid) #[.slice none 0 0, .slice none 0 0, .slice none 0 0] 8 (World.laidAll_os _ _ _) (World.shaped_of_ZipB (by kernel_rfl) (by kernel_rfl)) (by kernel_rfl) (by kernel_rfl) (by kernel_rfl) (planSays_met os)) ?_
  intro W base args ds gs before hval0 hW hL hsh
  have hval : ∀ (j : Nat) t v, Tryz.f3.params[j]? = some t → args[j]? = some v → Value.okWide Tryz.prog W .any base t v := hval0
  have hW' := hW
  obtain ⟨p, q, hA0, hV, rfl, hfz, hnd⟩ := hW
  have hA : DataW.TrodAll enc Tryz.prog W 0 (fun _ => true) true Tryz.f3.params.toList args.toList ds p := hA0
  rw [Tryz.params3] at hA hval
  obtain ⟨v0, v1, v2, d0, d1, d2, p0, p1, p2, rfl, rfl, rfl, h0, h1, h2⟩ := trodAll_three hA
  obtain ⟨rfl, rfl⟩ := trodVars_none hV
  obtain ⟨A0, c0, hs0, x0, rfl, hR0, hr0, hx0⟩ := open_rdF Zl Tryz.underlying22 (by kernel_rfl) el64_openPlanSays (hval 0 22 v0 rfl rfl) h0
  obtain ⟨A1, c1, x1, rfl, hR1, hx1⟩ := open_rdK enc67_ok Tryz.underlying23 (by kernel_rfl) el67_openPlanSays (hval 1 23 v1 rfl rfl) h1
  obtain ⟨A2, c2, x2, rfl, hR2, hx2⟩ := open_rdi Tryz.underlying24 Tryz.underlying3 (by kernel_rfl) (hval 2 24 v2 rfl rfl) h2
  have hG : GOK [4, 6, 9, 10, 11, 16, 100, 101] W := gok_of_laid hL (by kernel_rfl) (by kernel_rfl) (fun _ => maxLenCell hsh) (fun _ => tab_of_laid (g := 7) hL (by kernel_rfl) (by kernel_rfl) (by kernel_rfl) Tryz.underlying230 Tryz.underlying127 (by kernel_rfl) (by kernel_rfl) (List.mem_of_getElem? (i := 2) (by kernel_rfl)))
  have hF := W_smithylaw26_PlanSays hG (by decide) (by decide) (by decide) (by decide) (by decide) (by decide) (by decide) (by decide) hR0 rfl hr0 hR1 rfl hR2 rfl (show jw x0 x1 x2 (fun b => b = true) from says_pl3 hx0 hx1 hx2 rfl)
  refine (hF.2 W (Eqv.refl W)).mono fun e W' ⟨r, w0, he, hE', hg, b, hv, hb⟩ => ?_
  subst hb
  subst hv
  exact ⟨_, he, post_true laidOutPlanSays (by kernel_rfl) hW' rfl rfl rfl rfl rfl Tryz.underlying4 (qQ hg hE')⟩
theorem planSays_said : Rows.PlanSaysSaid :=
  OpenClaim.holds_of_wide 3 Tryz.f3 rfl rfl rfl rfl rfl rfl rfl ⟨rfl, rfl, rfl, rfl, rfl⟩ rfl rfl rfl rfl rfl (by kernel_rfl) Tryz.func3 (by kernel_rfl)
    (of_decide_eq_true (by kernel_rfl)) (by unfold Func.isWrapper; first | (rw [if_pos (by decide +kernel)]; kernel_rfl) | (rw [if_neg (by decide +kernel)]; exact ⟨rfl, rfl⟩))
    (fun os started H enc _ => planSays_lifted os started H enc)
theorem planSays_plain (f : FuncId) (fn : Func) (hf : Tryz.pinned.checked.prog.funcNamed "smithy/smithylaw26.PlanSays" = some f) (hfn : Tryz.pinned.checked.prog.funcs[f]? = some fn) :
    false = Tryz.pinned.checked.prog.looks [] ∧ ∀ (j : Nat) t, fn.params[j]? = some t → Tryz.pinned.checked.prog.wantsStandIn t = false := by
  obtain rfl : f = 3 := Option.some.inj ((show Tryz.prog.funcNamed "smithy/smithylaw26.PlanSays" = some 3 by kernel_rfl).symm.trans hf) |>.symm
  obtain rfl : fn = Tryz.f3 := (Option.some.inj (Tryz.func3.symm.trans hfn)).symm
  refine ⟨by kernel_rfl, fun j t ht => ?_⟩
  rw [Tryz.params3] at ht
  have hm := Array.mem_of_getElem? ht
  have hall : (#[22, 23, 24] : Array TypeId).all (fun t => Tryz.prog.wantsStandIn t == false) = true := by kernel_rfl
  have := Array.all_eq_true_iff_forall_mem.mp hall t hm
  rw [beq_iff_eq] at this
  exact this
theorem planSays_card : Rows.PlanSaysCardSaid :=
  Claim7.holds_tied_plain_at .later [] _ _ _ _ planSays_said (fun _ h => by cases h) (by kernel_rfl) (fun _ h => by cases h) planSays_row_tie rfl ⟨rfl, rfl⟩ (by kernel_rfl) rfl planSays_plain (by kernel_rfl)
end Go.Proofs.YtjobklaengaamaaGreatDoor

 