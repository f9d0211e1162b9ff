/- GraphSays: any actions: whether they are a graph, and why not, who writes what, what hangs on what, the order, what is needed, is what the chapter says. -/
import Derived.Test.YtlonpmajnglmoaaGreatDoorJ6
import Derived.Test.YtlonpmajnglmoaaGreatDoorCards
import Derived.Test.YtlonpmajnglmoaaGreatDoorTie
import Derived.Lay
import Derived.ChangeMaps5
namespace Go.Proofs.YtlonpmajnglmoaaGreatDoor
open Go Go.RowKit Go.WideShapes Go.ChangeShapes Go.ChangeAt
theorem ownGraphSays : ownKnob Tryz.prog.godebug = none := by kernel_rfl
theorem laidOutGraphSays : laidOutB Tryz.prog = true := by kernel_rfl
set_option maxHeartbeats 1000000 in
theorem el94_openGraphSays {HH : Type} {enc : TypeId × Value → HH} {W : World} (n : Nat) (cs : List Value) (y : DataW HH × List MemPlace) (h : DataW.trod enc Tryz.prog W 0 (fun _ => true) true n 94 cs = some y) (hl : cs.length = 4) : ∃ (h : Int × Hdr × Hdr × List UInt8) (x : Int × List (List UInt8) × List (List UInt8) × List UInt8), cs = encH94 h ∧ de94.rel W h x ∧ ((In .i64 (x.1)) ∧ ((x.2.1).length ≤ maxLen ∧ ∀ s ∈ (x.2.1), s.length ≤ maxLen) ∧ ((x.2.2.1).length ≤ maxLen ∧ ∀ s ∈ (x.2.2.1), s.length ≤ maxLen) ∧ ((x.2.2.2).length ≤ maxLen)) := by
  obtain ⟨m, hfl⟩ := fieldsOne Tryz.underlying94 (by kernel_rfl) h
  match cs, hl with
  | [v0, v1, v2, v3], _ =>
    obtain ⟨u0, y0, e0, t0⟩ := hfl 0 _ rfl (by simp)
    obtain ⟨z0, c0, _, w0⟩ := DataW.trod_int Tryz.underlying3 t0
    simp only [List.cons.injEq, and_true] at c0
    subst c0
    simp only [List.getElem?_cons_zero, List.getElem?_cons_succ, Option.some.injEq] at e0
    subst e0
    obtain ⟨u1, y1, e1, t1⟩ := hfl 1 _ rfl (by simp)
    obtain ⟨A1, k1, z1, c1, r1, w1⟩ := open_rds1 Tryz.underlying78 Tryz.underlying9 (by kernel_rfl) t1
    subst c1
    simp only [List.getElem?_cons_zero, List.getElem?_cons_succ, Option.some.injEq] at e1
    subst e1
    obtain ⟨u2, y2, e2, t2⟩ := hfl 2 _ rfl (by simp)
    obtain ⟨A2, k2, z2, c2, r2, w2⟩ := open_rds1 Tryz.underlying78 Tryz.underlying9 (by kernel_rfl) t2
    subst c2
    simp only [List.getElem?_cons_zero, List.getElem?_cons_succ, Option.some.injEq] at e2
    subst e2
    obtain ⟨u3, y3, e3, t3⟩ := hfl 3 _ rfl (by simp)
    obtain ⟨⟨⟨z3⟩⟩, c3, _, w3⟩ := DataW.trod_string Tryz.underlying9 t3
    simp only [List.cons.injEq, and_true] at c3
    subst c3
    simp only [List.getElem?_cons_zero, List.getElem?_cons_succ, Option.some.injEq] at e3
    subst e3
    exact ⟨(z0, ⟨A1, z1.length, k1⟩, ⟨A2, z2.length, k2⟩, z3), (z0, z1, z2, z3), rfl, ⟨rfl, ⟨rfl, r1⟩, ⟨rfl, r2⟩, rfl⟩, ⟨(by simpa [Lit.wf, In, IntKind.min, IntKind.max, IntKind.signed, IntKind.bits] using w0), ⟨Nat.le_trans r1.cap r1.max, w1⟩, ⟨Nat.le_trans r2.cap r2.max, w2⟩, (show z3.length ≤ maxLen from w3)⟩⟩
theorem graphSays_met (os : Os) : laidMetH Tryz.prog Rows.graphSaysRow.laid ((World.laidAll Tryz.prog os Rows.graphSaysRow.laid).forCall (fun _ _ => 0) ⟨#[], #[.slice none 0 0, .slice none 0 0, .string ⟨⟨[]⟩⟩, .int .i64 0], []⟩).memory := by
  rw [MakeChecks.laidMetH_plain _ _ _ (by kernel_rfl)]
  exact laidMet_laidAll _ (by kernel_rfl) (by kernel_rfl)
set_option maxRecDepth 100000 in
theorem graphSays_lifted (os : Os) (started : os.Started) (H : Type) (enc : TypeId × Value → H) :
    ReturnsInHanded {} Tryz.checked os 4 .any (fun w args => (Rows.graphSaysSpec.pre enc Tryz.prog Tryz.f4 [] false w args ∧ laidMetH Tryz.prog Rows.graphSaysRow.laid w) ∧ sizedMet enc Tryz.prog Tryz.f4 (OpenSpec.ofChange Rows.graphSaysSpec) false w args)
      (Rows.graphSaysSpec.post enc Tryz.prog Tryz.f4 false true false false) := by
  refine handed_both (C := Tryz.checked) (X := fun w _ => laidMetH Tryz.prog Rows.graphSaysRow.laid w) (fun _ _ _ hh h => h.of_heap hh) ownGraphSays started (by kernel_rfl) Tryz.func4
    (ChangeSpec.witness_shaped (enc := enc) (C := Tryz.checked) (os := os) (X := fun w _ => laidMetH Tryz.prog Rows.graphSaysRow.laid w) false (World.laidAll Tryz.prog os Rows.graphSaysRow.laid) #[.slice none 0 0, .slice none 0 0, .string ⟨⟨[]⟩⟩, .int .i64 0] 8 (World.laidAll_os _ _ _) (World.shaped_of_ZipB (by kernel_rfl) (by kernel_rfl)) (by kernel_rfl) (by kernel_rfl) (by kernel_rfl) (graphSays_met os)) ?_
  intro W base args ds gs before hval0 hW hL hsh
  have hval : ∀ (j : Nat) t v, Tryz.f4.params[j]? = some t → args[j]? = some v → Value.okWide Tryz.prog W .any base t v := hval0
  have hW' := hW
  obtain ⟨p, q, hA0, hV, rfl, hfz, hnd⟩ := hW
  have hA : DataW.TrodAll enc Tryz.prog W 0 (fun _ => true) true Tryz.f4.params.toList args.toList ds p := hA0
  rw [Tryz.params4] at hA hval
  obtain ⟨v0, v1, v2, v3, d0, d1, d2, d3, p0, p1, p2, p3, rfl, rfl, rfl, h0, h1, h2, h3⟩ := trodAll_four hA
  obtain ⟨rfl, rfl⟩ := trodVars_none hV
  obtain ⟨A0, c0, hs0, x0, rfl, hR0, hr0, hx0⟩ := open_rdF encH94_ok Tryz.underlying77 (by kernel_rfl) el94_openGraphSays (hval 0 77 v0 rfl rfl) h0
  obtain ⟨A1, c1, x1, rfl, hR1, hx1⟩ := open_rds Tryz.underlying78 Tryz.underlying9 (by kernel_rfl) (hval 1 78 v1 rfl rfl) h1
  obtain ⟨s2, rfl, rfl, rfl, hs2⟩ := ChangeMaps.open_string Tryz.underlying9 (hval 2 9 v2 rfl rfl) h2
  obtain ⟨⟨x2⟩⟩ := s2
  have hs2 : x2.length ≤ maxLen := hs2
  obtain ⟨x3, rfl, rfl, rfl, hx3⟩ := open_int Tryz.underlying3 (hval 3 3 v3 rfl rfl) h3
  have hx3 : In .i64 x3 := by simpa [Lit.wf, In, IntKind.min, IntKind.max, IntKind.signed, IntKind.bits] using hx3
  have hG : GOK [0, 1, 2, 3, 4, 5, 6, 7, 8, 9, 10, 11, 12, 13, 14, 15, 16, 100] W := gok_of_laid hL (by kernel_rfl) (by kernel_rfl) (fun _ => maxLenCell hsh) (fun h => absurd h (by decide))
  have hF := W_smithylaw22_GraphSays hG (by decide) (by decide) (by decide) (by decide) (by decide) (by decide) (by decide) (by decide) (by decide) (by decide) (by decide) (by decide) (by decide) (by decide) (by decide) (by decide) (by decide) (by decide) hR0 rfl hr0 hR1 rfl   (show M_smithylaw22_GraphSays x0 x1 x2 x3 (fun b => b = true) from says_gr4 hx0 hx1 hs2 hx3 rfl)
  refine (hF.2 W (Eqv.refl W)).mono fun e W' ⟨r, w0, he, hE', hg, b, hv, hb⟩ => ?_
  subst hb
  subst hv
  exact ⟨_, he, post_true laidOutGraphSays (by kernel_rfl) hW' rfl rfl rfl rfl rfl Tryz.underlying4 (gr_eqv hg hE')⟩
theorem graphSays_said : Rows.GraphSaysSaid :=
  OpenClaim.holds_of_wide 4 Tryz.f4 rfl rfl rfl rfl rfl rfl rfl ⟨rfl, rfl, rfl, rfl, rfl⟩ rfl rfl rfl rfl rfl (by kernel_rfl) Tryz.func4 (by kernel_rfl)
    (of_decide_eq_true (by kernel_rfl)) (by unfold Func.isWrapper; first | (rw [if_pos (by decide +kernel)]; kernel_rfl) | (rw [if_neg (by decide +kernel)]; exact ⟨rfl, rfl⟩))
    (fun os started H enc _ => graphSays_lifted os started H enc)
theorem graphSays_plain (f : FuncId) (fn : Func) (hf : Tryz.pinned.checked.prog.funcNamed "smithy/smithylaw22.GraphSays" = some f) (hfn : Tryz.pinned.checked.prog.funcs[f]? = some fn) :
    true = Tryz.pinned.checked.prog.looks [] ∧ ∀ (j : Nat) t, fn.params[j]? = some t → Tryz.pinned.checked.prog.wantsStandIn t = false := by
  obtain rfl : f = 4 := Option.some.inj ((show Tryz.prog.funcNamed "smithy/smithylaw22.GraphSays" = some 4 by kernel_rfl).symm.trans hf) |>.symm
  obtain rfl : fn = Tryz.f4 := (Option.some.inj (Tryz.func4.symm.trans hfn)).symm
  refine ⟨by kernel_rfl, fun j t ht => ?_⟩
  rw [Tryz.params4] at ht
  have hm := Array.mem_of_getElem? ht
  have hall : (#[77, 78, 9, 3] : Array TypeId).all (fun t => Tryz.prog.wantsStandIn t == false) = true := by kernel_rfl
  have := Array.all_eq_true_iff_forall_mem.mp hall t hm
  rw [beq_iff_eq] at this
  exact this
theorem graphSays_card : Rows.GraphSaysCardSaid :=
  Claim7.holds_tied_plain_at .later [] _ _ _ _ graphSays_said (fun _ h => by cases h) (by kernel_rfl) (fun _ h => by cases h) graphSays_row_tie rfl ⟨rfl, rfl⟩ (by kernel_rfl) rfl graphSays_plain (by kernel_rfl)
end Go.Proofs.YtlonpmajnglmoaaGreatDoor

 