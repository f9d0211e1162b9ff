/- GraphOrder: in the order each action stands behind all that it hangs on; what is needed for one needs no more; turned round it is the same graph, as a set. -/
import Derived.Test.YtlonpmajnglmoaaGreatDoorJ5
import Derived.Test.YtlonpmajnglmoaaGreatDoorCards
import Derived.Test.YtlonpmajnglmoaaGreatDoorTie
import Derived.Lay
import Derived.ChangeMaps5
namespace Go.Proofs.YtlonpmajnglmoaaGreatDoor
open Go Go.RowKit Go.WideShapes Go.ChangeShapes Go.ChangeAt
theorem ownGraphOrder : ownKnob Tryz.prog.godebug = none := by kernel_rfl
theorem laidOutGraphOrder : laidOutB Tryz.prog = true := by kernel_rfl
set_option maxHeartbeats 1000000 in
theorem el94_openGraphOrder {HH : Type} {enc : TypeId × Value → HH} {W : World} (n : Nat) (cs : List Value) (y : DataW HH × List MemPlace) (h : DataW.trod enc Tryz.prog W 0 (fun _ => true) true n 94 cs = some y) (hl : cs.length = 4) : ∃ (h : Int × Hdr × Hdr × List UInt8) (x : Int × List (List UInt8) × List (List UInt8) × List UInt8), cs = encH94 h ∧ de94.rel W h x ∧ ((In .i64 (x.1)) ∧ ((x.2.1).length ≤ maxLen ∧ ∀ s ∈ (x.2.1), s.length ≤ maxLen) ∧ ((x.2.2.1).length ≤ maxLen ∧ ∀ s ∈ (x.2.2.1), s.length ≤ maxLen) ∧ ((x.2.2.2).length ≤ maxLen)) := by
  obtain ⟨m, hfl⟩ := fieldsOne Tryz.underlying94 (by kernel_rfl) h
  match cs, hl with
  | [v0, v1, v2, v3], _ =>
    obtain ⟨u0, y0, e0, t0⟩ := hfl 0 _ rfl (by simp)
    obtain ⟨z0, c0, _, w0⟩ := DataW.trod_int Tryz.underlying3 t0
    simp only [List.cons.injEq, and_true] at c0
    subst c0
    simp only [List.getElem?_cons_zero, Option.some.injEq] at e0
    subst e0
    obtain ⟨u1, y1, e1, t1⟩ := hfl 1 _ rfl (by simp)
    obtain ⟨A1, k1, z1, c1, r1, w1⟩ := open_rds1 Tryz.underlying78 Tryz.underlying9 (by kernel_rfl) t1
    subst c1
    simp only [List.getElem?_cons_zero, List.getElem?_cons_succ, Option.some.injEq] at e1
    subst e1
    obtain ⟨u2, y2, e2, t2⟩ := hfl 2 _ rfl (by simp)
    obtain ⟨A2, k2, z2, c2, r2, w2⟩ := open_rds1 Tryz.underlying78 Tryz.underlying9 (by kernel_rfl) t2
    subst c2
    simp only [List.getElem?_cons_zero, List.getElem?_cons_succ, Option.some.injEq] at e2
    subst e2
    obtain ⟨u3, y3, e3, t3⟩ := hfl 3 _ rfl (by simp)
    obtain ⟨⟨⟨z3⟩⟩, c3, _, w3⟩ := DataW.trod_string Tryz.underlying9 t3
    simp only [List.cons.injEq, and_true] at c3
    subst c3
    simp only [List.getElem?_cons_zero, List.getElem?_cons_succ, Option.some.injEq] at e3
    subst e3
    exact ⟨(z0, ⟨A1, z1.length, k1⟩, ⟨A2, z2.length, k2⟩, z3), (z0, z1, z2, z3), rfl, ⟨rfl, ⟨rfl, r1⟩, ⟨rfl, r2⟩, rfl⟩, ⟨(by simpa [Lit.wf, In, IntKind.min, IntKind.max, IntKind.signed, IntKind.bits] using w0), ⟨Nat.le_trans r1.cap r1.max, w1⟩, ⟨Nat.le_trans r2.cap r2.max, w2⟩, (show z3.length ≤ maxLen from w3)⟩⟩
theorem graphOrder_met (os : Os) : laidMetH Tryz.prog Rows.graphOrderRow.laid ((World.laidAll Tryz.prog os Rows.graphOrderRow.laid).forCall (fun _ _ => 0) ⟨#[], #[.slice none 0 0, .int .i64 0], []⟩).memory := by
  rw [MakeChecks.laidMetH_plain _ _ _ (by kernel_rfl)]
  exact laidMet_laidAll _ (by kernel_rfl) (by kernel_rfl)
set_option maxRecDepth 100000 in
theorem graphOrder_lifted (os : Os) (started : os.Started) (H : Type) (enc : TypeId × Value → H) :
    ReturnsInHanded {} Tryz.checked os 5 .any (fun w args => (Rows.graphOrderSpec.pre enc Tryz.prog Tryz.f5 [] false w args ∧ laidMetH Tryz.prog Rows.graphOrderRow.laid w) ∧ sizedMet enc Tryz.prog Tryz.f5 (OpenSpec.ofChange Rows.graphOrderSpec) false w args)
      (Rows.graphOrderSpec.post enc Tryz.prog Tryz.f5 false true false false) := by
  refine handed_both (C := Tryz.checked) (X := fun w _ => laidMetH Tryz.prog Rows.graphOrderRow.laid w) (fun _ _ _ hh h => h.of_heap hh) ownGraphOrder started (by kernel_rfl) Tryz.func5
    (ChangeSpec.witness_shaped (enc := enc) (C := Tryz.checked) (os := os) (X := fun w _ => laidMetH Tryz.prog Rows.graphOrderRow.laid w) false (World.laidAll Tryz.prog os Rows.graphOrderRow.laid) #[.slice none 0 0, .int .i64 0] 8 (World.laidAll_os _ _ _) (World.shaped_of_ZipB (by kernel_rfl) (by kernel_rfl)) (by kernel_rfl) (by kernel_rfl) (by kernel_rfl) (graphOrder_met os)) ?_
  intro W base args ds gs before hval0 hW hL hsh
  have hval : ∀ (j : Nat) t v, Tryz.f5.params[j]? = some t → args[j]? = some v → Value.okWide Tryz.prog W .any base t v := hval0
  have hW' := hW
  obtain ⟨p, q, hA0, hV, rfl, hfz, hnd⟩ := hW
  have hA : DataW.TrodAll enc Tryz.prog W 0 (fun _ => true) true Tryz.f5.params.toList args.toList ds p := hA0
  rw [Tryz.params5] at hA hval
  obtain ⟨v0, v1, d0, d1, p0, p1, rfl, rfl, rfl, h0, h1⟩ := trodAll_two hA
  obtain ⟨rfl, rfl⟩ := trodVars_none hV
  obtain ⟨A0, c0, hs0, x0, rfl, hR0, hr0, hx0⟩ := open_rdF encH94_ok Tryz.underlying77 (by kernel_rfl) el94_openGraphOrder (hval 0 77 v0 rfl rfl) h0
  obtain ⟨x1, rfl, rfl, rfl, hx1⟩ := open_int Tryz.underlying3 (hval 1 3 v1 rfl rfl) h1
  have hx1 : In .i64 x1 := by simpa [Lit.wf, In, IntKind.min, IntKind.max, IntKind.signed, IntKind.bits] using hx1
  have hG : GOK [4, 6, 9, 10, 11, 100, 101, 102] W := gok_of_laid hL (by kernel_rfl) (by kernel_rfl) (fun _ => maxLenCell hsh) (fun _ => tab_of_laid (g := 18) hL (by kernel_rfl) (by kernel_rfl) (by kernel_rfl) Tryz.underlying309 Tryz.underlying147 (by kernel_rfl) (by kernel_rfl) (List.mem_of_getElem? (i := 2) (by kernel_rfl))) (fun _ => qtab_of_laid hL (by kernel_rfl) (List.mem_of_getElem? (i := 14) (by kernel_rfl)) (List.mem_of_getElem? (i := 3) (by kernel_rfl)) (List.mem_of_getElem? (i := 12) (by kernel_rfl)) (List.mem_of_getElem? (i := 10) (by kernel_rfl)) (List.mem_of_getElem? (i := 13) (by kernel_rfl)) (List.mem_of_getElem? (i := 11) (by kernel_rfl)))
  have hF := W_smithylaw22_GraphOrder hG (by decide) (by decide) (by decide) (by decide) (by decide) (by decide) (by decide) (by decide) hR0 rfl hr0  (show M_smithylaw22_GraphOrder x0 x1 (fun b => b = true) from order_gr2 hx0 hx1 rfl)
  refine (hF.2 W (Eqv.refl W)).mono fun e W' ⟨r, w0, he, hE', hg, b, hv, hb⟩ => ?_
  subst hb
  subst hv
  exact ⟨_, he, post_true laidOutGraphOrder (by kernel_rfl) hW' rfl rfl rfl rfl rfl Tryz.underlying4 (gr_eqv hg hE')⟩
theorem graphOrder_said : Rows.GraphOrderSaid :=
  OpenClaim.holds_of_wide 5 Tryz.f5 rfl rfl rfl rfl rfl rfl rfl ⟨rfl, rfl, rfl, rfl, rfl⟩ rfl rfl rfl rfl rfl (by kernel_rfl) Tryz.func5 (by kernel_rfl)
    (of_decide_eq_true (by kernel_rfl)) (by unfold Func.isWrapper; first | (rw [if_pos (by decide +kernel)]; kernel_rfl) | (rw [if_neg (by decide +kernel)]; exact ⟨rfl, rfl⟩))
    (fun os started H enc _ => graphOrder_lifted os started H enc)
theorem graphOrder_plain (f : FuncId) (fn : Func) (hf : Tryz.pinned.checked.prog.funcNamed "smithy/smithylaw22.GraphOrder" = some f) (hfn : Tryz.pinned.checked.prog.funcs[f]? = some fn) :
    true = Tryz.pinned.checked.prog.looks [] ∧ ∀ (j : Nat) t, fn.params[j]? = some t → Tryz.pinned.checked.prog.wantsStandIn t = false := by
  obtain rfl : f = 5 := Option.some.inj ((show Tryz.prog.funcNamed "smithy/smithylaw22.GraphOrder" = some 5 by kernel_rfl).symm.trans hf) |>.symm
  obtain rfl : fn = Tryz.f5 := (Option.some.inj (Tryz.func5.symm.trans hfn)).symm
  refine ⟨by kernel_rfl, fun j t ht => ?_⟩
  rw [Tryz.params5] at ht
  have hm := Array.mem_of_getElem? ht
  have hall : (#[77, 3] : Array TypeId).all (fun t => Tryz.prog.wantsStandIn t == false) = true := by kernel_rfl
  have := Array.all_eq_true_iff_forall_mem.mp hall t hm
  rw [beq_iff_eq] at this
  exact this
theorem graphOrder_card : Rows.GraphOrderCardSaid :=
  Claim7.holds_tied_plain_at .later [] _ _ _ _ graphOrder_said (fun _ h => by cases h) (by kernel_rfl) (fun _ h => by cases h) graphOrder_row_tie rfl ⟨rfl, rfl⟩ (by kernel_rfl) rfl graphOrder_plain (by kernel_rfl)
end Go.Proofs.YtlonpmajnglmoaaGreatDoor

 