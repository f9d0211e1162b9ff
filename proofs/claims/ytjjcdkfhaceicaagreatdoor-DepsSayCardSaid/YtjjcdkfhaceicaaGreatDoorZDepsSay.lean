/- DepsSay holds of the given program: any sets over one another: which may be, what they have, in their order, how many they are, is what the chapter says. Conditions: those of the card alone. -/
import Derived.Test.YtjjcdkfhaceicaaGreatDoorJ6
import Derived.Test.YtjjcdkfhaceicaaGreatDoorCards
import Derived.Test.YtjjcdkfhaceicaaGreatDoorTie
import Derived.Lay
import Derived.ChangeMaps5
namespace Go.Proofs.YtjjcdkfhaceicaaGreatDoor
open Go Go.RowKit Go.WideShapes Go.ChangeShapes Go.ChangeAt
theorem ownDepsSay : ownKnob Tryz.prog.godebug = none := by kernel_rfl
theorem laidOutDepsSay : laidOutB Tryz.prog = true := by kernel_rfl
set_option maxHeartbeats 1000000 in
theorem el30_openDepsSay {HH : Type} {enc : TypeId × Value → HH} {W : World} (n : Nat) (cs : List Value) (y : DataW HH × List MemPlace) (h : DataW.trod enc Tryz.prog W 0 (fun _ => true) true n 30 cs = some y) (hl : cs.length = 3) : ∃ (h : Int × Hdr × Hdr) (x : Int × List Int × List Int), cs = encH30 h ∧ de30.rel W h x ∧ ((In .i64 (x.1)) ∧ ((x.2.1).length ≤ maxLen ∧ ∀ s ∈ (x.2.1), In .i64 s) ∧ ((x.2.2).length ≤ maxLen ∧ ∀ s ∈ (x.2.2), In .i64 s)) := by
  obtain ⟨m, hfl⟩ := fieldsOne Tryz.underlying30 (by kernel_rfl) h
  match cs, hl with
  | [v0, v1, v2], _ =>
    obtain ⟨u0, y0, e0, t0⟩ := hfl 0 _ rfl (by simp)
    obtain ⟨z0, c0, _, w0⟩ := DataW.trod_int Tryz.underlying3 t0
    simp only [List.cons.injEq, and_true] at c0
    subst c0
    simp only [List.getElem?_cons_zero, Option.some.injEq] at e0
    subst e0
    obtain ⟨u1, y1, e1, t1⟩ := hfl 1 _ rfl (by simp)
    obtain ⟨A1, k1, z1, c1, r1, w1⟩ := open_rdi1 Tryz.underlying28 Tryz.underlying3 (by kernel_rfl) t1
    subst c1
    simp only [List.getElem?_cons_zero, List.getElem?_cons_succ, Option.some.injEq] at e1
    subst e1
    obtain ⟨u2, y2, e2, t2⟩ := hfl 2 _ rfl (by simp)
    obtain ⟨A2, k2, z2, c2, r2, w2⟩ := open_rdi1 Tryz.underlying28 Tryz.underlying3 (by kernel_rfl) t2
    subst c2
    simp only [List.getElem?_cons_zero, List.getElem?_cons_succ, Option.some.injEq] at e2
    subst e2
    exact ⟨(z0, ⟨A1, z1.length, k1⟩, ⟨A2, z2.length, k2⟩), (z0, z1, z2), rfl, ⟨rfl, ⟨rfl, r1⟩, ⟨rfl, r2⟩⟩, ⟨(by simpa [Lit.wf, In, IntKind.min, IntKind.max, IntKind.signed, IntKind.bits] using w0), ⟨Nat.le_trans r1.cap r1.max, fun s hs => by simpa [Lit.wf, In, IntKind.min, IntKind.max, IntKind.signed, IntKind.bits] using w1 s hs⟩, ⟨Nat.le_trans r2.cap r2.max, fun s hs => by simpa [Lit.wf, In, IntKind.min, IntKind.max, IntKind.signed, IntKind.bits] using w2 s hs⟩⟩⟩
theorem depsSay_met (os : Os) : laidMetH Tryz.prog Rows.depsSayRow.laid ((World.doorLaid Tryz.prog 347 os).forCall (fun _ _ => 0) ⟨#[], #[.slice none 0 0], []⟩).memory :=
  laidMetH_of_parts3 (fuel := 8) (laidMet_of_run' 8 (by kernel_rfl) (by kernel_rfl)) (by kernel_rfl) (by kernel_rfl)
set_option maxRecDepth 100000 in
theorem depsSay_lifted (os : Os) (started : os.Started) (H : Type) (enc : TypeId × Value → H) :
    ReturnsInHanded {} Tryz.checked os 3 .any (fun w args => (Rows.depsSaySpec.pre enc Tryz.prog Tryz.f3 [] false w args ∧ laidMetH Tryz.prog Rows.depsSayRow.laid w) ∧ sizedMet enc Tryz.prog Tryz.f3 (OpenSpec.ofChange Rows.depsSaySpec) false w args)
      (Rows.depsSaySpec.post enc Tryz.prog Tryz.f3 false true false false) := by
  refine returnsInHanded_of_change_and (C := Tryz.checked) (X := fun w _ => laidMetH Tryz.prog Rows.depsSayRow.laid w) (fun _ _ _ hh h => h.of_heap hh) ownDepsSay started (by kernel_rfl) Tryz.func3
    (ChangeSpec.witness_shaped (enc := enc) (C := Tryz.checked) (os := os) (X := fun w _ => laidMetH Tryz.prog Rows.depsSayRow.laid w) false (World.doorLaid Tryz.prog 347 os) #[.slice none 0 0] 8 rfl (World.shaped_of_RefB (by kernel_rfl) (by kernel_rfl)) (by kernel_rfl) (by kernel_rfl) (by kernel_rfl) (depsSay_met os)) ?_
  intro W base args ds gs before hval0 hW _ _ hL _
  have hval : ∀ (j : Nat) t v, Tryz.f3.params[j]? = some t → args[j]? = some v → Value.okWide Tryz.prog W .any base t v := hval0
  have hW' := hW
  obtain ⟨p, q, hA0, hV, rfl, hfz, hnd⟩ := hW
  have hA : DataW.TrodAll enc Tryz.prog W 0 (fun _ => true) true Tryz.f3.params.toList args.toList ds p := hA0
  rw [Tryz.params3] at hA hval
  obtain ⟨v0, d0, rfl, rfl, h0⟩ := trodAll_one hA
  obtain ⟨rfl, rfl⟩ := trodVars_none hV
  obtain ⟨A0, c0, hs0, x0, rfl, hR0, hr0, hx0⟩ := open_rdF encH30_ok Tryz.underlying22 (by kernel_rfl) el30_openDepsSay (hval 0 22 v0 rfl rfl) h0
  have hG : GOK [0, 1, 2, 3, 4, 5, 6, 7, 8, 9, 10, 11, 12, 13, 14, 15, 16] W := gok_of_laid hL (by kernel_rfl) (by kernel_rfl) (fun h => absurd h (by decide)) (fun h => absurd h (by decide))
  have hF := W_smithylaw13_DepsSay hG (by decide) (by decide) (by decide) (by decide) (by decide) (by decide) (by decide) (by decide) (by decide) (by decide) (by decide) (by decide) (by decide) (by decide) (by decide) (by decide) (by decide) hR0 rfl hr0 (show zZ x0 (fun b => b = true) from says_dk hx0 rfl)
  refine (hF.2 W (Eqv.refl W)).mono fun e W' ⟨r, w0, he, hE', hg, b, hv, hb⟩ => ?_
  subst hb
  subst hv
  exact ⟨_, he, post_true laidOutDepsSay (by kernel_rfl) hW' rfl rfl rfl rfl rfl Tryz.underlying4 (zq hg hE')⟩
theorem depsSay_said : Rows.DepsSaySaid :=
  OpenClaim.holds_of_wide 3 Tryz.f3 rfl rfl rfl rfl rfl rfl rfl ⟨rfl, rfl, rfl, rfl, rfl⟩ rfl rfl rfl rfl rfl (by kernel_rfl) Tryz.func3 (by kernel_rfl)
    (of_decide_eq_true (by kernel_rfl)) (by unfold Func.isWrapper; first | (rw [if_pos (by decide +kernel)]; kernel_rfl) | (rw [if_neg (by decide +kernel)]; exact ⟨rfl, rfl⟩))
    (fun os started H enc _ => depsSay_lifted os started H enc)
theorem depsSay_plain (f : FuncId) (fn : Func) (hf : Tryz.pinned.checked.prog.funcNamed "smithy/smithylaw13.DepsSay" = some f) (hfn : Tryz.pinned.checked.prog.funcs[f]? = some fn) :
    true = Tryz.pinned.checked.prog.looks [] ∧ ∀ (j : Nat) t, fn.params[j]? = some t → Tryz.pinned.checked.prog.wantsStandIn t = false := by
  obtain rfl : f = 3 := Option.some.inj ((show Tryz.prog.funcNamed "smithy/smithylaw13.DepsSay" = some 3 by kernel_rfl).symm.trans hf) |>.symm
  obtain rfl : fn = Tryz.f3 := (Option.some.inj (Tryz.func3.symm.trans hfn)).symm
  refine ⟨by kernel_rfl, fun j t ht => ?_⟩
  rw [Tryz.params3] at ht
  have hm := Array.mem_of_getElem? ht
  have hall : (#[22] : Array TypeId).all (fun t => Tryz.prog.wantsStandIn t == false) = true := by kernel_rfl
  have := Array.all_eq_true_iff_forall_mem.mp hall t hm
  rw [beq_iff_eq] at this
  exact this
theorem depsSay_card : Rows.DepsSayCardSaid :=
  Claim7.holds_tied_plain_at .later [] _ _ _ _ depsSay_said (fun _ h => by cases h) (by kernel_rfl) (fun _ h => by cases h) depsSay_row_tie rfl ⟨rfl, rfl⟩ (by kernel_rfl) rfl depsSay_plain (by kernel_rfl)
end Go.Proofs.YtjjcdkfhaceicaaGreatDoor

 