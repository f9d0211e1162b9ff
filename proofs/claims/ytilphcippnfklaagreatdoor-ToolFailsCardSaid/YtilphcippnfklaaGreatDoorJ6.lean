/- Texts of this claim, joined by a program: GTl, See, ToolF. -/
import Derived.Test.YtilphcippnfklaaGreatDoorJ5
/- Printed by a program (wip/vg): what the functions mean, plainly, and their walks. -/
namespace Go.Proofs.YtilphcippnfklaaGreatDoor
open Go Go.RowKit
attribute [local irreducible] WL WC WX WQ WK WJ Yld Eff Ef0 Fn
def M_smithylaw23_ToolFails (t : Int) (args : List (List UInt8)) (n : Int) (K : Bool → Prop) : Prop :=
 (args.length ≤ maxLen →
 M_smithylaw23_first (fun (ok : Bool) =>
 (((!ok) = true → K false) ∧
 ((!ok) = false → M_smithyworld_Texts args (6 : Int) (20 : Int) (fun (t21 : Bool) =>
 ((((!t21) || (!ok)) = true → K ok) ∧
 (((!t21) || (!ok)) = false → M_tool_Do t args ([([97, 10] : List UInt8)] : List (List UInt8)) (fun (t320 : List UInt8) (t321 : Er) =>
 ∃ J1 : Bool → Prop, (((t = (1 : Int) → J1 (decide ((args.length : Int) ≤ (1 : Int)))) ∧
 (¬ (t = (1 : Int)) → ((t = (2 : Int) → ((decide ((args.length : Int) = (1 : Int))) = false → (decide ((args.length : Int) = (2 : Int))) = true → (0 ≤ (1 : Int) ∧ (1 : Int) < (args.length : Nat))) ∧
 J1 ((decide ((args.length : Int) = (1 : Int))) || ((decide ((args.length : Int) = (2 : Int))) && (decide ((args.getD 1 []) = ([110, 111, 116] : List UInt8)))))) ∧
 (¬ (t = (2 : Int)) → ((t = (3 : Int) → (0 ≤ (args.length : Int) ∧ 0 < (2 : Int)) ∧
 Lp2 (fun (good2 : Bool) (i2 : Int) k_2 => ((i2 < (args.length : Int) → (good2 = true → (0 ≤ i2 ∧ i2 < (args.length : Nat))) ∧
 (In .i64 (i2 + (2 : Int))) ∧
 k_2 (good2 && (!decide ((args.getD i2.toNat []) = ([] : List UInt8)))) (i2 + (2 : Int))) ∧
 (¬ (i2 < (args.length : Int)) → J1 good2))) (decide (((args.length : Int) % (2 : Int)) = (0 : Int))) (0 : Int)) ∧
 (¬ (t = (3 : Int)) → ((t = (4 : Int) → ∃ J3 : Bool → Prop, ((((decide ((args.length : Int) ≤ (2 : Int))) = true → M_smithyref_SortedTexts args (fun (t91 : List (List UInt8)) =>
 J3 (decide ((t91.length : Int) = (args.length : Int))))) ∧
 ((decide ((args.length : Int) ≤ (2 : Int))) = false → J3 false))) ∧
 (∀ q5 : Bool, J3 q5 → Lp2 (fun (good3 : Bool) (i3 : Int) k_3 => ((i3 < (args.length : Int) → (good3 = true → (0 ≤ i3 ∧ i3 < (args.length : Nat))) ∧
 (good3 = true → (decide ((args.getD i3.toNat []) = ([114, 101, 118, 101, 114, 115, 101] : List UInt8))) = false → (0 ≤ i3 ∧ i3 < (args.length : Nat))) ∧
 (In .i64 (i3 + (1 : Int))) ∧
 k_3 (good3 && ((decide ((args.getD i3.toNat []) = ([114, 101, 118, 101, 114, 115, 101] : List UInt8))) || (decide ((args.getD i3.toNat []) = ([117, 110, 105, 113, 117, 101] : List UInt8))))) (i3 + (1 : Int))) ∧
 (¬ (i3 < (args.length : Int)) → J1 good3))) q5 (0 : Int))) ∧
 (¬ (t = (4 : Int)) → ((t = (5 : Int) → J1 (decide ((args.length : Int) = (0 : Int)))) ∧
 (¬ (t = (5 : Int)) → M_smithysee_Is t321 (111 : Int) (fun (t37 : Bool) =>
 ∃ J4 : Bool → Prop, (((t37 = true → M_tool_Name t (fun (t40 : List UInt8) =>
 J4 (decide (t40 = ([] : List UInt8))))) ∧
 (t37 = false → J4 false))) ∧
 (∀ q7 : Bool, J4 q7 → K q7))))))))))))) ∧
 (∀ good : Bool, J1 good → ∃ J2 : Bool → Prop, ((((!((decide (t321 = Er.ok)) == good)) = true → J2 true) ∧
 ((!((decide (t321 = Er.ok)) == good)) = false → (((!good) = true → M_smithysee_Is t321 (117 : Int) (fun (t132 : Bool) =>
 J2 (!t132))) ∧
 ((!good) = false → J2 false))))) ∧
 (∀ q2 : Bool, J2 q2 → ((q2 = true → K false) ∧
 (q2 = false → (0 ≤ (32768 : Int) ∧ (32768 : Int) * 1 ≤ 140737488355328 ∧ (32768 : Int) ≤ 140737488355328) ∧
 Lp2 (fun (i : Int) (half : List UInt8) k_1 => 32768 = half.length → ((i < (32768 : Int) → (0 ≤ i ∧ i < (32768 : Nat)) ∧
 (In .i64 (i + (1 : Int))) ∧
 k_1 (i + (1 : Int)) (half.set i.toNat 122)) ∧
 (¬ (i < (32768 : Int)) → M_smithyworld_Number n (3 : Int) (fun (n2 : Int) =>
 (0 ≤ n2 ∧ n2 ≤ ([97, 98, 99] : List UInt8).length) ∧
 M_tool_Do (1 : Int) [] ([half, half, ([97, 98, 99] : List UInt8).take n2.toNat] : List (List UInt8)) (fun (t1560 : List UInt8) (t1561 : Er) =>
 K ((decide (t1561 = Er.ok)) == (decide (n2 = (0 : Int))))))))) (0 : Int) (List.replicate 32768 0)))))))))))))

def M_smithylaw23_ToolSays (t : Int) (args : List (List UInt8)) (inputs : List (List UInt8)) (s : List UInt8) (K : Bool → Prop) : Prop :=
 (args.length ≤ maxLen →
 (inputs.length ≤ maxLen →
 M_smithylaw23_first (fun (ok : Bool) =>
 (((!ok) = true → K false) ∧
 ((!ok) = false → M_smithyworld_Texts args (8 : Int) (100 : Int) (fun (t21 : Bool) =>
 ∃ J1 : Bool → Prop, ((((!t21) = true → J1 true) ∧
 ((!t21) = false → M_smithyworld_Texts inputs (8 : Int) (500 : Int) (fun (t25 : Bool) =>
 J1 (!t25))))) ∧
 (∀ q1 : Bool, J1 q1 → ((((q1 || (decide ((500 : Int) < (s.length : Int)))) || (!ok)) = true → K ok) ∧
 (((q1 || (decide ((500 : Int) < (s.length : Int)))) || (!ok)) = false → M_tool_Do t args inputs (fun (t420 : List UInt8) (t421 : Er) =>
 M_smithyref17_Do t args inputs (fun (t490 : List UInt8) (t491 : Int) =>
 ∃ J2 : (List UInt8) → Prop, (((((decide ((1 : Int) ≤ t)) && (decide (t ≤ (5 : Int)))) = true → (0 ≤ t ∧ t < (6 : Nat)) ∧
 J2 (([([] : List UInt8), ([99, 111, 110, 99, 97, 116] : List UInt8), ([102, 105, 108, 116, 101, 114] : List UInt8), ([115, 117, 98, 115, 116, 105, 116, 117, 116, 101] : List UInt8), ([115, 111, 114, 116] : List UInt8), ([100, 105, 103, 101, 115, 116] : List UInt8)] : List (List UInt8)).getD t.toNat [])) ∧
 (((decide ((1 : Int) ≤ t)) && (decide (t ≤ (5 : Int)))) = false → J2 ([] : List UInt8)))) ∧
 (∀ name : List UInt8, J2 name → M_smithyref_AmongTexts ([([] : List UInt8), ([99, 111, 110, 99, 97, 116] : List UInt8), ([102, 105, 108, 116, 101, 114] : List UInt8), ([115, 117, 98, 115, 116, 105, 116, 117, 116, 101] : List UInt8), ([115, 111, 114, 116] : List UInt8), ([100, 105, 103, 101, 115, 116] : List UInt8)] : List (List UInt8)) s (fun (at_ : Int) =>
 ∃ J3 : Bool → Prop, ((((decide (t420 = t490)) = true → M_smithysee_Is t421 t491 (fun (t72 : Bool) =>
 J3 t72)) ∧
 ((decide (t420 = t490)) = false → J3 false))) ∧
 (∀ q4 : Bool, J3 q4 → ∃ J4 : Bool → Prop, (((q4 = true → M_tool_Name t (fun (t76 : List UInt8) =>
 J4 (decide (t76 = name)))) ∧
 (q4 = false → J4 false))) ∧
 (∀ q5 : Bool, J4 q5 → ∃ J5 : Bool → Prop, (((q5 = true → M_tool_Tool s (fun (t82 : Int) =>
 J5 (decide (t82 = (if at_ < (0 : Int) then (0 : Int) else at_))))) ∧
 (q5 = false → J5 false))) ∧
 (∀ q6 : Bool, J5 q6 → ∃ J6 : Bool → Prop, (((q6 = true → M_tool_Lines s (fun (t89 : List (List UInt8)) =>
 M_smithyref17_Lines s (fun (t91 : List (List UInt8)) =>
 M_smithyref_SameTexts t89 t91 (fun (t92 : Bool) =>
 J6 t92)))) ∧
 (q6 = false → J6 false))) ∧
 (∀ q7 : Bool, J6 q7 → K q7)))))))))))))))))

set_option maxHeartbeats 8000000 in
theorem W_smithylaw23_ToolFails {S : List Nat} {w : World} {t : Int} {args : List (List UInt8)} {A_args : Option Addr} {c_args : Nat} {n : Int} {n_args : Nat} {K : Bool → Prop} (hG : GOK S w) (hS0 : 0 ∈ S) (hS1 : 1 ∈ S) (hS2 : 2 ∈ S) (hS3 : 3 ∈ S) (hS4 : 4 ∈ S) (hS5 : 5 ∈ S) (hS6 : 6 ∈ S) (hS7 : 7 ∈ S) (hS8 : 8 ∈ S) (hS9 : 9 ∈ S) (hS10 : 10 ∈ S) (hS11 : 11 ∈ S) (hS12 : 12 ∈ S) (hS13 : 13 ∈ S) (hS14 : 14 ∈ S) (hS15 : 15 ∈ S) (hS16 : 16 ∈ S) (hS100 : 100 ∈ S) (hargs : Rd vs w A_args c_args args) (hn_args : n_args = args.length) (H : M_smithylaw23_ToolFails t args n K) : Fn Tryz.prog 3 ⟨[.int .i64 t, .slice A_args n_args c_args, .int .i64 n]⟩ w (fun v w' => w.grownBy w' none ∧ ∃ (r : Bool), v = .bool r ∧ K r) := by
  subst hn_args
  unfold M_smithylaw23_ToolFails at H
  refine Fn.enter (by kernel_rfl) Tryz.func3 rfl Tryz.ntmps3 rfl ?_
  replace H := H (Nat.le_trans hargs.cap hargs.max)
  refine WC.seq ?_
  refine WC.region ?_
  refine WL.y rfl (Yld.pure tab_ok rfl) ?_
  refine WL.nil (WX.then_normal ?_)
  refine WC.seq ?_
  refine WC.region ?_
  refine WL.call rfl rfl (W_smithylaw23_first hG hS10 hS16 hS100 H) ?_
  rintro _ w1 ⟨hg1, ok, rfl, H⟩
  have gr1 := hg1
  refine WL.y rfl (Yld.pure tab_ok rfl) ?_
  refine WL.nil (WX.then_normal ?_)
  refine WC.seq ?_
  refine WC.seq ?_
  refine WC.region ?_
  refine WL.y rfl (Yld.pure tab_ok rfl) ?_
  refine WL.y rfl (Yld.pure tab_ok rfl) ?_
  refine WL.nil (WX.then_normal ?_)
  refine WC.cond rfl (fun b1 => ?_) (fun b1 => ?_)
  · replace H := H.1 (b1)
    refine WC.seq ?_
    refine WC.region ?_
    refine WL.y rfl (Yld.pure tab_ok rfl) ?_
    refine WL.nil (WX.then_normal ?_)
    refine WC.ret (WX.then_ret ?_)
    exact WX.ret1 rfl rfl ⟨gr1, false, rfl, H⟩
  · replace H := H.2 (b1)
    refine WC.skip (WX.then_normal ?_)
    refine WC.seq ?_
    refine WC.seq ?_
    refine WC.region ?_
    refine WL.y rfl (Yld.pure tab_ok rfl) ?_
    refine WL.call rfl rfl (W_smithyworld_Texts (hargs.grown gr1) rfl H) ?_
    rintro _ _ ⟨rfl, t21, rfl, H⟩
    refine WL.y rfl (Yld.pure tab_ok rfl) ?_
    refine WL.y rfl (Yld.pure tab_ok rfl) ?_
    refine WL.midF 3 (fun L' w' => ∃ q1 : Bool, L' = [(26, .bool q1), (0, .int .i64 t), (1, .slice A_args args.length c_args), (2, .int .i64 n), (7, .bool ok)] ∧ q1 = ((!t21) || (!ok)) ∧ w1 = w') ?_ (fun hQ => ?_)
    · rintro _ _ ⟨q1, rfl, rfl, rfl⟩
      refine WL.nil (WX.then_normal ?_)
      refine WC.cond rfl (fun b2 => ?_) (fun b2 => ?_)
      · replace H := H.1 (b2)
        refine WC.seq ?_
        refine WC.region ?_
        refine WL.y rfl (Yld.pure tab_ok rfl) ?_
        refine WL.y rfl (Yld.pure tab_ok rfl) ?_
        refine WL.nil (WX.then_normal ?_)
        refine WC.ret (WX.then_ret ?_)
        exact WX.ret1 rfl rfl ⟨gr1, ok, rfl, H⟩
      · replace H := H.2 (b2)
        refine WC.skip (WX.then_normal ?_)
        refine WC.seq ?_
        refine WC.region ?_
        refine WL.y rfl (Yld.pure tab_ok rfl) ?_
        refine WL.y rfl (Yld.pure tab_ok rfl) ?_
        refine WL.lit tab_ok rfl rfl rfl (all1c rfl all1n) rfl (by omega) (fun g1 w2 hB1 hg2 hl1 => ?_)
        have hO1 : Own vs w2 w.heap.size 9 (some ⟨g1, 0, none⟩) 1 ([([97, 10] : List UInt8)] : List (List UInt8)) := Own.ofBl hB1 (Nat.le_trans (size_le gr1) hl1) (by simp [maxLen]) rfl
        have gr2 := gr_trans gr1 hg2
        refine WL.call rfl rfl (W_tool_Do (hG.grown gr2) hS10 hS16 hS100 (hargs.grown gr2) rfl hO1.rd rfl H) ?_
        rintro _ w3 ⟨hg3, t320, v_t321, t321, rfl, ht321, H⟩
        have gr3 := gr_trans gr2 hg3
        refine WL.y rfl (Yld.pure tab_ok rfl) ?_
        refine WL.y rfl (Yld.pure tab_ok rfl) ?_
        refine WL.y rfl (Yld.pure tab_ok rfl) ?_
        refine WL.y rfl (Yld.pure tab_ok rfl) ?_
        refine WL.y rfl (Yld.pure tab_ok rfl) ?_
        refine WL.nil (WX.then_normal ?_)
        refine WC.seq ?_
        refine WC.region ?_
        refine WL.y rfl (Yld.pure tab_ok rfl) ?_
        refine WL.nil (WX.then_normal ?_)
        refine WC.seq ?_
        obtain ⟨J1, H, hJ1⟩ := H
        refine WC.midF (fun L' w' => ∃ (good : Bool), L' = [(2, .int .i64 n), (9, v_t321), (10, .bool good)] ∧ J1 good ∧ w.grownBy w' none ∧ ErrR S w' v_t321 t321) ?_ (fun hQ => ?_)
        · clear H
          rintro _ w4 ⟨good, rfl, H, gr4, k1⟩
          replace H := hJ1 good H
          refine WX.then_normal ?_
          refine WC.seq ?_
          refine WC.seq ?_
          refine WC.region ?_
          refine WL.y rfl (Yld.pure tab_ok rfl) ?_
          refine WL.y rfl (Yld.erreql Tryz.underlying26 k1 rfl) ?_
          refine WL.y rfl (Yld.pure tab_ok rfl) ?_
          refine WL.y rfl (Yld.bneq Tryz.underlying4 rfl rfl) ?_
          refine WL.y rfl (Yld.pure tab_ok rfl) ?_
          obtain ⟨J2, H, hJ2⟩ := H
          refine WL.midF 8 (fun L' w' => ∃ q2 : Bool, L' = [(135, .bool q2), (2, .int .i64 n)] ∧ J2 q2 ∧ w.grownBy w' none) ?_ (fun hQ => ?_)
          · clear H
            rintro _ w5 ⟨q2, rfl, H, gr5⟩
            replace H := hJ2 q2 H
            refine WL.nil (WX.then_normal ?_)
            refine WC.cond rfl (fun b3 => ?_) (fun b3 => ?_)
            · replace H := H.1 (b3)
              refine WC.seq ?_
              refine WC.region ?_
              refine WL.y rfl (Yld.pure tab_ok rfl) ?_
              refine WL.nil (WX.then_normal ?_)
              refine WC.ret (WX.then_ret ?_)
              exact WX.ret1 rfl rfl ⟨gr5, false, rfl, H⟩
            · replace H := H.2 (b3)
              refine WC.skip (WX.then_normal ?_)
              refine WC.seq ?_
              refine WC.region ?_
              obtain ⟨h1, H⟩ := H
              refine WL.makeZI (f := vb) (z := 0) (B := w.heap.size) tab_ok rfl rfl zero5 rfl rfl h1.1 h1.2.1 h1.2.2 (size_le gr5) (fun g2 w6 hO2 hg4 hl2 => ?_)
              have gr6 := gr_trans gr5 hg4
              refine WL.y rfl (Yld.pure tab_ok rfl) ?_
              refine WL.nil (WX.then_normal ?_)
              refine WC.seq ?_
              refine WC.seq ?_
              refine WC.region ?_
              refine WL.y rfl (Yld.pure tab_ok rfl) ?_
              refine WL.nil (WX.then_normal ?_)
              refine WC.block ?_
              obtain ⟨I1, mu1, h0_1, HR1⟩ := H
              refine WC.loopF (fun n' L' w' => ∃ (i : Int), ∃ (half : List UInt8), n' = mu1 i half ∧ L' = [(2, .int .i64 n), (13, .slice (some ⟨g2, 0, none⟩) 32768 32768), (14, .int .i64 i)] ∧ I1 i half ∧ 32768 = half.length ∧ w.grownBy w' none ∧ Own vb w' w.heap.size 5 (some ⟨g2, 0, none⟩) 32768 half) _ _ ⟨(0 : Int), (List.replicate 32768 0), rfl, rfl, h0_1, (List.length_replicate).symm, gr6, hO2⟩ (by repeat (first | exact Sub.nil | refine Sub.cons rfl ?_)) ?_
              clear h0_1
              rintro _ _ w7 ⟨i, half, rfl, rfl, hI1, hn_half, gr7, k2⟩
              have H := HR1 i half hI1
              replace H := H hn_half
              refine WC.seq ?_
              refine WC.seq ?_
              refine WC.region ?_
              refine WL.y rfl (Yld.pure tab_ok rfl) ?_
              refine WL.y rfl (Yld.pure tab_ok rfl) ?_
              refine WL.y rfl (Yld.pure tab_ok rfl) ?_
              refine WL.y rfl (Yld.pure tab_ok rfl) ?_
              refine WL.nil (WX.then_normal ?_)
              refine WC.cond rfl (fun b4 => ?_) (fun b4 => ?_)
              · replace H := H.1 (of_decide_eq_true b4)
                refine WC.skip (WX.then_normal ?_)
                refine WC.seq ?_
                refine WC.block ?_
                refine WC.region ?_
                refine WL.y rfl (Yld.pure tab_ok rfl) ?_
                refine WL.y rfl (Yld.pure tab_ok rfl) ?_
                obtain ⟨h2, H⟩ := H
                refine WL.y rfl (Yld.iaddrW tab_ok k2.rd rfl rfl hn_half rfl h2.1 h2.2) ?_
                refine WL.ostore (v := 122) one5 One.b k2 rfl rfl (iltN h2 hn_half) (fun w8 hO3 hg5 => ?_)
                have gr8 := gr_mod gr7 hg5 k2.ge'
                refine WL.nil (WX.block_normal (WX.then_normal ?_))
                refine WC.region ?_
                refine WL.y rfl (Yld.pure tab_ok rfl) ?_
                obtain ⟨h3, H⟩ := H
                refine WL.y rfl (Yld.add rfl rfl h3) ?_
                refine WL.y rfl (Yld.pure tab_ok rfl) ?_
                refine WL.nil ?_
                exact WX.roundF _ ⟨i + (1 : Int), half.set i.toNat 122, rfl, rfl, H.1, (hn_half.trans List.length_set.symm), gr8, hO3⟩ (by repeat (first | exact Sub.nil | refine Sub.cons rfl ?_)) H.2
              · replace H := H.2 (of_decide_eq_false b4)
                refine WC.exit (WX.then_exit (WX.then_exit (WX.block_same (WX.then_normal ?_))))
                refine WC.seq ?_
                refine WC.region ?_
                refine WL.y rfl (Yld.pure tab_ok rfl) ?_
                refine WL.call rfl rfl (W_smithyworld_Number H) ?_
                rintro _ _ ⟨rfl, n2, rfl, H⟩
                refine WL.y rfl (Yld.pure tab_ok rfl) ?_
                refine WL.nil (WX.then_normal ?_)
                refine WC.seq ?_
                refine WC.chainF (fun k => !(Nat.beq k 6 || Nat.beq k 7)) (LD [1, 3] (fun w' => Rd vb w' (some ⟨g2, 0, none⟩) 32768 half)) mixed (by kernel_rfl) (fun k w' h _ => (rd_eqv h k2.rd)) ?_
                refine WJ.y rfl rfl (fun w' hw' => Yld.pure tab_ok rfl) ?_
                refine WJ.y rfl rfl (fun w' hw' => Yld.b2s tab_ok (hw' rfl) rfl rfl rfl rfl hn_half) ?_
                refine WJ.y rfl rfl (fun w' hw' => Yld.pure tab_ok rfl) ?_
                refine WJ.y rfl rfl (fun w' hw' => Yld.b2s tab_ok (hw' rfl) rfl rfl rfl rfl hn_half) ?_
                refine WJ.y rfl rfl (fun w' hw' => Yld.pure tab_ok rfl) ?_
                obtain ⟨h4, H⟩ := H
                refine WJ.y rfl rfl (fun w' hw' => Yld.scut tab_ok rfl rfl rfl rfl (Int.le_refl 0) h4.1 h4.2) ?_
                refine WJ.putw rfl (wants_none) rfl (Eff.lit tab_ok rfl rfl (all1c rfl (all1c rfl (all1c rfl all1n))) rfl (by omega)) (fun v w' ⟨_, _, h⟩ => DD.keep (Rd.grown k2.rd (gr_eqv h (Eqv.refl _)))) ?_
                rintro _ w9 ⟨rfl, hB2, hg6⟩
                obtain ⟨g_t155, hl3⟩ : ∃ g, g = w7.heap.size := ⟨_, rfl⟩
                rw [← hl3] at hB2
                rw [← hl3]
                have hO4 : Own vs w9 w.heap.size 9 (some ⟨g_t155, 0, none⟩) 3 ([half, half, ([97, 98, 99] : List UInt8).take n2.toNat] : List (List UInt8)) := Own.ofBl hB2 (Nat.le_trans (size_le gr7) (Nat.le_of_eq hl3.symm)) (by simp [maxLen]) rfl
                have gr9 := gr_trans gr7 hg6
                have k3 := k2.grown hg6
                refine WJ.call rfl (wants_none) rfl rfl (W_tool_Do (hG.grown gr9) hS10 hS16 hS100 (Own.nil vs w9 w.heap.size 9).rd rfl hO4.rd rfl H) (fun v w' h w2 e => DD.keep (Rd.grown k3.rd (gr_eqv h.1 e))) ?_
                rintro _ w10 ⟨hg7, t1560, v_t1561, t1561, rfl, ht1561, H⟩
                have gr10 := gr_trans gr9 hg7
                have k4 := k3.grown hg7
                refine WJ.y rfl rfl (fun w' hw' => Yld.pure tab_ok rfl) ?_
                refine WJ.y rfl rfl (fun w' hw' => Yld.pure tab_ok rfl) ?_
                refine WJ.y rfl rfl (fun w' hw' => Yld.pure tab_ok rfl) ?_
                refine WJ.y rfl rfl (fun w' hw' => Yld.pure tab_ok rfl) ?_
                refine WJ.y rfl rfl (fun w' hw' => Yld.pure tab_ok rfl) ?_
                refine WJ.nil (WX.then_normal ?_)
                refine WC.seq ?_
                refine WC.region ?_
                refine WL.y rfl (Yld.pure tab_ok rfl) ?_
                refine WL.y rfl (Yld.erreql Tryz.underlying26 ht1561 rfl) ?_
                refine WL.y rfl (Yld.pure tab_ok rfl) ?_
                refine WL.y rfl (Yld.pure tab_ok rfl) ?_
                refine WL.y rfl (Yld.beql Tryz.underlying4 rfl rfl) ?_
                refine WL.y rfl (Yld.pure tab_ok rfl) ?_
                refine WL.nil (WX.then_normal ?_)
                refine WC.ret ?_
                exact WX.ret1 rfl rfl ⟨gr10, (decide (t1561 = Er.ok)) == (decide (n2 = (0 : Int))), rfl, H⟩
          · clear hJ2
            rcases Bool.eq_false_or_eq_true (!((decide (t321 = Er.ok)) == good)) with b5 | b5
            · replace H := H.1 b5
              refine WL.gno rfl rfl (okb b5) rfl ?_
              refine WL.gno rfl rfl (okb b5) rfl ?_
              refine WL.gno rfl rfl (okb b5) rfl ?_
              refine WL.gun rfl rfl rfl rfl ?_
              refine WL.gun rfl rfl rfl rfl ?_
              refine WL.gun rfl rfl rfl rfl ?_
              refine WL.gno rfl rfl (okb b5) rfl ?_
              refine WL.y rfl (Yld.pickT (okb b5) rfl) ?_
              exact WL.weaken (by repeat (first | exact Sub.nil | refine Sub.cons rfl ?_)) (hQ _ _ ⟨true, rfl, H, gr4⟩)
            · replace H := H.2 b5
              refine WL.gyes rfl rfl (okb b5) rfl (Yld.pure tab_ok rfl) ?_
              refine WL.gyes rfl rfl (okb b5) rfl (Yld.pure tab_ok rfl) ?_
              refine WL.gyes rfl rfl (okb b5) rfl (Yld.pure tab_ok rfl) ?_
              rcases Bool.eq_false_or_eq_true (!good) with b6 | b6
              · replace H := H.1 b6
                refine WL.gyes rfl rfl (okb b6) rfl (Yld.pure tab_ok rfl) ?_
                refine WL.callw (wants_some rfl rfl (okb b6)) rfl rfl (W_smithysee_Is (hG.grown gr4) hS0 hS1 hS2 hS3 hS4 hS5 hS6 hS7 hS8 hS9 hS10 hS11 hS12 hS13 hS14 hS15 hS16 k1 H) ?_
                rintro _ w11 ⟨hg8, t132, rfl, H⟩
                have gr11 := gr_trans gr4 hg8
                have k5 := k1.grown hg8
                refine WL.gyes rfl rfl (okb b6) rfl (Yld.pure tab_ok rfl) ?_
                refine WL.gyes rfl rfl (okb b5) rfl (Yld.pickT (okb b6) rfl) ?_
                refine WL.y rfl (Yld.pickF (okb b5) rfl) ?_
                exact WL.weaken (by repeat (first | exact Sub.nil | refine Sub.cons rfl ?_)) (hQ _ _ ⟨!t132, rfl, H, gr11⟩)
              · replace H := H.2 b6
                refine WL.gno rfl rfl (okb b6) rfl ?_
                refine WL.gno rfl rfl (okb b6) rfl ?_
                refine WL.gno rfl rfl (okb b6) rfl ?_
                refine WL.gyes rfl rfl (okb b5) rfl (Yld.pickF (okb b6) rfl) ?_
                refine WL.y rfl (Yld.pickF (okb b5) rfl) ?_
                exact WL.weaken (by repeat (first | exact Sub.nil | refine Sub.cons rfl ?_)) (hQ _ _ ⟨false, rfl, H, gr4⟩)
        · clear hJ1
          refine WC.seq ?_
          refine WC.region ?_
          refine WL.y rfl (Yld.pure tab_ok rfl) ?_
          refine WL.nil (WX.then_normal ?_)
          refine WC.block ?_
          refine WC.seq ?_
          refine WC.region ?_
          refine WL.y rfl (Yld.pure tab_ok rfl) ?_
          refine WL.y rfl (Yld.pure tab_ok rfl) ?_
          refine WL.nil (WX.then_normal ?_)
          refine WC.cond rfl (fun b7 => ?_) (fun b7 => ?_)
          · replace H := H.1 (of_decide_eq_true b7)
            refine WC.region ?_
            refine WL.y rfl (Yld.pure tab_ok rfl) ?_
            refine WL.y rfl (Yld.pure tab_ok rfl) ?_
            refine WL.y rfl (Yld.pure tab_ok rfl) ?_
            refine WL.y rfl (Yld.pure tab_ok rfl) ?_
            refine WL.nil (WX.block_normal ?_)
            exact WX.weaken (by repeat (first | exact Sub.nil | refine Sub.cons rfl ?_)) (hQ _ _ ⟨decide ((args.length : Int) ≤ (1 : Int)), rfl, H, gr3, ht321⟩)
          · replace H := H.2 (of_decide_eq_false b7)
            refine WC.seq ?_
            refine WC.region ?_
            refine WL.y rfl (Yld.pure tab_ok rfl) ?_
            refine WL.y rfl (Yld.pure tab_ok rfl) ?_
            refine WL.nil (WX.then_normal ?_)
            refine WC.cond rfl (fun b8 => ?_) (fun b8 => ?_)
            · replace H := H.1 (of_decide_eq_true b8)
              refine WC.region ?_
              refine WL.y rfl (Yld.pure tab_ok rfl) ?_
              refine WL.y rfl (Yld.pure tab_ok rfl) ?_
              refine WL.y rfl (Yld.pure tab_ok rfl) ?_
              refine WL.y rfl (Yld.pure tab_ok rfl) ?_
              obtain ⟨h5, H⟩ := H
              refine WL.midF 10 (fun L' w' => ∃ q3 : Bool, L' = [(63, .bool q3), (2, .int .i64 n), (9, v_t321)] ∧ q3 = ((decide ((args.length : Int) = (1 : Int))) || ((decide ((args.length : Int) = (2 : Int))) && (decide ((args.getD 1 []) = ([110, 111, 116] : List UInt8))))) ∧ w3 = w') ?_ (fun hQ => ?_)
              · rintro _ _ ⟨q3, rfl, rfl, rfl⟩
                refine WL.y rfl (Yld.pure tab_ok rfl) ?_
                refine WL.nil (WX.block_normal ?_)
                exact WX.weaken (by repeat (first | exact Sub.nil | refine Sub.cons rfl ?_)) (hQ _ _ ⟨(decide ((args.length : Int) = (1 : Int))) || ((decide ((args.length : Int) = (2 : Int))) && (decide ((args.getD 1 []) = ([110, 111, 116] : List UInt8)))), rfl, H, gr3, ht321⟩)
              · clear H
                rcases Bool.eq_false_or_eq_true (decide ((args.length : Int) = (1 : Int))) with b9 | b9
                · refine WL.gno rfl rfl (okb b9) rfl ?_
                  refine WL.gno rfl rfl (okb b9) rfl ?_
                  refine WL.gno rfl rfl (okb b9) rfl ?_
                  refine WL.gno rfl rfl (okb b9) rfl ?_
                  refine WL.gun rfl rfl rfl rfl ?_
                  refine WL.gun rfl rfl rfl rfl ?_
                  refine WL.gun rfl rfl rfl rfl ?_
                  refine WL.gun rfl rfl rfl rfl ?_
                  refine WL.gno rfl rfl (okb b9) rfl ?_
                  refine WL.y rfl (Yld.pickT (okb b9) rfl) ?_
                  exact WL.weaken (by repeat (first | exact Sub.nil | refine Sub.cons rfl ?_)) (hQ _ _ ⟨true, rfl, by rw [b9] <;> rfl, rfl⟩)
                · refine WL.gyes rfl rfl (okb b9) rfl (Yld.pure tab_ok rfl) ?_
                  refine WL.gyes rfl rfl (okb b9) rfl (Yld.pure tab_ok rfl) ?_
                  refine WL.gyes rfl rfl (okb b9) rfl (Yld.pure tab_ok rfl) ?_
                  refine WL.gyes rfl rfl (okb b9) rfl (Yld.pure tab_ok rfl) ?_
                  rcases Bool.eq_false_or_eq_true (decide ((args.length : Int) = (2 : Int))) with b10 | b10
                  · refine WL.gyes rfl rfl (okb b10) rfl (Yld.pure tab_ok rfl) ?_
                    refine WL.gyes rfl rfl (okb b10) rfl (Yld.iaddrW tab_ok (hargs.grown gr3) rfl rfl rfl rfl (h5 b9 b10).1 (h5 b9 b10).2) ?_
                    refine WL.gyes rfl rfl (okb b10) rfl (Yld.iload [] tab_ok (hargs.grown gr3) rfl rfl (iltN (h5 b9 b10) rfl)) ?_
                    refine WL.gyes rfl rfl (okb b10) rfl (Yld.pure tab_ok rfl) ?_
                    refine WL.gyes rfl rfl (okb b9) rfl (Yld.pickT (okb b10) rfl) ?_
                    refine WL.y rfl (Yld.pickF (okb b9) rfl) ?_
                    exact WL.weaken (by repeat (first | exact Sub.nil | refine Sub.cons rfl ?_)) (hQ _ _ ⟨decide ((args.getD 1 []) = ([110, 111, 116] : List UInt8)), rfl, by rw [b9, b10] <;> rfl, rfl⟩)
                  · refine WL.gno rfl rfl (okb b10) rfl ?_
                    refine WL.gno rfl rfl (okb b10) rfl ?_
                    refine WL.gno rfl rfl (okb b10) rfl ?_
                    refine WL.gno rfl rfl (okb b10) rfl ?_
                    refine WL.gyes rfl rfl (okb b9) rfl (Yld.pickF (okb b10) rfl) ?_
                    refine WL.y rfl (Yld.pickF (okb b9) rfl) ?_
                    exact WL.weaken (by repeat (first | exact Sub.nil | refine Sub.cons rfl ?_)) (hQ _ _ ⟨false, rfl, by rw [b9, b10] <;> rfl, rfl⟩)
            · replace H := H.2 (of_decide_eq_false b8)
              refine WC.seq ?_
              refine WC.region ?_
              refine WL.y rfl (Yld.pure tab_ok rfl) ?_
              refine WL.y rfl (Yld.pure tab_ok rfl) ?_
              refine WL.nil (WX.then_normal ?_)
              refine WC.cond rfl (fun b11 => ?_) (fun b11 => ?_)
              · replace H := H.1 (of_decide_eq_true b11)
                refine WC.seq ?_
                refine WC.region ?_
                refine WL.y rfl (Yld.pure tab_ok rfl) ?_
                refine WL.y rfl (Yld.pure tab_ok rfl) ?_
                obtain ⟨h6, H⟩ := H
                refine WL.y rfl (Yld.rem rfl rfl h6.1 h6.2) ?_
                refine WL.y rfl (Yld.pure tab_ok rfl) ?_
                refine WL.y rfl (Yld.pure tab_ok rfl) ?_
                refine WL.nil (WX.then_normal ?_)
                refine WC.seq ?_
                refine WC.region ?_
                refine WL.y rfl (Yld.pure tab_ok rfl) ?_
                refine WL.nil (WX.then_normal ?_)
                refine WC.block ?_
                obtain ⟨I2, mu2, h0_2, HR2⟩ := H
                refine WC.loopF (fun n' L' w' => ∃ (good2 : Bool), ∃ (i2 : Int), n' = mu2 good2 i2 ∧ L' = [(1, .slice A_args args.length c_args), (2, .int .i64 n), (9, v_t321), (10, .bool good2), (11, .int .i64 i2)] ∧ I2 good2 i2 ∧ w3 = w') _ _ ⟨decide (((args.length : Int) % (2 : Int)) = (0 : Int)), (0 : Int), rfl, rfl, h0_2, rfl⟩ (by repeat (first | exact Sub.nil | refine Sub.cons rfl ?_)) ?_
                clear h0_2
                rintro _ _ _ ⟨good2, i2, rfl, rfl, hI2, rfl⟩
                have H := HR2 good2 i2 hI2
                refine WC.seq ?_
                refine WC.seq ?_
                refine WC.region ?_
                refine WL.y rfl (Yld.pure tab_ok rfl) ?_
                refine WL.y rfl (Yld.pure tab_ok rfl) ?_
                refine WL.y rfl (Yld.pure tab_ok rfl) ?_
                refine WL.y rfl (Yld.pure tab_ok rfl) ?_
                refine WL.nil (WX.then_normal ?_)
                refine WC.cond rfl (fun b12 => ?_) (fun b12 => ?_)
                · replace H := H.1 (of_decide_eq_true b12)
                  refine WC.skip (WX.then_normal ?_)
                  refine WC.seq ?_
                  refine WC.block ?_
                  refine WC.region ?_
                  refine WL.y rfl (Yld.pure tab_ok rfl) ?_
                  refine WL.y rfl (Yld.pure tab_ok rfl) ?_
                  obtain ⟨h7, H⟩ := H
                  refine WL.midF 6 (fun L' w' => ∃ q4 : Bool, L' = [(83, .bool q4), (1, .slice A_args args.length c_args), (2, .int .i64 n), (9, v_t321), (11, .int .i64 i2)] ∧ q4 = (good2 && (!decide ((args.getD i2.toNat []) = ([] : List UInt8)))) ∧ w3 = w') ?_ (fun hQ => ?_)
                  · rintro _ _ ⟨q4, rfl, rfl, rfl⟩
                    refine WL.y rfl (Yld.pure tab_ok rfl) ?_
                    refine WL.nil (WX.block_normal (WX.then_normal ?_))
                    refine WC.region ?_
                    refine WL.y rfl (Yld.pure tab_ok rfl) ?_
                    obtain ⟨h8, H⟩ := H
                    refine WL.y rfl (Yld.add rfl rfl h8) ?_
                    refine WL.y rfl (Yld.pure tab_ok rfl) ?_
                    refine WL.nil ?_
                    exact WX.roundF _ ⟨good2 && (!decide ((args.getD i2.toNat []) = ([] : List UInt8))), i2 + (2 : Int), rfl, rfl, H.1, rfl⟩ (by repeat (first | exact Sub.nil | refine Sub.cons rfl ?_)) H.2
                  · clear H
                    rcases Bool.eq_false_or_eq_true (good2) with b13 | b13
                    · refine WL.gyes rfl rfl (okb b13) rfl (Yld.pure tab_ok rfl) ?_
                      refine WL.gyes rfl rfl (okb b13) rfl (Yld.pure tab_ok rfl) ?_
                      refine WL.gyes rfl rfl (okb b13) rfl (Yld.iaddrW tab_ok (hargs.grown gr3) rfl rfl rfl rfl (h7 b13).1 (h7 b13).2) ?_
                      refine WL.gyes rfl rfl (okb b13) rfl (Yld.iload [] tab_ok (hargs.grown gr3) rfl rfl (iltN (h7 b13) rfl)) ?_
                      refine WL.gyes rfl rfl (okb b13) rfl (Yld.pure tab_ok rfl) ?_
                      refine WL.y rfl (Yld.pickT (okb b13) rfl) ?_
                      exact WL.weaken (by repeat (first | exact Sub.nil | refine Sub.cons rfl ?_)) (hQ _ _ ⟨!decide ((args.getD i2.toNat []) = ([] : List UInt8)), rfl, by rw [b13] <;> rfl, rfl⟩)
                    · refine WL.gno rfl rfl (okb b13) rfl ?_
                      refine WL.gno rfl rfl (okb b13) rfl ?_
                      refine WL.gno rfl rfl (okb b13) rfl ?_
                      refine WL.gno rfl rfl (okb b13) rfl ?_
                      refine WL.gno rfl rfl (okb b13) rfl ?_
                      refine WL.y rfl (Yld.pickF (okb b13) rfl) ?_
                      exact WL.weaken (by repeat (first | exact Sub.nil | refine Sub.cons rfl ?_)) (hQ _ _ ⟨false, rfl, by rw [b13] <;> rfl, rfl⟩)
                · replace H := H.2 (of_decide_eq_false b12)
                  refine WC.exit (WX.then_exit (WX.then_exit (WX.block_same (WX.block_normal ?_))))
                  exact WX.weaken (by repeat (first | exact Sub.nil | refine Sub.cons rfl ?_)) (hQ _ _ ⟨good2, rfl, H, gr3, ht321⟩)
              · replace H := H.2 (of_decide_eq_false b11)
                refine WC.seq ?_
                refine WC.region ?_
                refine WL.y rfl (Yld.pure tab_ok rfl) ?_
                refine WL.y rfl (Yld.pure tab_ok rfl) ?_
                refine WL.nil (WX.then_normal ?_)
                refine WC.cond rfl (fun b14 => ?_) (fun b14 => ?_)
                · replace H := H.1 (of_decide_eq_true b14)
                  refine WC.seq ?_
                  refine WC.region ?_
                  refine WL.y rfl (Yld.pure tab_ok rfl) ?_
                  refine WL.y rfl (Yld.pure tab_ok rfl) ?_
                  refine WL.y rfl (Yld.pure tab_ok rfl) ?_
                  refine WL.y rfl (Yld.pure tab_ok rfl) ?_
                  obtain ⟨J3, H, hJ3⟩ := H
                  refine WL.midF 7 (fun L' w' => ∃ q5 : Bool, L' = [(96, .bool q5), (1, .slice A_args args.length c_args), (2, .int .i64 n), (9, v_t321)] ∧ J3 q5 ∧ w.grownBy w' none ∧ ErrR S w' v_t321 t321) ?_ (fun hQ => ?_)
                  · clear H
                    rintro _ w12 ⟨q5, rfl, H, gr12, k6⟩
                    replace H := hJ3 q5 H
                    refine WL.y rfl (Yld.pure tab_ok rfl) ?_
                    refine WL.nil (WX.then_normal ?_)
                    refine WC.seq ?_
                    refine WC.region ?_
                    refine WL.y rfl (Yld.pure tab_ok rfl) ?_
                    refine WL.nil (WX.then_normal ?_)
                    refine WC.block ?_
                    obtain ⟨I3, mu3, h0_3, HR3⟩ := H
                    refine WC.loopF (fun n' L' w' => ∃ (good3 : Bool), ∃ (i3 : Int), n' = mu3 good3 i3 ∧ L' = [(1, .slice A_args args.length c_args), (2, .int .i64 n), (9, v_t321), (10, .bool good3), (12, .int .i64 i3)] ∧ I3 good3 i3 ∧ w12 = w') _ _ ⟨q5, (0 : Int), rfl, rfl, h0_3, rfl⟩ (by repeat (first | exact Sub.nil | refine Sub.cons rfl ?_)) ?_
                    clear h0_3
                    rintro _ _ _ ⟨good3, i3, rfl, rfl, hI3, rfl⟩
                    have H := HR3 good3 i3 hI3
                    refine WC.seq ?_
                    refine WC.seq ?_
                    refine WC.region ?_
                    refine WL.y rfl (Yld.pure tab_ok rfl) ?_
                    refine WL.y rfl (Yld.pure tab_ok rfl) ?_
                    refine WL.y rfl (Yld.pure tab_ok rfl) ?_
                    refine WL.y rfl (Yld.pure tab_ok rfl) ?_
                    refine WL.nil (WX.then_normal ?_)
                    refine WC.cond rfl (fun b15 => ?_) (fun b15 => ?_)
                    · replace H := H.1 (of_decide_eq_true b15)
                      refine WC.skip (WX.then_normal ?_)
                      refine WC.seq ?_
                      refine WC.block ?_
                      refine WC.region ?_
                      refine WL.y rfl (Yld.pure tab_ok rfl) ?_
                      refine WL.y rfl (Yld.pure tab_ok rfl) ?_
                      obtain ⟨h9, H⟩ := H
                      obtain ⟨h10, H⟩ := H
                      refine WL.midF 13 (fun L' w' => ∃ q6 : Bool, L' = [(117, .bool q6), (1, .slice A_args args.length c_args), (2, .int .i64 n), (9, v_t321), (12, .int .i64 i3)] ∧ q6 = (good3 && ((decide ((args.getD i3.toNat []) = ([114, 101, 118, 101, 114, 115, 101] : List UInt8))) || (decide ((args.getD i3.toNat []) = ([117, 110, 105, 113, 117, 101] : List UInt8))))) ∧ w12 = w') ?_ (fun hQ => ?_)
                      · rintro _ _ ⟨q6, rfl, rfl, rfl⟩
                        refine WL.y rfl (Yld.pure tab_ok rfl) ?_
                        refine WL.nil (WX.block_normal (WX.then_normal ?_))
                        refine WC.region ?_
                        refine WL.y rfl (Yld.pure tab_ok rfl) ?_
                        obtain ⟨h11, H⟩ := H
                        refine WL.y rfl (Yld.add rfl rfl h11) ?_
                        refine WL.y rfl (Yld.pure tab_ok rfl) ?_
                        refine WL.nil ?_
                        exact WX.roundF _ ⟨good3 && ((decide ((args.getD i3.toNat []) = ([114, 101, 118, 101, 114, 115, 101] : List UInt8))) || (decide ((args.getD i3.toNat []) = ([117, 110, 105, 113, 117, 101] : List UInt8)))), i3 + (1 : Int), rfl, rfl, H.1, rfl⟩ (by repeat (first | exact Sub.nil | refine Sub.cons rfl ?_)) H.2
                      · clear H
                        rcases Bool.eq_false_or_eq_true (good3) with b16 | b16
                        · refine WL.gyes rfl rfl (okb b16) rfl (Yld.pure tab_ok rfl) ?_
                          refine WL.gyes rfl rfl (okb b16) rfl (Yld.pure tab_ok rfl) ?_
                          refine WL.gyes rfl rfl (okb b16) rfl (Yld.iaddrW tab_ok (hargs.grown gr12) rfl rfl rfl rfl (h9 b16).1 (h9 b16).2) ?_
                          refine WL.gyes rfl rfl (okb b16) rfl (Yld.iload [] tab_ok (hargs.grown gr12) rfl rfl (iltN (h9 b16) rfl)) ?_
                          refine WL.gyes rfl rfl (okb b16) rfl (Yld.pure tab_ok rfl) ?_
                          refine WL.gyes rfl rfl (okb b16) rfl (Yld.pure tab_ok rfl) ?_
                          rcases Bool.eq_false_or_eq_true (decide ((args.getD i3.toNat []) = ([114, 101, 118, 101, 114, 115, 101] : List UInt8))) with b17 | b17
                          · refine WL.gno rfl rfl (okb b17) rfl ?_
                            refine WL.gno rfl rfl (okb b17) rfl ?_
                            refine WL.gno rfl rfl (okb b17) rfl ?_
                            refine WL.gno rfl rfl (okb b17) rfl ?_
                            refine WL.gno rfl rfl (okb b17) rfl ?_
                            refine WL.gyes rfl rfl (okb b16) rfl (Yld.pickT (okb b17) rfl) ?_
                            refine WL.y rfl (Yld.pickT (okb b16) rfl) ?_
                            exact WL.weaken (by repeat (first | exact Sub.nil | refine Sub.cons rfl ?_)) (hQ _ _ ⟨true, rfl, by rw [b16, b17] <;> rfl, rfl⟩)
                          · refine WL.gyes rfl rfl (okb b17) rfl (Yld.pure tab_ok rfl) ?_
                            refine WL.gyes rfl rfl (okb b17) rfl (Yld.pure tab_ok rfl) ?_
                            refine WL.gyes rfl rfl (okb b17) rfl (Yld.iaddrW tab_ok (hargs.grown gr12) rfl rfl rfl rfl (h10 b16 b17).1 (h10 b16 b17).2) ?_
                            refine WL.gyes rfl rfl (okb b17) rfl (Yld.iload [] tab_ok (hargs.grown gr12) rfl rfl (iltN (h10 b16 b17) rfl)) ?_
                            refine WL.gyes rfl rfl (okb b17) rfl (Yld.pure tab_ok rfl) ?_
                            refine WL.gyes rfl rfl (okb b16) rfl (Yld.pickF (okb b17) rfl) ?_
                            refine WL.y rfl (Yld.pickT (okb b16) rfl) ?_
                            exact WL.weaken (by repeat (first | exact Sub.nil | refine Sub.cons rfl ?_)) (hQ _ _ ⟨decide ((args.getD i3.toNat []) = ([117, 110, 105, 113, 117, 101] : List UInt8)), rfl, by rw [b16, b17] <;> rfl, rfl⟩)
                        · refine WL.gno rfl rfl (okb b16) rfl ?_
                          refine WL.gno rfl rfl (okb b16) rfl ?_
                          refine WL.gno rfl rfl (okb b16) rfl ?_
                          refine WL.gno rfl rfl (okb b16) rfl ?_
                          refine WL.gno rfl rfl (okb b16) rfl ?_
                          refine WL.gno rfl rfl (okb b16) rfl ?_
                          refine WL.gun rfl rfl rfl rfl ?_
                          refine WL.gun rfl rfl rfl rfl ?_
                          refine WL.gun rfl rfl rfl rfl ?_
                          refine WL.gun rfl rfl rfl rfl ?_
                          refine WL.gun rfl rfl rfl rfl ?_
                          refine WL.gno rfl rfl (okb b16) rfl ?_
                          refine WL.y rfl (Yld.pickF (okb b16) rfl) ?_
                          exact WL.weaken (by repeat (first | exact Sub.nil | refine Sub.cons rfl ?_)) (hQ _ _ ⟨false, rfl, by rw [b16] <;> rfl, rfl⟩)
                    · replace H := H.2 (of_decide_eq_false b15)
                      refine WC.exit (WX.then_exit (WX.then_exit (WX.block_same (WX.block_normal ?_))))
                      exact WX.weaken (by repeat (first | exact Sub.nil | refine Sub.cons rfl ?_)) (hQ _ _ ⟨good3, rfl, H, gr12, k6⟩)
                  · clear hJ3
                    rcases Bool.eq_false_or_eq_true (decide ((args.length : Int) ≤ (2 : Int))) with b18 | b18
                    · replace H := H.1 b18
                      refine WL.gyes rfl rfl (okb b18) rfl (Yld.pure tab_ok rfl) ?_
                      refine WL.callw (wants_some rfl rfl (okb b18)) rfl rfl (W_smithyref_SortedTexts (hargs.grown gr3) rfl H) ?_
                      rintro _ w13 ⟨hg9, t91, A_t91, c_t91, rfl, ht91, H⟩
                      have hb1 := ht91.ge'
                      have k7 := ht91.base (fun g hg => Nat.le_trans (size_le gr3) (hb1 g hg))
                      have gr13 := gr_trans gr3 hg9
                      have k8 := ht321.grown hg9
                      refine WL.gyes rfl rfl (okb b18) rfl (Yld.pure tab_ok rfl) ?_
                      refine WL.gyes rfl rfl (okb b18) rfl (Yld.pure tab_ok rfl) ?_
                      refine WL.gyes rfl rfl (okb b18) rfl (Yld.pure tab_ok rfl) ?_
                      refine WL.gyes rfl rfl (okb b18) rfl (Yld.pure tab_ok rfl) ?_
                      refine WL.y rfl (Yld.pickT (okb b18) rfl) ?_
                      exact WL.weaken (by repeat (first | exact Sub.nil | refine Sub.cons rfl ?_)) (hQ _ _ ⟨decide ((t91.length : Int) = (args.length : Int)), rfl, H, gr13, k8⟩)
                    · replace H := H.2 b18
                      refine WL.gno rfl rfl (okb b18) rfl ?_
                      refine WL.gno rfl rfl (okb b18) rfl ?_
                      refine WL.gno rfl rfl (okb b18) rfl ?_
                      refine WL.gno rfl rfl (okb b18) rfl ?_
                      refine WL.gno rfl rfl (okb b18) rfl ?_
                      refine WL.gno rfl rfl (okb b18) rfl ?_
                      refine WL.y rfl (Yld.pickF (okb b18) rfl) ?_
                      exact WL.weaken (by repeat (first | exact Sub.nil | refine Sub.cons rfl ?_)) (hQ _ _ ⟨false, rfl, H, gr3, ht321⟩)
                · replace H := H.2 (of_decide_eq_false b14)
                  refine WC.seq ?_
                  refine WC.region ?_
                  refine WL.y rfl (Yld.pure tab_ok rfl) ?_
                  refine WL.y rfl (Yld.pure tab_ok rfl) ?_
                  refine WL.nil (WX.then_normal ?_)
                  refine WC.cond rfl (fun b19 => ?_) (fun b19 => ?_)
                  · replace H := H.1 (of_decide_eq_true b19)
                    refine WC.region ?_
                    refine WL.y rfl (Yld.pure tab_ok rfl) ?_
                    refine WL.y rfl (Yld.pure tab_ok rfl) ?_
                    refine WL.y rfl (Yld.pure tab_ok rfl) ?_
                    refine WL.y rfl (Yld.pure tab_ok rfl) ?_
                    refine WL.nil (WX.block_normal ?_)
                    exact WX.weaken (by repeat (first | exact Sub.nil | refine Sub.cons rfl ?_)) (hQ _ _ ⟨decide ((args.length : Int) = (0 : Int)), rfl, H, gr3, ht321⟩)
                  · replace H := H.2 (of_decide_eq_false b19)
                    refine WC.seq ?_
                    refine WC.region ?_
                    refine WL.y rfl (Yld.pure tab_ok rfl) ?_
                    refine WL.call rfl rfl (W_smithysee_Is (hG.grown gr3) hS0 hS1 hS2 hS3 hS4 hS5 hS6 hS7 hS8 hS9 hS10 hS11 hS12 hS13 hS14 hS15 hS16 ht321 H) ?_
                    rintro _ w14 ⟨hg10, t37, rfl, H⟩
                    have gr14 := gr_trans gr3 hg10
                    refine WL.y rfl (Yld.pure tab_ok rfl) ?_
                    obtain ⟨J4, H, hJ4⟩ := H
                    refine WL.midF 4 (fun L' w' => ∃ q7 : Bool, L' = [(42, .bool q7)] ∧ J4 q7 ∧ w.grownBy w' none) ?_ (fun hQ => ?_)
                    · clear H
                      rintro _ w15 ⟨q7, rfl, H, gr15⟩
                      replace H := hJ4 q7 H
                      refine WL.y rfl (Yld.pure tab_ok rfl) ?_
                      refine WL.nil (WX.then_normal ?_)
                      refine WC.ret (WX.block_ret (WX.then_ret ?_))
                      exact WX.ret1 rfl rfl ⟨gr15, q7, rfl, H⟩
                    · clear hJ4
                      rcases Bool.eq_false_or_eq_true (t37) with b20 | b20
                      · replace H := H.1 b20
                        refine WL.gyes rfl rfl (okb b20) rfl (Yld.pure tab_ok rfl) ?_
                        refine WL.callw (wants_some rfl rfl (okb b20)) rfl rfl (W_tool_Name H) ?_
                        rintro _ w16 ⟨hg11, t40, rfl, H⟩
                        have gr16 := gr_trans gr14 hg11
                        refine WL.gyes rfl rfl (okb b20) rfl (Yld.pure tab_ok rfl) ?_
                        refine WL.y rfl (Yld.pickT (okb b20) rfl) ?_
                        exact WL.weaken (by repeat (first | exact Sub.nil | refine Sub.cons rfl ?_)) (hQ _ _ ⟨decide (t40 = ([] : List UInt8)), rfl, H, gr16⟩)
                      · replace H := H.2 b20
                        refine WL.gno rfl rfl (okb b20) rfl ?_
                        refine WL.gno rfl rfl (okb b20) rfl ?_
                        refine WL.gno rfl rfl (okb b20) rfl ?_
                        refine WL.y rfl (Yld.pickF (okb b20) rfl) ?_
                        exact WL.weaken (by repeat (first | exact Sub.nil | refine Sub.cons rfl ?_)) (hQ _ _ ⟨false, rfl, H, gr14⟩)
    · clear H
      rcases Bool.eq_false_or_eq_true (!t21) with b21 | b21
      · refine WL.gno rfl rfl (okb b21) rfl ?_
        refine WL.gno rfl rfl (okb b21) rfl ?_
        refine WL.y rfl (Yld.pickT (okb b21) rfl) ?_
        exact WL.weaken (by repeat (first | exact Sub.nil | refine Sub.cons rfl ?_)) (hQ _ _ ⟨true, rfl, by rw [b21] <;> rfl, rfl⟩)
      · refine WL.gyes rfl rfl (okb b21) rfl (Yld.pure tab_ok rfl) ?_
        refine WL.gyes rfl rfl (okb b21) rfl (Yld.pure tab_ok rfl) ?_
        refine WL.y rfl (Yld.pickF (okb b21) rfl) ?_
        exact WL.weaken (by repeat (first | exact Sub.nil | refine Sub.cons rfl ?_)) (hQ _ _ ⟨!ok, rfl, by rw [b21] <;> rfl, rfl⟩)

set_option maxHeartbeats 8000000 in
theorem W_smithylaw23_ToolSays {S : List Nat} {w : World} {t : Int} {args : List (List UInt8)} {A_args : Option Addr} {c_args : Nat} {inputs : List (List UInt8)} {A_inputs : Option Addr} {c_inputs : Nat} {s : List UInt8} {n_args : Nat} {n_inputs : Nat} {K : Bool → Prop} (hG : GOK S w) (hS0 : 0 ∈ S) (hS1 : 1 ∈ S) (hS2 : 2 ∈ S) (hS3 : 3 ∈ S) (hS4 : 4 ∈ S) (hS5 : 5 ∈ S) (hS6 : 6 ∈ S) (hS7 : 7 ∈ S) (hS8 : 8 ∈ S) (hS9 : 9 ∈ S) (hS10 : 10 ∈ S) (hS11 : 11 ∈ S) (hS12 : 12 ∈ S) (hS13 : 13 ∈ S) (hS14 : 14 ∈ S) (hS15 : 15 ∈ S) (hS16 : 16 ∈ S) (hS100 : 100 ∈ S) (hargs : Rd vs w A_args c_args args) (hn_args : n_args = args.length) (hinputs : Rd vs w A_inputs c_inputs inputs) (hn_inputs : n_inputs = inputs.length) (H : M_smithylaw23_ToolSays t args inputs s K) : Fn Tryz.prog 4 ⟨[.int .i64 t, .slice A_args n_args c_args, .slice A_inputs n_inputs c_inputs, vs s]⟩ w (fun v w' => w.grownBy w' none ∧ ∃ (r : Bool), v = .bool r ∧ K r) := by
  subst hn_args
  subst hn_inputs
  unfold M_smithylaw23_ToolSays at H
  refine Fn.enter (by kernel_rfl) Tryz.func4 rfl Tryz.ntmps4 rfl ?_
  replace H := H (Nat.le_trans hargs.cap hargs.max)
  replace H := H (Nat.le_trans hinputs.cap hinputs.max)
  refine WC.seq ?_
  refine WC.region ?_
  refine WL.y rfl (Yld.pure tab_ok rfl) ?_
  refine WL.nil (WX.then_normal ?_)
  refine WC.seq ?_
  refine WC.region ?_
  refine WL.call rfl rfl (W_smithylaw23_first hG hS10 hS16 hS100 H) ?_
  rintro _ w1 ⟨hg1, ok, rfl, H⟩
  have gr1 := hg1
  refine WL.y rfl (Yld.pure tab_ok rfl) ?_
  refine WL.nil (WX.then_normal ?_)
  refine WC.seq ?_
  refine WC.seq ?_
  refine WC.region ?_
  refine WL.y rfl (Yld.pure tab_ok rfl) ?_
  refine WL.y rfl (Yld.pure tab_ok rfl) ?_
  refine WL.nil (WX.then_normal ?_)
  refine WC.cond rfl (fun b1 => ?_) (fun b1 => ?_)
  · replace H := H.1 (b1)
    refine WC.seq ?_
    refine WC.region ?_
    refine WL.y rfl (Yld.pure tab_ok rfl) ?_
    refine WL.nil (WX.then_normal ?_)
    refine WC.ret (WX.then_ret ?_)
    exact WX.ret1 rfl rfl ⟨gr1, false, rfl, H⟩
  · replace H := H.2 (b1)
    refine WC.skip (WX.then_normal ?_)
    refine WC.seq ?_
    refine WC.seq ?_
    refine WC.region ?_
    refine WL.y rfl (Yld.pure tab_ok rfl) ?_
    refine WL.call rfl rfl (W_smithyworld_Texts (hargs.grown gr1) rfl H) ?_
    rintro _ _ ⟨rfl, t21, rfl, H⟩
    refine WL.y rfl (Yld.pure tab_ok rfl) ?_
    refine WL.y rfl (Yld.pure tab_ok rfl) ?_
    obtain ⟨J1, H, hJ1⟩ := H
    refine WL.midF 4 (fun L' w' => ∃ q1 : Bool, L' = [(27, .bool q1), (0, .int .i64 t), (1, .slice A_args args.length c_args), (2, .slice A_inputs inputs.length c_inputs), (3, vs s), (9, .bool ok)] ∧ J1 q1 ∧ w1 = w') ?_ (fun hQ => ?_)
    · clear H
      rintro _ _ ⟨q1, rfl, H, rfl⟩
      replace H := hJ1 q1 H
      refine WL.y rfl (Yld.pure tab_ok rfl) ?_
      refine WL.midF 4 (fun L' w' => ∃ q2 : Bool, L' = [(32, .bool q2), (0, .int .i64 t), (1, .slice A_args args.length c_args), (2, .slice A_inputs inputs.length c_inputs), (3, vs s), (9, .bool ok)] ∧ q2 = (q1 || (decide ((500 : Int) < (s.length : Int)))) ∧ w1 = w') ?_ (fun hQ => ?_)
      · rintro _ _ ⟨q2, rfl, rfl, rfl⟩
        refine WL.y rfl (Yld.pure tab_ok rfl) ?_
        refine WL.midF 3 (fun L' w' => ∃ q3 : Bool, L' = [(36, .bool q3), (0, .int .i64 t), (1, .slice A_args args.length c_args), (2, .slice A_inputs inputs.length c_inputs), (3, vs s), (9, .bool ok)] ∧ q3 = ((q1 || (decide ((500 : Int) < (s.length : Int)))) || (!ok)) ∧ w1 = w') ?_ (fun hQ => ?_)
        · rintro _ _ ⟨q3, rfl, rfl, rfl⟩
          refine WL.nil (WX.then_normal ?_)
          refine WC.cond rfl (fun b2 => ?_) (fun b2 => ?_)
          · replace H := H.1 (b2)
            refine WC.seq ?_
            refine WC.region ?_
            refine WL.y rfl (Yld.pure tab_ok rfl) ?_
            refine WL.y rfl (Yld.pure tab_ok rfl) ?_
            refine WL.nil (WX.then_normal ?_)
            refine WC.ret (WX.then_ret ?_)
            exact WX.ret1 rfl rfl ⟨gr1, ok, rfl, H⟩
          · replace H := H.2 (b2)
            refine WC.skip (WX.then_normal ?_)
            refine WC.seq ?_
            refine WC.region ?_
            refine WL.y rfl (Yld.pure tab_ok rfl) ?_
            refine WL.y rfl (Yld.pure tab_ok rfl) ?_
            refine WL.y rfl (Yld.pure tab_ok rfl) ?_
            refine WL.call rfl rfl (W_tool_Do (hG.grown gr1) hS10 hS16 hS100 (hargs.grown gr1) rfl (hinputs.grown gr1) rfl H) ?_
            rintro _ w2 ⟨hg2, t420, v_t421, t421, rfl, ht421, H⟩
            have gr2 := gr_trans gr1 hg2
            refine WL.y rfl (Yld.pure tab_ok rfl) ?_
            refine WL.y rfl (Yld.pure tab_ok rfl) ?_
            refine WL.y rfl (Yld.pure tab_ok rfl) ?_
            refine WL.y rfl (Yld.pure tab_ok rfl) ?_
            refine WL.y rfl (Yld.pure tab_ok rfl) ?_
            refine WL.nil (WX.then_normal ?_)
            refine WC.seq ?_
            refine WC.region ?_
            refine WL.y rfl (Yld.pure tab_ok rfl) ?_
            refine WL.y rfl (Yld.pure tab_ok rfl) ?_
            refine WL.y rfl (Yld.pure tab_ok rfl) ?_
            refine WL.call rfl rfl (W_smithyref17_Do (hargs.grown gr2) rfl (hinputs.grown gr2) rfl H) ?_
            rintro _ w3 ⟨hg3, t490, t491, rfl, H⟩
            have gr3 := gr_trans gr2 hg3
            have k1 := ht421.grown hg3
            refine WL.y rfl (Yld.pure tab_ok rfl) ?_
            refine WL.y rfl (Yld.pure tab_ok rfl) ?_
            refine WL.y rfl (Yld.pure tab_ok rfl) ?_
            refine WL.y rfl (Yld.pure tab_ok rfl) ?_
            refine WL.y rfl (Yld.pure tab_ok rfl) ?_
            refine WL.nil (WX.then_normal ?_)
            refine WC.seq ?_
            refine WC.region ?_
            refine WL.lit tab_ok rfl rfl rfl (all1c rfl (all1c rfl (all1c rfl (all1c rfl (all1c rfl (all1c rfl all1n)))))) rfl (by omega) (fun g1 w4 hB1 hg4 hl1 => ?_)
            have hO1 : Own vs w4 w.heap.size 9 (some ⟨g1, 0, none⟩) 6 ([([] : List UInt8), ([99, 111, 110, 99, 97, 116] : List UInt8), ([102, 105, 108, 116, 101, 114] : List UInt8), ([115, 117, 98, 115, 116, 105, 116, 117, 116, 101] : List UInt8), ([115, 111, 114, 116] : List UInt8), ([100, 105, 103, 101, 115, 116] : List UInt8)] : List (List UInt8)) := Own.ofBl hB1 (Nat.le_trans (size_le gr3) hl1) (by simp [maxLen]) rfl
            have gr4 := gr_trans gr3 hg4
            have k2 := k1.grown hg4
            refine WL.y rfl (Yld.pure tab_ok rfl) ?_
            refine WL.nil (WX.then_normal ?_)
            refine WC.seq ?_
            refine WC.region ?_
            refine WL.y rfl (Yld.pure tab_ok rfl) ?_
            refine WL.nil (WX.then_normal ?_)
            refine WC.seq ?_
            obtain ⟨J2, H, hJ2⟩ := H
            refine WC.midF (fun L' w' => ∃ (name : List UInt8), L' = [(0, .int .i64 t), (3, vs s), (10, vs t420), (11, v_t421), (12, vs t490), (13, .int .i64 t491), (14, .slice (some ⟨g1, 0, none⟩) 6 6), (15, vs name)] ∧ J2 name ∧ w4 = w') ?_ (fun hQ => ?_)
            · clear H
              rintro _ _ ⟨name, rfl, H, rfl⟩
              replace H := hJ2 name H
              refine WX.then_normal ?_
              refine WC.seq ?_
              refine WC.region ?_
              refine WL.y rfl (Yld.pure tab_ok rfl) ?_
              refine WL.y rfl (Yld.pure tab_ok rfl) ?_
              refine WL.call rfl rfl (W_smithyref_AmongTexts hO1.rd rfl H) ?_
              rintro _ _ ⟨rfl, at_, rfl, H⟩
              refine WL.y rfl (Yld.pure tab_ok rfl) ?_
              refine WL.nil (WX.then_normal ?_)
              refine WC.seq ?_
              refine WC.region ?_
              refine WL.y rfl (Yld.pure tab_ok rfl) ?_
              refine WL.y rfl (Yld.pure tab_ok rfl) ?_
              refine WL.y rfl (Yld.pure tab_ok rfl) ?_
              refine WL.y rfl (Yld.pure tab_ok rfl) ?_
              obtain ⟨J3, H, hJ3⟩ := H
              refine WL.midF 4 (fun L' w' => ∃ q4 : Bool, L' = [(73, .bool q4), (0, .int .i64 t), (3, vs s), (15, vs name), (16, .int .i64 at_)] ∧ J3 q4 ∧ w.grownBy w' none) ?_ (fun hQ => ?_)
              · clear H
                rintro _ w5 ⟨q4, rfl, H, gr5⟩
                replace H := hJ3 q4 H
                refine WL.y rfl (Yld.pure tab_ok rfl) ?_
                obtain ⟨J4, H, hJ4⟩ := H
                refine WL.midF 5 (fun L' w' => ∃ q5 : Bool, L' = [(79, .bool q5), (3, vs s), (16, .int .i64 at_)] ∧ J4 q5 ∧ w.grownBy w' none) ?_ (fun hQ => ?_)
                · clear H
                  rintro _ w6 ⟨q5, rfl, H, gr6⟩
                  replace H := hJ4 q5 H
                  refine WL.y rfl (Yld.pure tab_ok rfl) ?_
                  obtain ⟨J5, H, hJ5⟩ := H
                  refine WL.midF 6 (fun L' w' => ∃ q6 : Bool, L' = [(86, .bool q6), (3, vs s)] ∧ J5 q6 ∧ w.grownBy w' none) ?_ (fun hQ => ?_)
                  · clear H
                    rintro _ w7 ⟨q6, rfl, H, gr7⟩
                    replace H := hJ5 q6 H
                    refine WL.y rfl (Yld.pure tab_ok rfl) ?_
                    obtain ⟨J6, H, hJ6⟩ := H
                    refine WL.midF 6 (fun L' w' => ∃ q7 : Bool, L' = [(93, .bool q7)] ∧ J6 q7 ∧ w.grownBy w' none) ?_ (fun hQ => ?_)
                    · clear H
                      rintro _ w8 ⟨q7, rfl, H, gr8⟩
                      replace H := hJ6 q7 H
                      refine WL.y rfl (Yld.pure tab_ok rfl) ?_
                      refine WL.nil (WX.then_normal ?_)
                      refine WC.ret ?_
                      exact WX.ret1 rfl rfl ⟨gr8, q7, rfl, H⟩
                    · clear hJ6
                      rcases Bool.eq_false_or_eq_true (q6) with b3 | b3
                      · replace H := H.1 b3
                        refine WL.gyes rfl rfl (okb b3) rfl (Yld.pure tab_ok rfl) ?_
                        refine WL.callw (wants_some rfl rfl (okb b3)) rfl rfl (W_tool_Lines (hG.grown gr7) hS100 H) ?_
                        rintro _ w9 ⟨hg5, t89, A_t89, c_t89, rfl, ht89, H⟩
                        have hb1 := ht89.ge'
                        have k3 := ht89.base (fun g hg => Nat.le_trans (size_le gr7) (hb1 g hg))
                        have gr9 := gr_trans gr7 hg5
                        refine WL.gyes rfl rfl (okb b3) rfl (Yld.pure tab_ok rfl) ?_
                        refine WL.callw (wants_some rfl rfl (okb b3)) rfl rfl (W_smithyref17_Lines H) ?_
                        rintro _ w10 ⟨hg6, t91, A_t91, c_t91, rfl, ht91, H⟩
                        have hb2 := ht91.ge'
                        have k4 := ht91.base (fun g hg => Nat.le_trans (size_le gr9) (hb2 g hg))
                        have gr10 := gr_trans gr9 hg6
                        have k5 := k3.grown hg6
                        refine WL.callw (wants_some rfl rfl (okb b3)) rfl rfl (W_smithyref_SameTexts k5.rd rfl k4.rd rfl H) ?_
                        rintro _ _ ⟨rfl, t92, rfl, H⟩
                        refine WL.y rfl (Yld.pickT (okb b3) rfl) ?_
                        exact WL.weaken (by repeat (first | exact Sub.nil | refine Sub.cons rfl ?_)) (hQ _ _ ⟨t92, rfl, H, gr10⟩)
                      · replace H := H.2 b3
                        refine WL.gno rfl rfl (okb b3) rfl ?_
                        refine WL.gno rfl rfl (okb b3) rfl ?_
                        refine WL.gno rfl rfl (okb b3) rfl ?_
                        refine WL.gno rfl rfl (okb b3) rfl ?_
                        refine WL.gno rfl rfl (okb b3) rfl ?_
                        refine WL.y rfl (Yld.pickF (okb b3) rfl) ?_
                        exact WL.weaken (by repeat (first | exact Sub.nil | refine Sub.cons rfl ?_)) (hQ _ _ ⟨false, rfl, H, gr7⟩)
                  · clear hJ5
                    rcases Bool.eq_false_or_eq_true (q5) with b4 | b4
                    · replace H := H.1 b4
                      refine WL.gyes rfl rfl (okb b4) rfl (Yld.pure tab_ok rfl) ?_
                      refine WL.callw (wants_some rfl rfl (okb b4)) rfl rfl (W_tool_Tool H) ?_
                      rintro _ w11 ⟨hg7, t82, rfl, H⟩
                      have gr11 := gr_trans gr6 hg7
                      refine WL.gyes rfl rfl (okb b4) rfl (Yld.pure tab_ok rfl) ?_
                      refine WL.gyes rfl rfl (okb b4) rfl (Yld.max2 rfl rfl) ?_
                      refine WL.gyes rfl rfl (okb b4) rfl (Yld.pure tab_ok rfl) ?_
                      refine WL.y rfl (Yld.pickT (okb b4) rfl) ?_
                      exact WL.weaken (by repeat (first | exact Sub.nil | refine Sub.cons rfl ?_)) (hQ _ _ ⟨decide (t82 = (if at_ < (0 : Int) then (0 : Int) else at_)), rfl, H, gr11⟩)
                    · replace H := H.2 b4
                      refine WL.gno rfl rfl (okb b4) rfl ?_
                      refine WL.gno rfl rfl (okb b4) rfl ?_
                      refine WL.gno rfl rfl (okb b4) rfl ?_
                      refine WL.gno rfl rfl (okb b4) rfl ?_
                      refine WL.gno rfl rfl (okb b4) rfl ?_
                      refine WL.y rfl (Yld.pickF (okb b4) rfl) ?_
                      exact WL.weaken (by repeat (first | exact Sub.nil | refine Sub.cons rfl ?_)) (hQ _ _ ⟨false, rfl, H, gr6⟩)
                · clear hJ4
                  rcases Bool.eq_false_or_eq_true (q4) with b5 | b5
                  · replace H := H.1 b5
                    refine WL.gyes rfl rfl (okb b5) rfl (Yld.pure tab_ok rfl) ?_
                    refine WL.callw (wants_some rfl rfl (okb b5)) rfl rfl (W_tool_Name H) ?_
                    rintro _ w12 ⟨hg8, t76, rfl, H⟩
                    have gr12 := gr_trans gr5 hg8
                    refine WL.gyes rfl rfl (okb b5) rfl (Yld.pure tab_ok rfl) ?_
                    refine WL.gyes rfl rfl (okb b5) rfl (Yld.pure tab_ok rfl) ?_
                    refine WL.y rfl (Yld.pickT (okb b5) rfl) ?_
                    exact WL.weaken (by repeat (first | exact Sub.nil | refine Sub.cons rfl ?_)) (hQ _ _ ⟨decide (t76 = name), rfl, H, gr12⟩)
                  · replace H := H.2 b5
                    refine WL.gno rfl rfl (okb b5) rfl ?_
                    refine WL.gno rfl rfl (okb b5) rfl ?_
                    refine WL.gno rfl rfl (okb b5) rfl ?_
                    refine WL.gno rfl rfl (okb b5) rfl ?_
                    refine WL.y rfl (Yld.pickF (okb b5) rfl) ?_
                    exact WL.weaken (by repeat (first | exact Sub.nil | refine Sub.cons rfl ?_)) (hQ _ _ ⟨false, rfl, H, gr5⟩)
              · clear hJ3
                rcases Bool.eq_false_or_eq_true (decide (t420 = t490)) with b6 | b6
                · replace H := H.1 b6
                  refine WL.gyes rfl rfl (okb b6) rfl (Yld.pure tab_ok rfl) ?_
                  refine WL.gyes rfl rfl (okb b6) rfl (Yld.pure tab_ok rfl) ?_
                  refine WL.callw (wants_some rfl rfl (okb b6)) rfl rfl (W_smithysee_Is (hG.grown gr4) hS0 hS1 hS2 hS3 hS4 hS5 hS6 hS7 hS8 hS9 hS10 hS11 hS12 hS13 hS14 hS15 hS16 k2 H) ?_
                  rintro _ w13 ⟨hg9, t72, rfl, H⟩
                  have gr13 := gr_trans gr4 hg9
                  have k6 := k2.grown hg9
                  refine WL.y rfl (Yld.pickT (okb b6) rfl) ?_
                  exact WL.weaken (by repeat (first | exact Sub.nil | refine Sub.cons rfl ?_)) (hQ _ _ ⟨t72, rfl, H, gr13⟩)
                · replace H := H.2 b6
                  refine WL.gno rfl rfl (okb b6) rfl ?_
                  refine WL.gno rfl rfl (okb b6) rfl ?_
                  refine WL.gno rfl rfl (okb b6) rfl ?_
                  refine WL.y rfl (Yld.pickF (okb b6) rfl) ?_
                  exact WL.weaken (by repeat (first | exact Sub.nil | refine Sub.cons rfl ?_)) (hQ _ _ ⟨false, rfl, H, gr4⟩)
            · clear hJ2
              refine WC.seq ?_
              refine WC.region ?_
              refine WL.y rfl (Yld.pure tab_ok rfl) ?_
              refine WL.y rfl (Yld.pure tab_ok rfl) ?_
              refine WL.y rfl (Yld.pure tab_ok rfl) ?_
              refine WL.midF 3 (fun L' w' => ∃ q8 : Bool, L' = [(58, .bool q8), (0, .int .i64 t), (3, vs s), (10, vs t420), (11, v_t421), (12, vs t490), (13, .int .i64 t491), (14, .slice (some ⟨g1, 0, none⟩) 6 6), (15, vs ([] : List UInt8))] ∧ q8 = ((decide ((1 : Int) ≤ t)) && (decide (t ≤ (5 : Int)))) ∧ w4 = w') ?_ (fun hQ => ?_)
              · rintro _ _ ⟨q8, rfl, rfl, rfl⟩
                refine WL.nil (WX.then_normal ?_)
                refine WC.cond rfl (fun b7 => ?_) (fun b7 => ?_)
                · replace H := H.1 (b7)
                  refine WC.region ?_
                  refine WL.y rfl (Yld.pure tab_ok rfl) ?_
                  refine WL.y rfl (Yld.pure tab_ok rfl) ?_
                  obtain ⟨h1, H⟩ := H
                  refine WL.y rfl (Yld.iaddrW tab_ok hO1.rd rfl rfl rfl rfl h1.1 h1.2) ?_
                  refine WL.y rfl (Yld.iload [] tab_ok hO1.rd rfl rfl (iltN h1 rfl)) ?_
                  refine WL.y rfl (Yld.pure tab_ok rfl) ?_
                  refine WL.nil ?_
                  exact WX.weaken (by repeat (first | exact Sub.nil | refine Sub.cons rfl ?_)) (hQ _ _ ⟨([([] : List UInt8), ([99, 111, 110, 99, 97, 116] : List UInt8), ([102, 105, 108, 116, 101, 114] : List UInt8), ([115, 117, 98, 115, 116, 105, 116, 117, 116, 101] : List UInt8), ([115, 111, 114, 116] : List UInt8), ([100, 105, 103, 101, 115, 116] : List UInt8)] : List (List UInt8)).getD t.toNat [], rfl, H, rfl⟩)
                · replace H := H.2 (b7)
                  refine WC.skip ?_
                  exact WX.weaken (by repeat (first | exact Sub.nil | refine Sub.cons rfl ?_)) (hQ _ _ ⟨([] : List UInt8), rfl, H, rfl⟩)
              · clear H
                rcases Bool.eq_false_or_eq_true (decide ((1 : Int) ≤ t)) with b8 | b8
                · refine WL.gyes rfl rfl (okb b8) rfl (Yld.pure tab_ok rfl) ?_
                  refine WL.gyes rfl rfl (okb b8) rfl (Yld.pure tab_ok rfl) ?_
                  refine WL.y rfl (Yld.pickT (okb b8) rfl) ?_
                  exact WL.weaken (by repeat (first | exact Sub.nil | refine Sub.cons rfl ?_)) (hQ _ _ ⟨decide (t ≤ (5 : Int)), rfl, by rw [b8] <;> rfl, rfl⟩)
                · refine WL.gno rfl rfl (okb b8) rfl ?_
                  refine WL.gno rfl rfl (okb b8) rfl ?_
                  refine WL.y rfl (Yld.pickF (okb b8) rfl) ?_
                  exact WL.weaken (by repeat (first | exact Sub.nil | refine Sub.cons rfl ?_)) (hQ _ _ ⟨false, rfl, by rw [b8] <;> rfl, rfl⟩)
        · clear H
          rcases Bool.eq_false_or_eq_true (q1 || (decide ((500 : Int) < (s.length : Int)))) with b9 | b9
          · refine WL.gno rfl rfl (okb b9) rfl ?_
            refine WL.gno rfl rfl (okb b9) rfl ?_
            refine WL.y rfl (Yld.pickT (okb b9) rfl) ?_
            exact WL.weaken (by repeat (first | exact Sub.nil | refine Sub.cons rfl ?_)) (hQ _ _ ⟨true, rfl, by rw [b9] <;> rfl, rfl⟩)
          · refine WL.gyes rfl rfl (okb b9) rfl (Yld.pure tab_ok rfl) ?_
            refine WL.gyes rfl rfl (okb b9) rfl (Yld.pure tab_ok rfl) ?_
            refine WL.y rfl (Yld.pickF (okb b9) rfl) ?_
            exact WL.weaken (by repeat (first | exact Sub.nil | refine Sub.cons rfl ?_)) (hQ _ _ ⟨!ok, rfl, by rw [b9] <;> rfl, rfl⟩)
      · clear H
        rcases Bool.eq_false_or_eq_true (q1) with b10 | b10
        · refine WL.gno rfl rfl (okb b10) rfl ?_
          refine WL.gno rfl rfl (okb b10) rfl ?_
          refine WL.gno rfl rfl (okb b10) rfl ?_
          refine WL.y rfl (Yld.pickT (okb b10) rfl) ?_
          exact WL.weaken (by repeat (first | exact Sub.nil | refine Sub.cons rfl ?_)) (hQ _ _ ⟨true, rfl, by rw [b10] <;> rfl, rfl⟩)
        · refine WL.gyes rfl rfl (okb b10) rfl (Yld.pure tab_ok rfl) ?_
          refine WL.gyes rfl rfl (okb b10) rfl (Yld.pure tab_ok rfl) ?_
          refine WL.gyes rfl rfl (okb b10) rfl (Yld.pure tab_ok rfl) ?_
          refine WL.y rfl (Yld.pickF (okb b10) rfl) ?_
          exact WL.weaken (by repeat (first | exact Sub.nil | refine Sub.cons rfl ?_)) (hQ _ _ ⟨decide ((500 : Int) < (s.length : Int)), rfl, by rw [b10] <;> rfl, rfl⟩)
    · clear hJ1
      rcases Bool.eq_false_or_eq_true (!t21) with b11 | b11
      · replace H := H.1 b11
        refine WL.gno rfl rfl (okb b11) rfl ?_
        refine WL.gno rfl rfl (okb b11) rfl ?_
        refine WL.gno rfl rfl (okb b11) rfl ?_
        refine WL.y rfl (Yld.pickT (okb b11) rfl) ?_
        exact WL.weaken (by repeat (first | exact Sub.nil | refine Sub.cons rfl ?_)) (hQ _ _ ⟨true, rfl, H, rfl⟩)
      · replace H := H.2 b11
        refine WL.gyes rfl rfl (okb b11) rfl (Yld.pure tab_ok rfl) ?_
        refine WL.callw (wants_some rfl rfl (okb b11)) rfl rfl (W_smithyworld_Texts (hinputs.grown gr1) rfl H) ?_
        rintro _ _ ⟨rfl, t25, rfl, H⟩
        refine WL.gyes rfl rfl (okb b11) rfl (Yld.pure tab_ok rfl) ?_
        refine WL.y rfl (Yld.pickF (okb b11) rfl) ?_
        exact WL.weaken (by repeat (first | exact Sub.nil | refine Sub.cons rfl ?_)) (hQ _ _ ⟨!t25, rfl, H, rfl⟩)

end Go.Proofs.YtilphcippnfklaaGreatDoor
 /- smithysee.Is, plainly. -/
namespace Go.Proofs.YtilphcippnfklaaGreatDoor
open Go Go.RowKit
def isB : Er → Int → Bool
  | .ok, c => decide (0 = c)
  | .e n, c => decide (101 + (n : Int) = c)
  | .at_ _ _, _ => false
theorem is_M {e : Er} {code : Int} {K : Bool → Prop} (h : K (isB e code)) : M_smithysee_Is e code K := by
  unfold M_smithysee_Is M_smithyref_Bare M_smithysee_Same M_smithysee_Fault M_smithyref_None M_smithyref_SameFault M_smithysee_placed M_smithysee_sentinel M_smithyref_Bare M_smithyref_Placed M_smithyref_None
  cases e with
  | ok => refine ⟨fun _ => ?_, fun h2 => absurd rfl h2⟩; exact (congrArg K (show isB .ok code = _ by simp [isB])).mp h
  | e n => refine ⟨fun h2 => (by cases h2), fun _ => ⟨fun p m h2 => (by cases h2), fun _ => ?_⟩⟩; exact (congrArg K (show isB (.e n) code = _ by rw [Bool.eq_iff_iff]; simp [isB, sentV]; exact decide_eq_true_iff.symm)).mp h
  | at_ p n =>
    refine ⟨fun h2 => (by cases h2), fun _ => ⟨fun p' m h2 => ?_, fun h2 => absurd rfl (h2 p n)⟩⟩
    cases h2
    refine ⟨fun h2 => (by simp at h2), fun _ => ⟨fun h2 => (by simp only [sentV] at h2; omega), fun _ => ?_⟩⟩
    exact (congrArg K (show isB (.at_ p n) code = _ by simp [isB])).mp h
end Go.Proofs.YtilphcippnfklaaGreatDoor
 /- ToolFails, plainly. -/
namespace Go.Proofs.YtilphcippnfklaaGreatDoor
open Go Go.RowKit
theorem vtexts_B {l : List (List UInt8)} {most long : Int} {K : Bool → Prop} (hl : most ≤ 1000000) (h : ∀ t : Bool, (t = true → (l.length : Int) ≤ most ∧ ∀ x ∈ l, (x.length : Int) ≤ long) → K t) : M_smithyworld_Texts l most long K := by
  intro _
  refine ⟨fun _ => h false (fun e => by cases e), fun hm => ⟨fun i => 0 ≤ i ∧ i ≤ l.length ∧ ∀ j, j < i.toNat → ((l.getD j []).length : Int) ≤ long, fun i => l.length - i.toNat, ⟨by omega, by omega, by intro j hj; simp at hj⟩, fun i ⟨a0, a1, a2⟩ => ⟨fun hlt => ⟨by omega, fun _ => h false (fun e => by cases e), fun hle => ⟨by simp only [In]; omega, ⟨by omega, by omega, fun j hj => ?_⟩, by dsimp only; omega⟩⟩, fun hge => h true fun _ => ⟨by omega, fun x hx => ?_⟩⟩⟩⟩
  · by_cases e : j = i.toNat
    · rw [e]; omega
    · exact a2 j (by omega)
  · obtain ⟨j, hj, rfl⟩ := List.getElem_of_mem hx
    have := a2 j (by omega)
    simpa [List.getD, hj] using this
theorem tfirst_M {K : Bool → Prop} (h : K true) : M_smithylaw23_first K := by
  have e1 : doP 4 [] [([98, 10, 97, 10] : List UInt8)] = ([97, 10, 98, 10], .ok) := by
    have hs : sortB ([[98], [97]] : List (List UInt8)) = [[97], [98]] := (sortB_of (by simp; decide) (List.Perm.swap _ _ _)).symm
    have hl : linesA [([98, 10, 97, 10] : List UInt8)] = [[98], [97]] := by decide
    have hp : listP 4 [] [([98, 10, 97, 10] : List UInt8)] = ([[97], [98]], true) := by
      unfold listP sortR sortOk
      rw [hl, hs]
      rfl
    unfold doP
    rw [hp]
    rfl
  have e2 : doP 3 [[97], [98]] [([97, 97] : List UInt8)] = ([98, 98], .ok) := by decide +kernel
  refine do_M (by simp) (by simp) (by simp) (do_M (by simp) (by simp) (by simp) ?_)
  rw [e1, e2]
  simpa using h
theorem bytesLess_lt (a b : Bs) : Op.bytesLess a b = decide (a < b) := bytesLess_eq a b
theorem sortedTexts_M {l : List (List UInt8)} {K : List (List UInt8) → Prop} (hl : l.length ≤ 1000000) (h : K (sortU l)) : M_smithyref_SortedTexts l K := by
  intro _
  refine ⟨fun out i => 0 ≤ i ∧ i ≤ l.length ∧ Strict out ∧ (∀ x, x ∈ out ↔ x ∈ l.take i.toNat) ∧ out.length ≤ i.toNat, fun _ i => l.length - i.toNat, ⟨by omega, by omega, List.Pairwise.nil, by simp, by simp⟩, fun out i ⟨a0, a1, a2, a3, a4⟩ => ⟨fun hlt => ?_, fun hge => ?_⟩⟩
  · generalize hx : l.getD i.toNat [] = x
    have htk : ∀ y, y ∈ l.take (i + 1).toNat ↔ y ∈ l.take i.toNat ∨ y = x := fun y => by
      rw [show (i + 1).toNat = i.toNat + 1 by omega, List.take_succ_eq_append_getElem (by omega), List.mem_append, List.mem_singleton, ← hx]
      simp [List.getD, show i.toNat < l.length by omega]
    refine ⟨fun o => Strict o ∧ (∀ y, y ∈ o ↔ y ∈ l.take (i + 1).toNat) ∧ o.length ≤ i.toNat + 1, ?_, fun o ⟨h1, h2, h3⟩ => ⟨by simp only [In]; omega, ⟨by omega, by omega, h1, h2, by omega⟩, by (try dsimp only); omega⟩⟩
    refine ⟨fun k => 0 ≤ k ∧ k ≤ out.length ∧ ∀ j, j < k.toNat → out.getD j [] < x, fun k => out.length - k.toNat, ⟨by omega, by omega, by intro j hj; simp at hj⟩, fun k ⟨b0, b1, b2⟩ => ⟨fun hd => ?_, fun hd => ?_, fun hc => ?_, fun hc => ⟨fun hd => ?_, fun hd => ?_, fun he => ?_, fun he => ?_⟩⟩⟩
    · simp only [decide_eq_true_eq] at hd; omega
    · omega
    · rw [Bool.and_eq_true, bytesLess_lt, decide_eq_true_eq, decide_eq_true_eq] at hc
      refine ⟨by simp only [In]; omega, ⟨by omega, by omega, fun j hj => ?_⟩, by (try dsimp only); omega⟩
      by_cases e : j = k.toNat
      · rw [e]; exact hc.2
      · exact b2 j (by omega)
    · simp only [decide_eq_true_eq] at hd; omega
    · omega
    · rw [Bool.and_eq_true, decide_eq_true_eq, decide_eq_true_eq] at he
      refine ⟨a2, fun y => ?_, by omega⟩
      rw [htk, a3]
      refine ⟨.inl, fun h => h.elim id fun h => ?_⟩
      rw [h, ← a3, ← he.2]
      exact getD_mem (by omega)
    · have hlen : (out.take k.toNat).length = k.toNat := by simp; omega
      refine ⟨by simp only [In]; omega, by omega, by omega, ?_, by omega, ?_, by omega, ?_, ?_⟩
      · simp only [List.length_nil, hlen]; omega
      · simp only [List.nil_append, List.length_cons, List.length_nil, hlen]; omega
      · simp only [List.nil_append, List.length_append, List.length_cons, List.length_nil, List.length_drop, hlen]; omega
      · rw [List.nil_append, List.append_assoc]
        refine ⟨strict_insert a2 (by omega) b2 fun hk => ?_, fun y => ?_, ?_⟩
        · have hk' : k < out.length := by omega
          rw [bytesLess_lt, decide_eq_true hk', Bool.true_and, decide_eq_false_iff_not] at hc
          rw [decide_eq_true hk', Bool.true_and, decide_eq_false_iff_not] at he
          rcases bs_lt_or (out.getD k.toNat []) x with h1 | h1 | h1
          · exact absurd h1 hc
          · exact absurd h1 he
          · exact h1
        · rw [htk, ← a3, List.mem_append, List.mem_append, List.mem_singleton]
          conv => rhs; lhs; rw [← List.take_append_drop k.toNat out, List.mem_append]
          constructor
          · rintro (h | h | h)
            · exact .inl (.inl h)
            · exact .inr h
            · exact .inl (.inr h)
          · rintro ((h | h) | h)
            · exact .inl h
            · exact .inr (.inr h)
            · exact .inr (.inl h)
        · simp only [List.length_append, List.length_cons, List.length_nil, List.length_drop, hlen]; omega
  · have e : i.toNat = l.length := by omega
    rw [e, List.take_length] at a3
    rw [sortU_of a2 a3]
    exact h
def evB : List (List UInt8) → Bool
  | a :: _ :: r => !decide (a = []) && evB r
  | [a] => !decide (a = [])
  | [] => true
theorem evB_drop {l : List (List UInt8)} {i : Nat} (h : i < l.length) : evB (l.drop i) = (!decide (l.getD i [] = []) && evB (l.drop (i + 2))) := by
  have e : l.getD i [] = l[i] := by simp [List.getD, h]
  rw [List.drop_eq_getElem_cons h, e]
  rcases Nat.lt_or_ge (i + 1) l.length with h2 | h2
  · rw [List.drop_eq_getElem_cons h2]; rfl
  · rw [List.drop_eq_nil_of_le (by omega), List.drop_eq_nil_of_le (by omega)]
    show _ = (_ && true)
    rw [Bool.and_true]; rfl
def allB (l : List (List UInt8)) : Bool := l.all fun x => decide (x = wRev) || decide (x = wUni)
theorem allB_drop {l : List (List UInt8)} {i : Nat} (h : i < l.length) : allB (l.drop i) = ((decide (l.getD i [] = wRev) || decide (l.getD i [] = wUni)) && allB (l.drop (i + 1))) := by
  have e : l.getD i [] = l[i] := by simp [List.getD, h]
  rw [List.drop_eq_getElem_cons h, e]
  rfl
theorem filt_is (args : List (List UInt8)) : (decide ((args.length : Int) = 1) || (decide ((args.length : Int) = 2) && decide (args.getD 1 [] = wNot))) = filtOk args := by
  unfold filtOk
  by_cases l1 : (args.length : Int) = 1
  · rw [decide_eq_true l1, decide_eq_false (show ¬ (args.length : Int) < 1 by omega), decide_eq_false (show ¬ (2 : Int) < args.length by omega), decide_eq_false (show ¬ (args.length : Int) = 2 by omega)]; rfl
  · rw [decide_eq_false l1]
    by_cases l2 : (args.length : Int) = 2
    · rw [decide_eq_true l2, decide_eq_false (show ¬ (args.length : Int) < 1 by omega), decide_eq_false (show ¬ (2 : Int) < args.length by omega)]; simp
    · rw [decide_eq_false l2]
      by_cases l3 : (args.length : Int) < 1
      · rw [decide_eq_true l3]; rfl
      · rw [decide_eq_true (show (2 : Int) < args.length by omega)]; simp
theorem sort_is (args : List (List UInt8)) : ((decide ((args.length : Int) ≤ 2) && decide (((sortU args).length : Int) = (args.length : Int))) && allB args) = sortOk args := by
  have hne : wRev ≠ wUni := by decide
  have hc : ∀ x : List UInt8, x = wRev ∨ x = wUni ∨ (x ≠ wRev ∧ x ≠ wUni ∧ wRev ≠ x ∧ wUni ≠ x) := fun x => by
    by_cases h1 : x = wRev
    · exact .inl h1
    · by_cases h2 : x = wUni
      · exact .inr (.inl h2)
      · exact .inr (.inr ⟨h1, h2, Ne.symm h1, Ne.symm h2⟩)
  match args with
  | [] =>
    have hs : ([] : List (List UInt8)) = sortU [] := sortU_of List.Pairwise.nil (fun _ => Iff.rfl)
    rw [← hs]
    decide
  | [x] =>
    have hs : (sortU [x]).length = 1 := by
      have : [x] = sortU [x] := sortU_of (List.pairwise_singleton _ _) (fun _ => Iff.rfl)
      rw [← this]; rfl
    rcases hc x with rfl | rfl | ⟨h1, h2, _, _⟩
    · unfold sortOk allB; rw [hs]; decide
    · unfold sortOk allB; rw [hs]; decide
    · unfold sortOk allB; rw [hs]; simp [h1, h2, Ne.symm h1, Ne.symm h2]
  | [x, y] =>
    have hs : ((sortU [x, y]).length : Int) = 2 ↔ x ≠ y := by
      constructor
      · rintro h rfl
        have : [x] = sortU [x, x] := sortU_of (List.pairwise_singleton _ _) (fun z => by simp)
        rw [← this] at h
        simp at h
      · intro h
        rcases bs_lt_or x y with h1 | h1 | h1
        · have : [x, y] = sortU [x, y] := sortU_of (by simp [Strict, h1]) (fun _ => Iff.rfl)
          rw [← this]; rfl
        · exact absurd h1 h
        · have : [y, x] = sortU [x, y] := sortU_of (by simp [Strict, h1]) (fun z => by simp [or_comm])
          rw [← this]; rfl
    have hd : decide (((sortU [x, y]).length : Int) = (([x, y] : List (List UInt8)).length : Int)) = !decide (x = y) := by
      rw [Bool.eq_iff_iff, decide_eq_true_eq]
      simpa using hs
    rw [hd]
    unfold sortOk allB
    rcases hc x with rfl | rfl | ⟨h1, h2, h1', h2'⟩ <;> rcases hc y with rfl | rfl | ⟨h3, h4, h3', h4'⟩
    all_goals first | decide | simp [*, Ne.symm hne]
  | x :: y :: z :: l =>
    have h1 : decide ((((x :: y :: z :: l).length : Nat) : Int) ≤ 2) = false := decide_eq_false (by simp only [List.length_cons]; omega)
    rw [h1, Bool.false_and, Bool.false_and]
    unfold sortOk
    refine (decide_eq_false ?_).symm
    simp only [List.length_cons]
    split <;> split <;> omega
theorem subP_spec : ∀ (k : Nat) (args : List (List UInt8)) (s : List UInt8), args.length = 2 * k → (∀ x ∈ args, x.length ≤ 20) → s.length * 20 ^ k ≤ 65536 → (subP args s).2 = if evB args = true then .ok else .e 16 := by
  intro k
  induction k with
  | zero =>
    intro args s hl _ _
    obtain rfl : args = [] := List.eq_nil_of_length_eq_zero (by omega)
    rfl
  | succ k ih =>
    intro args s hl hx hs
    match args, hl, hx with
    | a :: b :: r, hl, hx =>
      have hb := hx b (by simp)
      rw [subP_cons]
      by_cases ha : a = []
      · rw [if_pos ha, show evB (a :: b :: r) = (!decide (a = []) && evB r) from rfl, decide_eq_true ha]; rfl
      · have hal : 1 ≤ a.length := List.length_pos_iff.2 ha
        have hc : Lib.count s a * a.length ≤ s.length := Lib.countB_mul_le ⟨⟨a⟩⟩ hal s.length ⟨⟨s⟩⟩ (Nat.le_refl _)
        have hc1 : Lib.count s a * 1 ≤ Lib.count s a * a.length := Nat.mul_le_mul_left _ hal
        have hp : s.length * 20 ^ (k + 1) = (s.length * 20) * 20 ^ k := by rw [Nat.pow_succ]; grind
        have h20 : s.length * 20 * 1 ≤ (s.length * 20) * 20 ^ k := Nat.mul_le_mul_left _ (Nat.one_le_pow _ _ (by omega))
        have hlen := replAll_len s a b ha
        have hcb : Lib.count s a * b.length ≤ Lib.count s a * 20 := Nat.mul_le_mul_left _ hb
        have hno : ¬ ((0 : Int) < (b.length : Int) - (a.length : Int) ∧ (65536 - (s.length : Int)) / ((b.length : Int) - (a.length : Int)) < (Lib.count s a : Int)) := by
          rintro ⟨q1, q2⟩
          have h5 := Int.lt_mul_of_ediv_lt q1 q2
          have h6 : ((Lib.count s a * b.length : Nat) : Int) = (Lib.count s a : Int) * (b.length : Int) := Int.natCast_mul _ _
          have h7 : ((Lib.count s a * a.length : Nat) : Int) = (Lib.count s a : Int) * (a.length : Int) := Int.natCast_mul _ _
          rw [Int.mul_sub] at h5
          omega
        rw [if_neg ha, if_neg hno, show evB (a :: b :: r) = (!decide (a = []) && evB r) from rfl, decide_eq_false ha]
        refine ih r _ (by simp at hl; omega) (fun x h => hx x (by simp [h])) ?_
        have : (Lib.replaceAll s a b).length * 20 ^ k ≤ (s.length * 20) * 20 ^ k := Nat.mul_le_mul_right _ (by omega)
        omega
def goodP (t : Int) (args : List (List UInt8)) : Bool :=
  if t = 1 then decide ((args.length : Int) ≤ 1) else if t = 2 then filtOk args else if t = 3 then decide ((args.length : Int) % 2 = 0) && evB args else if t = 4 then sortOk args else decide ((args.length : Int) = 0)
theorem fit_small {l : List UInt8} (h : l.length ≤ 65536) : (fitP l).2 = .ok := by unfold fitP; rw [if_pos h]
theorem fail_spec {t : Int} {args : List (List UInt8)} (ht : t = 1 ∨ t = 2 ∨ t = 3 ∨ t = 4 ∨ t = 5) (hl : args.length ≤ 6) (hx : ∀ x ∈ args, x.length ≤ 20) : (doP t args [([97, 10] : List UInt8)]).2 = if goodP t args = true then .ok else .e 16 := by
  have hlin : linesA [([97, 10] : List UInt8)] = [[97]] := by decide
  rcases ht with rfl | rfl | rfl | rfl | rfl
  · show (if 1 < args.length then (([] : List UInt8), Er.e 16) else _).2 = if decide ((args.length : Int) ≤ 1) = true then _ else _
    by_cases h : 1 < args.length
    · rw [if_pos h, if_neg (by rw [decide_eq_true_eq]; omega)]
    · have hd : decide ((args.length : Int) ≤ 1) = true := decide_eq_true (by omega)
      rw [if_neg h, hd]
      exact fit_small (by simp [joinE, jnE])
  · show (if (listP 2 args [([97, 10] : List UInt8)]).2 = true then _ else (([] : List UInt8), Er.e 16)).2 = if filtOk args = true then _ else _
    have e : listP 2 args [([97, 10] : List UInt8)] = if filtOk args then ((linesA [([97, 10] : List UInt8)]).filter (filtB args), true) else ([], false) := rfl
    rw [e]
    cases filtOk args with
    | false => rfl
    | true =>
      rw [if_pos rfl, if_pos rfl, if_pos rfl]
      refine fit_small ?_
      rw [hlin]
      cases h : filtB args [97] <;> simp [joinE, jnE, List.filter, h]
  · show (substP args [([97, 10] : List UInt8)]).2 = if (decide ((args.length : Int) % 2 = 0) && evB args) = true then _ else _
    have hj : joinE [([97, 10] : List UInt8)] [] [] = [97, 10] := by simp [joinE, jnE]
    unfold substP
    rw [hj]
    by_cases h : (args.length : Int) % 2 = 0
    · rw [if_pos h, if_neg (by simp), decide_eq_true h, Bool.true_and]
      obtain ⟨k, hk⟩ : ∃ k, args.length = 2 * k := ⟨args.length / 2, by omega⟩
      refine subP_spec k args _ hk hx ?_
      have : k ≤ 3 := by omega
      have h3 : (20 : Nat) ^ k ≤ 20 ^ 3 := Nat.pow_le_pow_right (by omega) this
      show 2 * 20 ^ k ≤ 65536
      omega
    · rw [if_neg h, decide_eq_false h, Bool.false_and]; rfl
  · show (if (listP 4 args [([97, 10] : List UInt8)]).2 = true then _ else (([] : List UInt8), Er.e 16)).2 = if sortOk args = true then _ else _
    have e : listP 4 args [([97, 10] : List UInt8)] = if sortOk args then (sortR args (linesA [([97, 10] : List UInt8)]), true) else ([], false) := rfl
    rw [e]
    cases sortOk args with
    | false => rfl
    | true =>
      rw [if_pos rfl, if_pos rfl, if_pos rfl]
      refine fit_small ?_
      have h1 : sortB [([97] : List UInt8)] = [[97]] := (sortB_of (List.pairwise_singleton _ _) (List.Perm.refl _)).symm
      have h2 : sortU [([97] : List UInt8)] = [[97]] := (sortU_of (List.pairwise_singleton _ _) (fun _ => Iff.rfl)).symm
      rw [hlin]
      unfold sortR
      rw [h1, h2]
      cases args.contains wRev <;> cases args.contains wUni <;> simp [joinE, jnE]
  · show (if (listP 5 args [([97, 10] : List UInt8)]).2 = true then _ else (([] : List UInt8), Er.e 16)).2 = if decide ((args.length : Int) = 0) = true then _ else _
    have e : listP 5 args [([97, 10] : List UInt8)] = (digestsP [([97, 10] : List UInt8)], decide ((args.length : Int) = 0)) := rfl
    rw [e]
    by_cases h : (args.length : Int) = 0
    · rw [decide_eq_true h, if_pos rfl, if_pos rfl]
      refine fit_small ?_
      simp [joinE, jnE, digestsP, hexS_len, shaS_len]
    · rw [decide_eq_false h]; rfl
theorem fail_else {t : Int} {args inputs : List (List UInt8)} (ht : ¬ (t = 1 ∨ t = 2 ∨ t = 3 ∨ t = 4 ∨ t = 5)) : doP t args inputs = ([], .e 10) := by
  unfold doP
  rw [if_neg (by omega), if_neg (by omega), if_neg (by omega)]
theorem number_M {n : Int} {K : Int → Prop} (hn : In .i64 n) (h : ∀ m, 0 ≤ m → m < 3 → K m) : M_smithyworld_Number n 3 K := by
  have h1 : -3 < n.tmod 3 := Int.lt_tmod_of_pos n (by omega)
  have h2 : n.tmod 3 < 3 := Int.tmod_lt_of_pos n (by omega)
  have h3 : (n.tmod 3 + 3).tmod 3 = (n.tmod 3 + 3) % 3 := Int.tmod_eq_emod_of_nonneg (by omega)
  unfold M_smithyworld_Number
  refine ⟨by decide, by simp only [In]; omega, by decide, h _ ?_ ?_⟩ <;> omega
theorem name_none {t : Int} {K : List UInt8 → Prop} (ht : t < 1 ∨ 5 < t) (h : K []) : M_tool_Name t K := by
  have e : (decide (t < (1 : Int)) || decide ((5 : Int) < t)) = true := by
    rw [Bool.or_eq_true, decide_eq_true_eq, decide_eq_true_eq]; exact ht
  exact ⟨fun _ => h, fun h2 => by rw [e] at h2; cases h2⟩
set_option maxRecDepth 20000 in
theorem fails_ok {t : Int} {args : List (List UInt8)} {n : Int} {K : Bool → Prop} (_ : In .i64 t) (_ : ∀ x ∈ args, x.length ≤ maxLen) (hn : In .i64 n) (H : K true) : M_smithylaw23_ToolFails t args n K := by
  intro _
  refine tfirst_M ⟨fun h => (by simp at h), fun _ => vtexts_B (by decide) fun b hb => ⟨fun _ => H, fun h => ?_⟩⟩
  obtain ⟨a1, a2⟩ := hb (by simpa using h)
  have hal : args.length ≤ 6 := by omega
  have hax : ∀ x ∈ args, x.length ≤ 20 := fun x hx => by have := a2 x hx; omega
  refine do_M (fun x hx => by have := hax x hx; omega) (by simp) (by simp) ?_
  by_cases ht : t = 1 ∨ t = 2 ∨ t = 3 ∨ t = 4 ∨ t = 5
  · have spec := fail_spec ht hal hax
    generalize (doP t args [([97, 10] : List UInt8)]).2 = e at *
    generalize (doP t args [([97, 10] : List UInt8)]).1 = r at *
    refine ⟨fun g => g = goodP t args, ⟨fun h1 => ?_, fun h1 => ⟨fun h2 => ⟨fun _ h3 => (by rw [decide_eq_true_eq] at h3; omega), ?_⟩, fun h2 => ⟨fun h3 => ⟨by omega, ?_⟩, fun h3 => ⟨fun h4 => ?_, fun h4 => ⟨fun h5 => ?_, fun h5 => absurd ht (by omega)⟩⟩⟩⟩⟩, ?_⟩
    · subst h1; rfl
    · subst h2; exact filt_is args
    · subst h3
      refine ⟨fun g i => 0 ≤ i ∧ i ≤ args.length + 1 ∧ (g && evB (args.drop i.toNat)) = goodP 3 args, fun _ i => args.length + 1 - i.toNat, ⟨by omega, by omega, rfl⟩, fun g i ⟨b0, b1, b2⟩ => ⟨fun hlt => ⟨fun _ => by omega, by simp only [In]; omega, ⟨by omega, by omega, ?_⟩, by dsimp only; omega⟩, fun hge => ?_⟩⟩
      · rw [evB_drop (by omega)] at b2
        rw [show (i + 2).toNat = i.toNat + 2 by omega, Bool.and_assoc]
        exact b2
      · rw [List.drop_eq_nil_of_le (by omega)] at b2
        show g = _
        rw [← b2]
        exact (Bool.and_true g).symm
    · subst h4
      refine ⟨fun q => q = (decide ((args.length : Int) ≤ 2) && decide (((sortU args).length : Int) = (args.length : Int))), ⟨fun h6 => sortedTexts_M (by omega) (by rw [h6]; rfl), fun h6 => by rw [h6]; rfl⟩, ?_⟩
      rintro q rfl
      refine ⟨fun g i => 0 ≤ i ∧ i ≤ args.length ∧ (g && allB (args.drop i.toNat)) = goodP 4 args, fun _ i => args.length - i.toNat, ⟨by omega, by omega, sort_is args⟩, fun g i ⟨b0, b1, b2⟩ => ⟨fun hlt => ⟨fun _ => by omega, fun _ _ => by omega, by simp only [In]; omega, ⟨by omega, by omega, ?_⟩, by dsimp only; omega⟩, fun hge => ?_⟩⟩
      · rw [allB_drop (by omega)] at b2
        rw [show (i + 1).toNat = i.toNat + 1 by omega, Bool.and_assoc]
        exact b2
      · rw [List.drop_eq_nil_of_le (by omega)] at b2
        show g = _
        rw [← b2]
        exact (Bool.and_true g).symm
    · subst h5; rfl
    · rintro g rfl
      have hJ : ∃ J2 : Bool → Prop, ((((!((decide (e = Er.ok)) == goodP t args)) = true → J2 true) ∧ ((!((decide (e = Er.ok)) == goodP t args)) = false → (((!goodP t args) = true → M_smithysee_Is e (117 : Int) (fun (t132 : Bool) => J2 (!t132))) ∧ ((!goodP t args) = false → J2 false))))) ∧ (∀ q2 : Bool, J2 q2 → q2 = false) := by
        refine ⟨fun q => q = false, ⟨fun h1 => ?_, fun h1 => ⟨fun h2 => ?_, fun _ => rfl⟩⟩, fun q hq => hq⟩
        · rw [spec] at h1
          revert h1
          cases goodP t args <;> simp
        · rw [spec]
          have hg : goodP t args = false := by simpa using h2
          rw [hg]
          exact is_M rfl
      obtain ⟨J2, hJ1, hJ2⟩ := hJ
      refine ⟨J2, hJ1, fun q2 hq2 => ⟨fun h1 => (by rw [hJ2 q2 hq2] at h1; cases h1), fun _ => ⟨by omega, ?_⟩⟩⟩
      refine ⟨fun i half => 0 ≤ i ∧ i ≤ 32768, fun i _ => 32768 - i.toNat, ⟨by omega, by omega⟩, fun i half ⟨b0, b1⟩ hlen => ⟨fun hlt => ⟨by omega, by simp only [In]; omega, ⟨by omega, by omega⟩, by dsimp only; omega⟩, fun hge => number_M hn fun m m0 m3 => ⟨by simp only [List.length_cons, List.length_nil]; omega, ?_⟩⟩⟩
      have hlt : (([97, 98, 99] : List UInt8).take m.toNat).length = m.toNat := by rw [List.length_take]; simp only [List.length_cons, List.length_nil]; omega
      refine do_M (by simp) (by simp) (fun x hx => ?_) ?_
      · simp only [List.mem_cons, List.not_mem_nil, or_false] at hx
        rcases hx with rfl | rfl | rfl <;> omega
      · have hjl : (joinE [half, half, ([97, 98, 99] : List UInt8).take m.toNat] [] []).length = 65536 + m.toNat := by
          simp only [joinE, jnE, List.length_append, if_true, Bool.false_eq_true, if_false, List.length_nil, hlt]
          omega
        have hd : doP 1 [] [half, half, ([97, 98, 99] : List UInt8).take m.toNat] = fitP (joinE [half, half, ([97, 98, 99] : List UInt8).take m.toNat] [] []) := rfl
        rw [hd]
        unfold fitP
        rw [hjl]
        by_cases h0 : m = 0
        · subst h0
          rw [if_pos (by decide)]
          simpa using H
        · rw [if_neg (by omega)]
          simpa [h0] using H
  · rw [fail_else ht]
    refine ⟨fun _ => False, ⟨fun h1 => absurd (.inl h1) ht, fun h1 => ⟨fun h2 => absurd (.inr (.inl h2)) ht, fun h2 => ⟨fun h3 => absurd (.inr (.inr (.inl h3))) ht, fun h3 => ⟨fun h4 => absurd (.inr (.inr (.inr (.inl h4)))) ht, fun h4 => ⟨fun h5 => absurd (.inr (.inr (.inr (.inr h5)))) ht, fun h5 => is_M ⟨fun q => q = true, ⟨fun _ => name_none (by omega) (by simp), fun h6 => ?_⟩, ?_⟩⟩⟩⟩⟩⟩, fun _ h => h.elim⟩
    · simp [isB] at h6
    · rintro q rfl
      exact H
end Go.Proofs.YtilphcippnfklaaGreatDoor
 