/- Texts of this claim, joined by a program: GTl, See, ToolF, KeyB, KeyH, ToolS, ToolT, ToolU. -/
import Derived.Test.YtilphcippnfklaaGreatDoorJ5
/- Printed by a program (wip/vg): what the functions mean, plainly, and their walks. -/
namespace Go.Proofs.YtilphcippnfklaaGreatDoor
open Go Go.RowKit
attribute [local irreducible] WL WC WX WQ WK WJ Yld Eff Ef0 Fn
def M_smithylaw23_ToolFails (t : Int) (args : List (List UInt8)) (n : Int) (K : Bool → Prop) : Prop :=
 (args.length ≤ maxLen →
 M_smithylaw23_first (fun (ok : Bool) =>
 (((!ok) = true → K false) ∧
 ((!ok) = false → M_smithyworld_Texts args (6 : Int) (20 : Int) (fun (t21 : Bool) =>
 ((((!t21) || (!ok)) = true → K ok) ∧
 (((!t21) || (!ok)) = false → M_tool_Do t args ([([97, 10] : List UInt8)] : List (List UInt8)) (fun (t320 : List UInt8) (t321 : Er) =>
 ∃ J1 : Bool → Prop, (((t = (1 : Int) → J1 (decide ((args.length : Int) ≤ (1 : Int)))) ∧
 (¬ (t = (1 : Int)) → ((t = (2 : Int) → ((decide ((args.length : Int) = (1 : Int))) = false → (decide ((args.length : Int) = (2 : Int))) = true → (0 ≤ (1 : Int) ∧ (1 : Int) < (args.length : Nat))) ∧
 J1 ((decide ((args.length : Int) = (1 : Int))) || ((decide ((args.length : Int) = (2 : Int))) && (decide ((args.getD 1 []) = ([110, 111, 116] : List UInt8)))))) ∧
 (¬ (t = (2 : Int)) → ((t = (3 : Int) → (0 ≤ (args.length : Int) ∧ 0 < (2 : Int)) ∧
 Lp2 (fun (good2 : Bool) (i2 : Int) k_2 => ((i2 < (args.length : Int) → (good2 = true → (0 ≤ i2 ∧ i2 < (args.length : Nat))) ∧
 (In .i64 (i2 + (2 : Int))) ∧
 k_2 (good2 && (!decide ((args.getD i2.toNat []) = ([] : List UInt8)))) (i2 + (2 : Int))) ∧
 (¬ (i2 < (args.length : Int)) → J1 good2))) (decide (((args.length : Int) % (2 : Int)) = (0 : Int))) (0 : Int)) ∧
 (¬ (t = (3 : Int)) → ((t = (4 : Int) → ∃ J3 : Bool → Prop, ((((decide ((args.length : Int) ≤ (2 : Int))) = true → M_smithyref_SortedTexts args (fun (t91 : List (List UInt8)) =>
 J3 (decide ((t91.length : Int) = (args.length : Int))))) ∧
 ((decide ((args.length : Int) ≤ (2 : Int))) = false → J3 false))) ∧
 (∀ q5 : Bool, J3 q5 → Lp2 (fun (good3 : Bool) (i3 : Int) k_3 => ((i3 < (args.length : Int) → (good3 = true → (0 ≤ i3 ∧ i3 < (args.length : Nat))) ∧
 (good3 = true → (decide ((args.getD i3.toNat []) = ([114, 101, 118, 101, 114, 115, 101] : List UInt8))) = false → (0 ≤ i3 ∧ i3 < (args.length : Nat))) ∧
 (In .i64 (i3 + (1 : Int))) ∧
 k_3 (good3 && ((decide ((args.getD i3.toNat []) = ([114, 101, 118, 101, 114, 115, 101] : List UInt8))) || (decide ((args.getD i3.toNat []) = ([117, 110, 105, 113, 117, 101] : List UInt8))))) (i3 + (1 : Int))) ∧
 (¬ (i3 < (args.length : Int)) → J1 good3))) q5 (0 : Int))) ∧
 (¬ (t = (4 : Int)) → ((t = (5 : Int) → J1 (decide ((args.length : Int) = (0 : Int)))) ∧
 (¬ (t = (5 : Int)) → M_smithysee_Is t321 (111 : Int) (fun (t37 : Bool) =>
 ∃ J4 : Bool → Prop, (((t37 = true → M_tool_Name t (fun (t40 : List UInt8) =>
 J4 (decide (t40 = ([] : List UInt8))))) ∧
 (t37 = false → J4 false))) ∧
 (∀ q7 : Bool, J4 q7 → K q7))))))))))))) ∧
 (∀ good : Bool, J1 good → ∃ J2 : Bool → Prop, ((((!((decide (t321 = Er.ok)) == good)) = true → J2 true) ∧
 ((!((decide (t321 = Er.ok)) == good)) = false → (((!good) = true → M_smithysee_Is t321 (117 : Int) (fun (t132 : Bool) =>
 J2 (!t132))) ∧
 ((!good) = false → J2 false))))) ∧
 (∀ q2 : Bool, J2 q2 → ((q2 = true → K false) ∧
 (q2 = false → (0 ≤ (32768 : Int) ∧ (32768 : Int) * 1 ≤ 140737488355328 ∧ (32768 : Int) ≤ 140737488355328) ∧
 Lp2 (fun (i : Int) (half : List UInt8) k_1 => 32768 = half.length → ((i < (32768 : Int) → (0 ≤ i ∧ i < (32768 : Nat)) ∧
 (In .i64 (i + (1 : Int))) ∧
 k_1 (i + (1 : Int)) (half.set i.toNat 122)) ∧
 (¬ (i < (32768 : Int)) → M_smithyworld_Number n (3 : Int) (fun (n2 : Int) =>
 (0 ≤ n2 ∧ n2 ≤ ([97, 98, 99] : List UInt8).length) ∧
 M_tool_Do (1 : Int) [] ([half, half, ([97, 98, 99] : List UInt8).take n2.toNat] : List (List UInt8)) (fun (t1560 : List UInt8) (t1561 : Er) =>
 K ((decide (t1561 = Er.ok)) == (decide (n2 = (0 : Int))))))))) (0 : Int) (List.replicate 32768 0)))))))))))))

def M_smithylaw23_ToolSays (t : Int) (args : List (List UInt8)) (inputs : List (List UInt8)) (s : List UInt8) (K : Bool → Prop) : Prop :=
 (args.length ≤ maxLen →
 (inputs.length ≤ maxLen →
 M_smithylaw23_first (fun (ok : Bool) =>
 (((!ok) = true → K false) ∧
 ((!ok) = false → M_smithyworld_Texts args (8 : Int) (100 : Int) (fun (t21 : Bool) =>
 ∃ J1 : Bool → Prop, ((((!t21) = true → J1 true) ∧
 ((!t21) = false → M_smithyworld_Texts inputs (8 : Int) (500 : Int) (fun (t25 : Bool) =>
 J1 (!t25))))) ∧
 (∀ q1 : Bool, J1 q1 → ((((q1 || (decide ((500 : Int) < (s.length : Int)))) || (!ok)) = true → K ok) ∧
 (((q1 || (decide ((500 : Int) < (s.length : Int)))) || (!ok)) = false → M_tool_Do t args inputs (fun (t420 : List UInt8) (t421 : Er) =>
 M_smithyref17_Do t args inputs (fun (t490 : List UInt8) (t491 : Int) =>
 ∃ J2 : (List UInt8) → Prop, (((((decide ((1 : Int) ≤ t)) && (decide (t ≤ (5 : Int)))) = true → (0 ≤ t ∧ t < (6 : Nat)) ∧
 J2 (([([] : List UInt8), ([99, 111, 110, 99, 97, 116] : List UInt8), ([102, 105, 108, 116, 101, 114] : List UInt8), ([115, 117, 98, 115, 116, 105, 116, 117, 116, 101] : List UInt8), ([115, 111, 114, 116] : List UInt8), ([100, 105, 103, 101, 115, 116] : List UInt8)] : List (List UInt8)).getD t.toNat [])) ∧
 (((decide ((1 : Int) ≤ t)) && (decide (t ≤ (5 : Int)))) = false → J2 ([] : List UInt8)))) ∧
 (∀ name : List UInt8, J2 name → M_smithyref_AmongTexts ([([] : List UInt8), ([99, 111, 110, 99, 97, 116] : List UInt8), ([102, 105, 108, 116, 101, 114] : List UInt8), ([115, 117, 98, 115, 116, 105, 116, 117, 116, 101] : List UInt8), ([115, 111, 114, 116] : List UInt8), ([100, 105, 103, 101, 115, 116] : List UInt8)] : List (List UInt8)) s (fun (at_ : Int) =>
 ∃ J3 : Bool → Prop, ((((decide (t420 = t490)) = true → M_smithysee_Is t421 t491 (fun (t72 : Bool) =>
 J3 t72)) ∧
 ((decide (t420 = t490)) = false → J3 false))) ∧
 (∀ q4 : Bool, J3 q4 → ∃ J4 : Bool → Prop, (((q4 = true → M_tool_Name t (fun (t76 : List UInt8) =>
 J4 (decide (t76 = name)))) ∧
 (q4 = false → J4 false))) ∧
 (∀ q5 : Bool, J4 q5 → ∃ J5 : Bool → Prop, (((q5 = true → M_tool_Tool s (fun (t82 : Int) =>
 J5 (decide (t82 = (if at_ < (0 : Int) then (0 : Int) else at_))))) ∧
 (q5 = false → J5 false))) ∧
 (∀ q6 : Bool, J5 q6 → ∃ J6 : Bool → Prop, (((q6 = true → M_tool_Lines s (fun (t89 : List (List UInt8)) =>
 M_smithyref17_Lines s (fun (t91 : List (List UInt8)) =>
 M_smithyref_SameTexts t89 t91 (fun (t92 : Bool) =>
 J6 t92)))) ∧
 (q6 = false → J6 false))) ∧
 (∀ q7 : Bool, J6 q7 → K q7)))))))))))))))))

set_option maxHeartbeats 8000000 in
theorem W_smithylaw23_ToolFails {S : List Nat} {w : World} {t : Int} {args : List (List UInt8)} {A_args : Option Addr} {c_args : Nat} {n : Int} {n_args : Nat} {K : Bool → Prop} (hG : GOK S w) (hS0 : 0 ∈ S) (hS1 : 1 ∈ S) (hS2 : 2 ∈ S) (hS3 : 3 ∈ S) (hS4 : 4 ∈ S) (hS5 : 5 ∈ S) (hS6 : 6 ∈ S) (hS7 : 7 ∈ S) (hS8 : 8 ∈ S) (hS9 : 9 ∈ S) (hS10 : 10 ∈ S) (hS11 : 11 ∈ S) (hS12 : 12 ∈ S) (hS13 : 13 ∈ S) (hS14 : 14 ∈ S) (hS15 : 15 ∈ S) (hS16 : 16 ∈ S) (hS100 : 100 ∈ S) (hargs : Rd vs w A_args c_args args) (hn_args : n_args = args.length) (H : M_smithylaw23_ToolFails t args n K) : Fn Tryz.prog 3 ⟨[.int .i64 t, .slice A_args n_args c_args, .int .i64 n]⟩ w (fun v w' => w.grownBy w' none ∧ ∃ (r : Bool), v = .bool r ∧ K r) := by
  subst hn_args
  unfold M_smithylaw23_ToolFails at H
  refine Fn.enter (by kernel_rfl) Tryz.func3 rfl Tryz.ntmps3 rfl ?_
  replace H := H (Nat.le_trans hargs.cap hargs.max)
  refine WC.seq ?_
  refine WC.region ?_
  refine WL.y rfl (Yld.pure tab_ok rfl) ?_
  refine WL.nil (WX.then_normal ?_)
  refine WC.seq ?_
  refine WC.region ?_
  refine WL.call rfl rfl (W_smithylaw23_first hG hS10 hS16 hS100 H) ?_
  rintro _ w1 ⟨hg1, ok, rfl, H⟩
  have gr1 := hg1
  refine WL.y rfl (Yld.pure tab_ok rfl) ?_
  refine WL.nil (WX.then_normal ?_)
  refine WC.seq ?_
  refine WC.seq ?_
  refine WC.region ?_
  refine WL.y rfl (Yld.pure tab_ok rfl) ?_
  refine WL.y rfl (Yld.pure tab_ok rfl) ?_
  refine WL.nil (WX.then_normal ?_)
  refine WC.cond rfl (fun b1 => ?_) (fun b1 => ?_)
  · replace H := H.1 (b1)
    refine WC.seq ?_
    refine WC.region ?_
    refine WL.y rfl (Yld.pure tab_ok rfl) ?_
    refine WL.nil (WX.then_normal ?_)
    refine WC.ret (WX.then_ret ?_)
    exact WX.ret1 rfl rfl ⟨gr1, false, rfl, H⟩
  · replace H := H.2 (b1)
    refine WC.skip (WX.then_normal ?_)
    refine WC.seq ?_
    refine WC.seq ?_
    refine WC.region ?_
    refine WL.y rfl (Yld.pure tab_ok rfl) ?_
    refine WL.call rfl rfl (W_smithyworld_Texts (hargs.grown gr1) rfl H) ?_
    rintro _ _ ⟨rfl, t21, rfl, H⟩
    refine WL.y rfl (Yld.pure tab_ok rfl) ?_
    refine WL.y rfl (Yld.pure tab_ok rfl) ?_
    refine WL.midF 3 (fun L' w' => ∃ q1 : Bool, L' = [(26, .bool q1), (0, .int .i64 t), (1, .slice A_args args.length c_args), (2, .int .i64 n), (7, .bool ok)] ∧ q1 = ((!t21) || (!ok)) ∧ w1 = w') ?_ (fun hQ => ?_)
    · rintro _ _ ⟨q1, rfl, rfl, rfl⟩
      refine WL.nil (WX.then_normal ?_)
      refine WC.cond rfl (fun b2 => ?_) (fun b2 => ?_)
      · replace H := H.1 (b2)
        refine WC.seq ?_
        refine WC.region ?_
        refine WL.y rfl (Yld.pure tab_ok rfl) ?_
        refine WL.y rfl (Yld.pure tab_ok rfl) ?_
        refine WL.nil (WX.then_normal ?_)
        refine WC.ret (WX.then_ret ?_)
        exact WX.ret1 rfl rfl ⟨gr1, ok, rfl, H⟩
      · replace H := H.2 (b2)
        refine WC.skip (WX.then_normal ?_)
        refine WC.seq ?_
        refine WC.region ?_
        refine WL.y rfl (Yld.pure tab_ok rfl) ?_
        refine WL.y rfl (Yld.pure tab_ok rfl) ?_
        refine WL.lit tab_ok rfl rfl rfl (all1c rfl all1n) rfl (by omega) (fun g1 w2 hB1 hg2 hl1 => ?_)
        have hO1 : Own vs w2 w.heap.size 9 (some ⟨g1, 0, none⟩) 1 ([([97, 10] : List UInt8)] : List (List UInt8)) := Own.ofBl hB1 (Nat.le_trans (size_le gr1) hl1) (by simp [maxLen]) rfl
        have gr2 := gr_trans gr1 hg2
        refine WL.call rfl rfl (W_tool_Do (hG.grown gr2) hS10 hS16 hS100 (hargs.grown gr2) rfl hO1.rd rfl H) ?_
        rintro _ w3 ⟨hg3, t320, v_t321, t321, rfl, ht321, H⟩
        have gr3 := gr_trans gr2 hg3
        refine WL.y rfl (Yld.pure tab_ok rfl) ?_
        refine WL.y rfl (Yld.pure tab_ok rfl) ?_
        refine WL.y rfl (Yld.pure tab_ok rfl) ?_
        refine WL.y rfl (Yld.pure tab_ok rfl) ?_
        refine WL.y rfl (Yld.pure tab_ok rfl) ?_
        refine WL.nil (WX.then_normal ?_)
        refine WC.seq ?_
        refine WC.region ?_
        refine WL.y rfl (Yld.pure tab_ok rfl) ?_
        refine WL.nil (WX.then_normal ?_)
        refine WC.seq ?_
        obtain ⟨J1, H, hJ1⟩ := H
        refine WC.midF (fun L' w' => ∃ (good : Bool), L' = [(2, .int .i64 n), (9, v_t321), (10, .bool good)] ∧ J1 good ∧ w.grownBy w' none ∧ ErrR S w' v_t321 t321) ?_ (fun hQ => ?_)
        · clear H
          rintro _ w4 ⟨good, rfl, H, gr4, k1⟩
          replace H := hJ1 good H
          refine WX.then_normal ?_
          refine WC.seq ?_
          refine WC.seq ?_
          refine WC.region ?_
          refine WL.y rfl (Yld.pure tab_ok rfl) ?_
          refine WL.y rfl (Yld.erreql Tryz.underlying26 k1 rfl) ?_
          refine WL.y rfl (Yld.pure tab_ok rfl) ?_
          refine WL.y rfl (Yld.bneq Tryz.underlying4 rfl rfl) ?_
          refine WL.y rfl (Yld.pure tab_ok rfl) ?_
          obtain ⟨J2, H, hJ2⟩ := H
          refine WL.midF 8 (fun L' w' => ∃ q2 : Bool, L' = [(135, .bool q2), (2, .int .i64 n)] ∧ J2 q2 ∧ w.grownBy w' none) ?_ (fun hQ => ?_)
          · clear H
            rintro _ w5 ⟨q2, rfl, H, gr5⟩
            replace H := hJ2 q2 H
            refine WL.nil (WX.then_normal ?_)
            refine WC.cond rfl (fun b3 => ?_) (fun b3 => ?_)
            · replace H := H.1 (b3)
              refine WC.seq ?_
              refine WC.region ?_
              refine WL.y rfl (Yld.pure tab_ok rfl) ?_
              refine WL.nil (WX.then_normal ?_)
              refine WC.ret (WX.then_ret ?_)
              exact WX.ret1 rfl rfl ⟨gr5, false, rfl, H⟩
            · replace H := H.2 (b3)
              refine WC.skip (WX.then_normal ?_)
              refine WC.seq ?_
              refine WC.region ?_
              obtain ⟨h1, H⟩ := H
              refine WL.makeZI (f := vb) (z := 0) (B := w.heap.size) tab_ok rfl rfl zero5 rfl rfl h1.1 h1.2.1 h1.2.2 (size_le gr5) (fun g2 w6 hO2 hg4 hl2 => ?_)
              have gr6 := gr_trans gr5 hg4
              refine WL.y rfl (Yld.pure tab_ok rfl) ?_
              refine WL.nil (WX.then_normal ?_)
              refine WC.seq ?_
              refine WC.seq ?_
              refine WC.region ?_
              refine WL.y rfl (Yld.pure tab_ok rfl) ?_
              refine WL.nil (WX.then_normal ?_)
              refine WC.block ?_
              obtain ⟨I1, mu1, h0_1, HR1⟩ := H
              refine WC.loopF (fun n' L' w' => ∃ (i : Int), ∃ (half : List UInt8), n' = mu1 i half ∧ L' = [(2, .int .i64 n), (13, .slice (some ⟨g2, 0, none⟩) 32768 32768), (14, .int .i64 i)] ∧ I1 i half ∧ 32768 = half.length ∧ w.grownBy w' none ∧ Own vb w' w.heap.size 5 (some ⟨g2, 0, none⟩) 32768 half) _ _ ⟨(0 : Int), (List.replicate 32768 0), rfl, rfl, h0_1, (List.length_replicate).symm, gr6, hO2⟩ (by repeat (first | exact Sub.nil | refine Sub.cons rfl ?_)) ?_
              clear h0_1
              rintro _ _ w7 ⟨i, half, rfl, rfl, hI1, hn_half, gr7, k2⟩
              have H := HR1 i half hI1
              replace H := H hn_half
              refine WC.seq ?_
              refine WC.seq ?_
              refine WC.region ?_
              refine WL.y rfl (Yld.pure tab_ok rfl) ?_
              refine WL.y rfl (Yld.pure tab_ok rfl) ?_
              refine WL.y rfl (Yld.pure tab_ok rfl) ?_
              refine WL.y rfl (Yld.pure tab_ok rfl) ?_
              refine WL.nil (WX.then_normal ?_)
              refine WC.cond rfl (fun b4 => ?_) (fun b4 => ?_)
              · replace H := H.1 (of_decide_eq_true b4)
                refine WC.skip (WX.then_normal ?_)
                refine WC.seq ?_
                refine WC.block ?_
                refine WC.region ?_
                refine WL.y rfl (Yld.pure tab_ok rfl) ?_
                refine WL.y rfl (Yld.pure tab_ok rfl) ?_
                obtain ⟨h2, H⟩ := H
                refine WL.y rfl (Yld.iaddrW tab_ok k2.rd rfl rfl hn_half rfl h2.1 h2.2) ?_
                refine WL.ostore (v := 122) one5 One.b k2 rfl rfl (iltN h2 hn_half) (fun w8 hO3 hg5 => ?_)
                have gr8 := gr_mod gr7 hg5 k2.ge'
                refine WL.nil (WX.block_normal (WX.then_normal ?_))
                refine WC.region ?_
                refine WL.y rfl (Yld.pure tab_ok rfl) ?_
                obtain ⟨h3, H⟩ := H
                refine WL.y rfl (Yld.add rfl rfl h3) ?_
                refine WL.y rfl (Yld.pure tab_ok rfl) ?_
                refine WL.nil ?_
                exact WX.roundF _ ⟨i + (1 : Int), half.set i.toNat 122, rfl, rfl, H.1, (hn_half.trans List.length_set.symm), gr8, hO3⟩ (by repeat (first | exact Sub.nil | refine Sub.cons rfl ?_)) H.2
              · replace H := H.2 (of_decide_eq_false b4)
                refine WC.exit (WX.then_exit (WX.then_exit (WX.block_same (WX.then_normal ?_))))
                refine WC.seq ?_
                refine WC.region ?_
                refine WL.y rfl (Yld.pure tab_ok rfl) ?_
                refine WL.call rfl rfl (W_smithyworld_Number H) ?_
                rintro _ _ ⟨rfl, n2, rfl, H⟩
                refine WL.y rfl (Yld.pure tab_ok rfl) ?_
                refine WL.nil (WX.then_normal ?_)
                refine WC.seq ?_
                refine WC.chainF (fun k => !(Nat.beq k 6 || Nat.beq k 7)) (LD [1, 3] (fun w' => Rd vb w' (some ⟨g2, 0, none⟩) 32768 half)) mixed (by kernel_rfl) (fun k w' h _ => (rd_eqv h k2.rd)) ?_
                refine WJ.y rfl rfl (fun w' hw' => Yld.pure tab_ok rfl) ?_
                refine WJ.y rfl rfl (fun w' hw' => Yld.b2s tab_ok (hw' rfl) rfl rfl rfl rfl hn_half) ?_
                refine WJ.y rfl rfl (fun w' hw' => Yld.pure tab_ok rfl) ?_
                refine WJ.y rfl rfl (fun w' hw' => Yld.b2s tab_ok (hw' rfl) rfl rfl rfl rfl hn_half) ?_
                refine WJ.y rfl rfl (fun w' hw' => Yld.pure tab_ok rfl) ?_
                obtain ⟨h4, H⟩ := H
                refine WJ.y rfl rfl (fun w' hw' => Yld.scut tab_ok rfl rfl rfl rfl (Int.le_refl 0) h4.1 h4.2) ?_
                refine WJ.putw rfl (wants_none) rfl (Eff.lit tab_ok rfl rfl (all1c rfl (all1c rfl (all1c rfl all1n))) rfl (by omega)) (fun v w' ⟨_, _, h⟩ => DD.keep (Rd.grown k2.rd (gr_eqv h (Eqv.refl _)))) ?_
                rintro _ w9 ⟨rfl, hB2, hg6⟩
                obtain ⟨g_t155, hl3⟩ : ∃ g, g = w7.heap.size := ⟨_, rfl⟩
                rw [← hl3] at hB2
                rw [← hl3]
                have hO4 : Own vs w9 w.heap.size 9 (some ⟨g_t155, 0, none⟩) 3 ([half, half, ([97, 98, 99] : List UInt8).take n2.toNat] : List (List UInt8)) := Own.ofBl hB2 (Nat.le_trans (size_le gr7) (Nat.le_of_eq hl3.symm)) (by simp [maxLen]) rfl
                have gr9 := gr_trans gr7 hg6
                have k3 := k2.grown hg6
                refine WJ.call rfl (wants_none) rfl rfl (W_tool_Do (hG.grown gr9) hS10 hS16 hS100 (Own.nil vs w9 w.heap.size 9).rd rfl hO4.rd rfl H) (fun v w' h w2 e => DD.keep (Rd.grown k3.rd (gr_eqv h.1 e))) ?_
                rintro _ w10 ⟨hg7, t1560, v_t1561, t1561, rfl, ht1561, H⟩
                have gr10 := gr_trans gr9 hg7
                have k4 := k3.grown hg7
                refine WJ.y rfl rfl (fun w' hw' => Yld.pure tab_ok rfl) ?_
                refine WJ.y rfl rfl (fun w' hw' => Yld.pure tab_ok rfl) ?_
                refine WJ.y rfl rfl (fun w' hw' => Yld.pure tab_ok rfl) ?_
                refine WJ.y rfl rfl (fun w' hw' => Yld.pure tab_ok rfl) ?_
                refine WJ.y rfl rfl (fun w' hw' => Yld.pure tab_ok rfl) ?_
                refine WJ.nil (WX.then_normal ?_)
                refine WC.seq ?_
                refine WC.region ?_
                refine WL.y rfl (Yld.pure tab_ok rfl) ?_
                refine WL.y rfl (Yld.erreql Tryz.underlying26 ht1561 rfl) ?_
                refine WL.y rfl (Yld.pure tab_ok rfl) ?_
                refine WL.y rfl (Yld.pure tab_ok rfl) ?_
                refine WL.y rfl (Yld.beql Tryz.underlying4 rfl rfl) ?_
                refine WL.y rfl (Yld.pure tab_ok rfl) ?_
                refine WL.nil (WX.then_normal ?_)
                refine WC.ret ?_
                exact WX.ret1 rfl rfl ⟨gr10, (decide (t1561 = Er.ok)) == (decide (n2 = (0 : Int))), rfl, H⟩
          · clear hJ2
            rcases Bool.eq_false_or_eq_true (!((decide (t321 = Er.ok)) == good)) with b5 | b5
            · replace H := H.1 b5
              refine WL.gno rfl rfl (okb b5) rfl ?_
              refine WL.gno rfl rfl (okb b5) rfl ?_
              refine WL.gno rfl rfl (okb b5) rfl ?_
              refine WL.gun rfl rfl rfl rfl ?_
              refine WL.gun rfl rfl rfl rfl ?_
              refine WL.gun rfl rfl rfl rfl ?_
              refine WL.gno rfl rfl (okb b5) rfl ?_
              refine WL.y rfl (Yld.pickT (okb b5) rfl) ?_
              exact WL.weaken (by repeat (first | exact Sub.nil | refine Sub.cons rfl ?_)) (hQ _ _ ⟨true, rfl, H, gr4⟩)
            · replace H := H.2 b5
              refine WL.gyes rfl rfl (okb b5) rfl (Yld.pure tab_ok rfl) ?_
              refine WL.gyes rfl rfl (okb b5) rfl (Yld.pure tab_ok rfl) ?_
              refine WL.gyes rfl rfl (okb b5) rfl (Yld.pure tab_ok rfl) ?_
              rcases Bool.eq_false_or_eq_true (!good) with b6 | b6
              · replace H := H.1 b6
                refine WL.gyes rfl rfl (okb b6) rfl (Yld.pure tab_ok rfl) ?_
                refine WL.callw (wants_some rfl rfl (okb b6)) rfl rfl (W_smithysee_Is (hG.grown gr4) hS0 hS1 hS2 hS3 hS4 hS5 hS6 hS7 hS8 hS9 hS10 hS11 hS12 hS13 hS14 hS15 hS16 k1 H) ?_
                rintro _ w11 ⟨hg8, t132, rfl, H⟩
                have gr11 := gr_trans gr4 hg8
                have k5 := k1.grown hg8
                refine WL.gyes rfl rfl (okb b6) rfl (Yld.pure tab_ok rfl) ?_
                refine WL.gyes rfl rfl (okb b5) rfl (Yld.pickT (okb b6) rfl) ?_
                refine WL.y rfl (Yld.pickF (okb b5) rfl) ?_
                exact WL.weaken (by repeat (first | exact Sub.nil | refine Sub.cons rfl ?_)) (hQ _ _ ⟨!t132, rfl, H, gr11⟩)
              · replace H := H.2 b6
                refine WL.gno rfl rfl (okb b6) rfl ?_
                refine WL.gno rfl rfl (okb b6) rfl ?_
                refine WL.gno rfl rfl (okb b6) rfl ?_
                refine WL.gyes rfl rfl (okb b5) rfl (Yld.pickF (okb b6) rfl) ?_
                refine WL.y rfl (Yld.pickF (okb b5) rfl) ?_
                exact WL.weaken (by repeat (first | exact Sub.nil | refine Sub.cons rfl ?_)) (hQ _ _ ⟨false, rfl, H, gr4⟩)
        · clear hJ1
          refine WC.seq ?_
          refine WC.region ?_
          refine WL.y rfl (Yld.pure tab_ok rfl) ?_
          refine WL.nil (WX.then_normal ?_)
          refine WC.block ?_
          refine WC.seq ?_
          refine WC.region ?_
          refine WL.y rfl (Yld.pure tab_ok rfl) ?_
          refine WL.y rfl (Yld.pure tab_ok rfl) ?_
          refine WL.nil (WX.then_normal ?_)
          refine WC.cond rfl (fun b7 => ?_) (fun b7 => ?_)
          · replace H := H.1 (of_decide_eq_true b7)
            refine WC.region ?_
            refine WL.y rfl (Yld.pure tab_ok rfl) ?_
            refine WL.y rfl (Yld.pure tab_ok rfl) ?_
            refine WL.y rfl (Yld.pure tab_ok rfl) ?_
            refine WL.y rfl (Yld.pure tab_ok rfl) ?_
            refine WL.nil (WX.block_normal ?_)
            exact WX.weaken (by repeat (first | exact Sub.nil | refine Sub.cons rfl ?_)) (hQ _ _ ⟨decide ((args.length : Int) ≤ (1 : Int)), rfl, H, gr3, ht321⟩)
          · replace H := H.2 (of_decide_eq_false b7)
            refine WC.seq ?_
            refine WC.region ?_
            refine WL.y rfl (Yld.pure tab_ok rfl) ?_
            refine WL.y rfl (Yld.pure tab_ok rfl) ?_
            refine WL.nil (WX.then_normal ?_)
            refine WC.cond rfl (fun b8 => ?_) (fun b8 => ?_)
            · replace H := H.1 (of_decide_eq_true b8)
              refine WC.region ?_
              refine WL.y rfl (Yld.pure tab_ok rfl) ?_
              refine WL.y rfl (Yld.pure tab_ok rfl) ?_
              refine WL.y rfl (Yld.pure tab_ok rfl) ?_
              refine WL.y rfl (Yld.pure tab_ok rfl) ?_
              obtain ⟨h5, H⟩ := H
              refine WL.midF 10 (fun L' w' => ∃ q3 : Bool, L' = [(63, .bool q3), (2, .int .i64 n), (9, v_t321)] ∧ q3 = ((decide ((args.length : Int) = (1 : Int))) || ((decide ((args.length : Int) = (2 : Int))) && (decide ((args.getD 1 []) = ([110, 111, 116] : List UInt8))))) ∧ w3 = w') ?_ (fun hQ => ?_)
              · rintro _ _ ⟨q3, rfl, rfl, rfl⟩
                refine WL.y rfl (Yld.pure tab_ok rfl) ?_
                refine WL.nil (WX.block_normal ?_)
                exact WX.weaken (by repeat (first | exact Sub.nil | refine Sub.cons rfl ?_)) (hQ _ _ ⟨(decide ((args.length : Int) = (1 : Int))) || ((decide ((args.length : Int) = (2 : Int))) && (decide ((args.getD 1 []) = ([110, 111, 116] : List UInt8)))), rfl, H, gr3, ht321⟩)
              · clear H
                rcases Bool.eq_false_or_eq_true (decide ((args.length : Int) = (1 : Int))) with b9 | b9
                · refine WL.gno rfl rfl (okb b9) rfl ?_
                  refine WL.gno rfl rfl (okb b9) rfl ?_
                  refine WL.gno rfl rfl (okb b9) rfl ?_
                  refine WL.gno rfl rfl (okb b9) rfl ?_
                  refine WL.gun rfl rfl rfl rfl ?_
                  refine WL.gun rfl rfl rfl rfl ?_
                  refine WL.gun rfl rfl rfl rfl ?_
                  refine WL.gun rfl rfl rfl rfl ?_
                  refine WL.gno rfl rfl (okb b9) rfl ?_
                  refine WL.y rfl (Yld.pickT (okb b9) rfl) ?_
                  exact WL.weaken (by repeat (first | exact Sub.nil | refine Sub.cons rfl ?_)) (hQ _ _ ⟨true, rfl, by rw [b9] <;> rfl, rfl⟩)
                · refine WL.gyes rfl rfl (okb b9) rfl (Yld.pure tab_ok rfl) ?_
                  refine WL.gyes rfl rfl (okb b9) rfl (Yld.pure tab_ok rfl) ?_
                  refine WL.gyes rfl rfl (okb b9) rfl (Yld.pure tab_ok rfl) ?_
                  refine WL.gyes rfl rfl (okb b9) rfl (Yld.pure tab_ok rfl) ?_
                  rcases Bool.eq_false_or_eq_true (decide ((args.length : Int) = (2 : Int))) with b10 | b10
                  · refine WL.gyes rfl rfl (okb b10) rfl (Yld.pure tab_ok rfl) ?_
                    refine WL.gyes rfl rfl (okb b10) rfl (Yld.iaddrW tab_ok (hargs.grown gr3) rfl rfl rfl rfl (h5 b9 b10).1 (h5 b9 b10).2) ?_
                    refine WL.gyes rfl rfl (okb b10) rfl (Yld.iload [] tab_ok (hargs.grown gr3) rfl rfl (iltN (h5 b9 b10) rfl)) ?_
                    refine WL.gyes rfl rfl (okb b10) rfl (Yld.pure tab_ok rfl) ?_
                    refine WL.gyes rfl rfl (okb b9) rfl (Yld.pickT (okb b10) rfl) ?_
                    refine WL.y rfl (Yld.pickF (okb b9) rfl) ?_
                    exact WL.weaken (by repeat (first | exact Sub.nil | refine Sub.cons rfl ?_)) (hQ _ _ ⟨decide ((args.getD 1 []) = ([110, 111, 116] : List UInt8)), rfl, by rw [b9, b10] <;> rfl, rfl⟩)
                  · refine WL.gno rfl rfl (okb b10) rfl ?_
                    refine WL.gno rfl rfl (okb b10) rfl ?_
                    refine WL.gno rfl rfl (okb b10) rfl ?_
                    refine WL.gno rfl rfl (okb b10) rfl ?_
                    refine WL.gyes rfl rfl (okb b9) rfl (Yld.pickF (okb b10) rfl) ?_
                    refine WL.y rfl (Yld.pickF (okb b9) rfl) ?_
                    exact WL.weaken (by repeat (first | exact Sub.nil | refine Sub.cons rfl ?_)) (hQ _ _ ⟨false, rfl, by rw [b9, b10] <;> rfl, rfl⟩)
            · replace H := H.2 (of_decide_eq_false b8)
              refine WC.seq ?_
              refine WC.region ?_
              refine WL.y rfl (Yld.pure tab_ok rfl) ?_
              refine WL.y rfl (Yld.pure tab_ok rfl) ?_
              refine WL.nil (WX.then_normal ?_)
              refine WC.cond rfl (fun b11 => ?_) (fun b11 => ?_)
              · replace H := H.1 (of_decide_eq_true b11)
                refine WC.seq ?_
                refine WC.region ?_
                refine WL.y rfl (Yld.pure tab_ok rfl) ?_
                refine WL.y rfl (Yld.pure tab_ok rfl) ?_
                obtain ⟨h6, H⟩ := H
                refine WL.y rfl (Yld.rem rfl rfl h6.1 h6.2) ?_
                refine WL.y rfl (Yld.pure tab_ok rfl) ?_
                refine WL.y rfl (Yld.pure tab_ok rfl) ?_
                refine WL.nil (WX.then_normal ?_)
                refine WC.seq ?_
                refine WC.region ?_
                refine WL.y rfl (Yld.pure tab_ok rfl) ?_
                refine WL.nil (WX.then_normal ?_)
                refine WC.block ?_
                obtain ⟨I2, mu2, h0_2, HR2⟩ := H
                refine WC.loopF (fun n' L' w' => ∃ (good2 : Bool), ∃ (i2 : Int), n' = mu2 good2 i2 ∧ L' = [(1, .slice A_args args.length c_args), (2, .int .i64 n), (9, v_t321), (10, .bool good2), (11, .int .i64 i2)] ∧ I2 good2 i2 ∧ w3 = w') _ _ ⟨decide (((args.length : Int) % (2 : Int)) = (0 : Int)), (0 : Int), rfl, rfl, h0_2, rfl⟩ (by repeat (first | exact Sub.nil | refine Sub.cons rfl ?_)) ?_
                clear h0_2
                rintro _ _ _ ⟨good2, i2, rfl, rfl, hI2, rfl⟩
                have H := HR2 good2 i2 hI2
                refine WC.seq ?_
                refine WC.seq ?_
                refine WC.region ?_
                refine WL.y rfl (Yld.pure tab_ok rfl) ?_
                refine WL.y rfl (Yld.pure tab_ok rfl) ?_
                refine WL.y rfl (Yld.pure tab_ok rfl) ?_
                refine WL.y rfl (Yld.pure tab_ok rfl) ?_
                refine WL.nil (WX.then_normal ?_)
                refine WC.cond rfl (fun b12 => ?_) (fun b12 => ?_)
                · replace H := H.1 (of_decide_eq_true b12)
                  refine WC.skip (WX.then_normal ?_)
                  refine WC.seq ?_
                  refine WC.block ?_
                  refine WC.region ?_
                  refine WL.y rfl (Yld.pure tab_ok rfl) ?_
                  refine WL.y rfl (Yld.pure tab_ok rfl) ?_
                  obtain ⟨h7, H⟩ := H
                  refine WL.midF 6 (fun L' w' => ∃ q4 : Bool, L' = [(83, .bool q4), (1, .slice A_args args.length c_args), (2, .int .i64 n), (9, v_t321), (11, .int .i64 i2)] ∧ q4 = (good2 && (!decide ((args.getD i2.toNat []) = ([] : List UInt8)))) ∧ w3 = w') ?_ (fun hQ => ?_)
                  · rintro _ _ ⟨q4, rfl, rfl, rfl⟩
                    refine WL.y rfl (Yld.pure tab_ok rfl) ?_
                    refine WL.nil (WX.block_normal (WX.then_normal ?_))
                    refine WC.region ?_
                    refine WL.y rfl (Yld.pure tab_ok rfl) ?_
                    obtain ⟨h8, H⟩ := H
                    refine WL.y rfl (Yld.add rfl rfl h8) ?_
                    refine WL.y rfl (Yld.pure tab_ok rfl) ?_
                    refine WL.nil ?_
                    exact WX.roundF _ ⟨good2 && (!decide ((args.getD i2.toNat []) = ([] : List UInt8))), i2 + (2 : Int), rfl, rfl, H.1, rfl⟩ (by repeat (first | exact Sub.nil | refine Sub.cons rfl ?_)) H.2
                  · clear H
                    rcases Bool.eq_false_or_eq_true (good2) with b13 | b13
                    · refine WL.gyes rfl rfl (okb b13) rfl (Yld.pure tab_ok rfl) ?_
                      refine WL.gyes rfl rfl (okb b13) rfl (Yld.pure tab_ok rfl) ?_
                      refine WL.gyes rfl rfl (okb b13) rfl (Yld.iaddrW tab_ok (hargs.grown gr3) rfl rfl rfl rfl (h7 b13).1 (h7 b13).2) ?_
                      refine WL.gyes rfl rfl (okb b13) rfl (Yld.iload [] tab_ok (hargs.grown gr3) rfl rfl (iltN (h7 b13) rfl)) ?_
                      refine WL.gyes rfl rfl (okb b13) rfl (Yld.pure tab_ok rfl) ?_
                      refine WL.y rfl (Yld.pickT (okb b13) rfl) ?_
                      exact WL.weaken (by repeat (first | exact Sub.nil | refine Sub.cons rfl ?_)) (hQ _ _ ⟨!decide ((args.getD i2.toNat []) = ([] : List UInt8)), rfl, by rw [b13] <;> rfl, rfl⟩)
                    · refine WL.gno rfl rfl (okb b13) rfl ?_
                      refine WL.gno rfl rfl (okb b13) rfl ?_
                      refine WL.gno rfl rfl (okb b13) rfl ?_
                      refine WL.gno rfl rfl (okb b13) rfl ?_
                      refine WL.gno rfl rfl (okb b13) rfl ?_
                      refine WL.y rfl (Yld.pickF (okb b13) rfl) ?_
                      exact WL.weaken (by repeat (first | exact Sub.nil | refine Sub.cons rfl ?_)) (hQ _ _ ⟨false, rfl, by rw [b13] <;> rfl, rfl⟩)
                · replace H := H.2 (of_decide_eq_false b12)
                  refine WC.exit (WX.then_exit (WX.then_exit (WX.block_same (WX.block_normal ?_))))
                  exact WX.weaken (by repeat (first | exact Sub.nil | refine Sub.cons rfl ?_)) (hQ _ _ ⟨good2, rfl, H, gr3, ht321⟩)
              · replace H := H.2 (of_decide_eq_false b11)
                refine WC.seq ?_
                refine WC.region ?_
                refine WL.y rfl (Yld.pure tab_ok rfl) ?_
                refine WL.y rfl (Yld.pure tab_ok rfl) ?_
                refine WL.nil (WX.then_normal ?_)
                refine WC.cond rfl (fun b14 => ?_) (fun b14 => ?_)
                · replace H := H.1 (of_decide_eq_true b14)
                  refine WC.seq ?_
                  refine WC.region ?_
                  refine WL.y rfl (Yld.pure tab_ok rfl) ?_
                  refine WL.y rfl (Yld.pure tab_ok rfl) ?_
                  refine WL.y rfl (Yld.pure tab_ok rfl) ?_
                  refine WL.y rfl (Yld.pure tab_ok rfl) ?_
                  obtain ⟨J3, H, hJ3⟩ := H
                  refine WL.midF 7 (fun L' w' => ∃ q5 : Bool, L' = [(96, .bool q5), (1, .slice A_args args.length c_args), (2, .int .i64 n), (9, v_t321)] ∧ J3 q5 ∧ w.grownBy w' none ∧ ErrR S w' v_t321 t321) ?_ (fun hQ => ?_)
                  · clear H
                    rintro _ w12 ⟨q5, rfl, H, gr12, k6⟩
                    replace H := hJ3 q5 H
                    refine WL.y rfl (Yld.pure tab_ok rfl) ?_
                    refine WL.nil (WX.then_normal ?_)
                    refine WC.seq ?_
                    refine WC.region ?_
                    refine WL.y rfl (Yld.pure tab_ok rfl) ?_
                    refine WL.nil (WX.then_normal ?_)
                    refine WC.block ?_
                    obtain ⟨I3, mu3, h0_3, HR3⟩ := H
                    refine WC.loopF (fun n' L' w' => ∃ (good3 : Bool), ∃ (i3 : Int), n' = mu3 good3 i3 ∧ L' = [(1, .slice A_args args.length c_args), (2, .int .i64 n), (9, v_t321), (10, .bool good3), (12, .int .i64 i3)] ∧ I3 good3 i3 ∧ w12 = w') _ _ ⟨q5, (0 : Int), rfl, rfl, h0_3, rfl⟩ (by repeat (first | exact Sub.nil | refine Sub.cons rfl ?_)) ?_
                    clear h0_3
                    rintro _ _ _ ⟨good3, i3, rfl, rfl, hI3, rfl⟩
                    have H := HR3 good3 i3 hI3
                    refine WC.seq ?_
                    refine WC.seq ?_
                    refine WC.region ?_
                    refine WL.y rfl (Yld.pure tab_ok rfl) ?_
                    refine WL.y rfl (Yld.pure tab_ok rfl) ?_
                    refine WL.y rfl (Yld.pure tab_ok rfl) ?_
                    refine WL.y rfl (Yld.pure tab_ok rfl) ?_
                    refine WL.nil (WX.then_normal ?_)
                    refine WC.cond rfl (fun b15 => ?_) (fun b15 => ?_)
                    · replace H := H.1 (of_decide_eq_true b15)
                      refine WC.skip (WX.then_normal ?_)
                      refine WC.seq ?_
                      refine WC.block ?_
                      refine WC.region ?_
                      refine WL.y rfl (Yld.pure tab_ok rfl) ?_
                      refine WL.y rfl (Yld.pure tab_ok rfl) ?_
                      obtain ⟨h9, H⟩ := H
                      obtain ⟨h10, H⟩ := H
                      refine WL.midF 13 (fun L' w' => ∃ q6 : Bool, L' = [(117, .bool q6), (1, .slice A_args args.length c_args), (2, .int .i64 n), (9, v_t321), (12, .int .i64 i3)] ∧ q6 = (good3 && ((decide ((args.getD i3.toNat []) = ([114, 101, 118, 101, 114, 115, 101] : List UInt8))) || (decide ((args.getD i3.toNat []) = ([117, 110, 105, 113, 117, 101] : List UInt8))))) ∧ w12 = w') ?_ (fun hQ => ?_)
                      · rintro _ _ ⟨q6, rfl, rfl, rfl⟩
                        refine WL.y rfl (Yld.pure tab_ok rfl) ?_
                        refine WL.nil (WX.block_normal (WX.then_normal ?_))
                        refine WC.region ?_
                        refine WL.y rfl (Yld.pure tab_ok rfl) ?_
                        obtain ⟨h11, H⟩ := H
                        refine WL.y rfl (Yld.add rfl rfl h11) ?_
                        refine WL.y rfl (Yld.pure tab_ok rfl) ?_
                        refine WL.nil ?_
                        exact WX.roundF _ ⟨good3 && ((decide ((args.getD i3.toNat []) = ([114, 101, 118, 101, 114, 115, 101] : List UInt8))) || (decide ((args.getD i3.toNat []) = ([117, 110, 105, 113, 117, 101] : List UInt8)))), i3 + (1 : Int), rfl, rfl, H.1, rfl⟩ (by repeat (first | exact Sub.nil | refine Sub.cons rfl ?_)) H.2
                      · clear H
                        rcases Bool.eq_false_or_eq_true (good3) with b16 | b16
                        · refine WL.gyes rfl rfl (okb b16) rfl (Yld.pure tab_ok rfl) ?_
                          refine WL.gyes rfl rfl (okb b16) rfl (Yld.pure tab_ok rfl) ?_
                          refine WL.gyes rfl rfl (okb b16) rfl (Yld.iaddrW tab_ok (hargs.grown gr12) rfl rfl rfl rfl (h9 b16).1 (h9 b16).2) ?_
                          refine WL.gyes rfl rfl (okb b16) rfl (Yld.iload [] tab_ok (hargs.grown gr12) rfl rfl (iltN (h9 b16) rfl)) ?_
                          refine WL.gyes rfl rfl (okb b16) rfl (Yld.pure tab_ok rfl) ?_
                          refine WL.gyes rfl rfl (okb b16) rfl (Yld.pure tab_ok rfl) ?_
                          rcases Bool.eq_false_or_eq_true (decide ((args.getD i3.toNat []) = ([114, 101, 118, 101, 114, 115, 101] : List UInt8))) with b17 | b17
                          · refine WL.gno rfl rfl (okb b17) rfl ?_
                            refine WL.gno rfl rfl (okb b17) rfl ?_
                            refine WL.gno rfl rfl (okb b17) rfl ?_
                            refine WL.gno rfl rfl (okb b17) rfl ?_
                            refine WL.gno rfl rfl (okb b17) rfl ?_
                            refine WL.gyes rfl rfl (okb b16) rfl (Yld.pickT (okb b17) rfl) ?_
                            refine WL.y rfl (Yld.pickT (okb b16) rfl) ?_
                            exact WL.weaken (by repeat (first | exact Sub.nil | refine Sub.cons rfl ?_)) (hQ _ _ ⟨true, rfl, by rw [b16, b17] <;> rfl, rfl⟩)
                          · refine WL.gyes rfl rfl (okb b17) rfl (Yld.pure tab_ok rfl) ?_
                            refine WL.gyes rfl rfl (okb b17) rfl (Yld.pure tab_ok rfl) ?_
                            refine WL.gyes rfl rfl (okb b17) rfl (Yld.iaddrW tab_ok (hargs.grown gr12) rfl rfl rfl rfl (h10 b16 b17).1 (h10 b16 b17).2) ?_
                            refine WL.gyes rfl rfl (okb b17) rfl (Yld.iload [] tab_ok (hargs.grown gr12) rfl rfl (iltN (h10 b16 b17) rfl)) ?_
                            refine WL.gyes rfl rfl (okb b17) rfl (Yld.pure tab_ok rfl) ?_
                            refine WL.gyes rfl rfl (okb b16) rfl (Yld.pickF (okb b17) rfl) ?_
                            refine WL.y rfl (Yld.pickT (okb b16) rfl) ?_
                            exact WL.weaken (by repeat (first | exact Sub.nil | refine Sub.cons rfl ?_)) (hQ _ _ ⟨decide ((args.getD i3.toNat []) = ([117, 110, 105, 113, 117, 101] : List UInt8)), rfl, by rw [b16, b17] <;> rfl, rfl⟩)
                        · refine WL.gno rfl rfl (okb b16) rfl ?_
                          refine WL.gno rfl rfl (okb b16) rfl ?_
                          refine WL.gno rfl rfl (okb b16) rfl ?_
                          refine WL.gno rfl rfl (okb b16) rfl ?_
                          refine WL.gno rfl rfl (okb b16) rfl ?_
                          refine WL.gno rfl rfl (okb b16) rfl ?_
                          refine WL.gun rfl rfl rfl rfl ?_
                          refine WL.gun rfl rfl rfl rfl ?_
                          refine WL.gun rfl rfl rfl rfl ?_
                          refine WL.gun rfl rfl rfl rfl ?_
                          refine WL.gun rfl rfl rfl rfl ?_
                          refine WL.gno rfl rfl (okb b16) rfl ?_
                          refine WL.y rfl (Yld.pickF (okb b16) rfl) ?_
                          exact WL.weaken (by repeat (first | exact Sub.nil | refine Sub.cons rfl ?_)) (hQ _ _ ⟨false, rfl, by rw [b16] <;> rfl, rfl⟩)
                    · replace H := H.2 (of_decide_eq_false b15)
                      refine WC.exit (WX.then_exit (WX.then_exit (WX.block_same (WX.block_normal ?_))))
                      exact WX.weaken (by repeat (first | exact Sub.nil | refine Sub.cons rfl ?_)) (hQ _ _ ⟨good3, rfl, H, gr12, k6⟩)
                  · clear hJ3
                    rcases Bool.eq_false_or_eq_true (decide ((args.length : Int) ≤ (2 : Int))) with b18 | b18
                    · replace H := H.1 b18
                      refine WL.gyes rfl rfl (okb b18) rfl (Yld.pure tab_ok rfl) ?_
                      refine WL.callw (wants_some rfl rfl (okb b18)) rfl rfl (W_smithyref_SortedTexts (hargs.grown gr3) rfl H) ?_
                      rintro _ w13 ⟨hg9, t91, A_t91, c_t91, rfl, ht91, H⟩
                      have hb1 := ht91.ge'
                      have k7 := ht91.base (fun g hg => Nat.le_trans (size_le gr3) (hb1 g hg))
                      have gr13 := gr_trans gr3 hg9
                      have k8 := ht321.grown hg9
                      refine WL.gyes rfl rfl (okb b18) rfl (Yld.pure tab_ok rfl) ?_
                      refine WL.gyes rfl rfl (okb b18) rfl (Yld.pure tab_ok rfl) ?_
                      refine WL.gyes rfl rfl (okb b18) rfl (Yld.pure tab_ok rfl) ?_
                      refine WL.gyes rfl rfl (okb b18) rfl (Yld.pure tab_ok rfl) ?_
                      refine WL.y rfl (Yld.pickT (okb b18) rfl) ?_
                      exact WL.weaken (by repeat (first | exact Sub.nil | refine Sub.cons rfl ?_)) (hQ _ _ ⟨decide ((t91.length : Int) = (args.length : Int)), rfl, H, gr13, k8⟩)
                    · replace H := H.2 b18
                      refine WL.gno rfl rfl (okb b18) rfl ?_
                      refine WL.gno rfl rfl (okb b18) rfl ?_
                      refine WL.gno rfl rfl (okb b18) rfl ?_
                      refine WL.gno rfl rfl (okb b18) rfl ?_
                      refine WL.gno rfl rfl (okb b18) rfl ?_
                      refine WL.gno rfl rfl (okb b18) rfl ?_
                      refine WL.y rfl (Yld.pickF (okb b18) rfl) ?_
                      exact WL.weaken (by repeat (first | exact Sub.nil | refine Sub.cons rfl ?_)) (hQ _ _ ⟨false, rfl, H, gr3, ht321⟩)
                · replace H := H.2 (of_decide_eq_false b14)
                  refine WC.seq ?_
                  refine WC.region ?_
                  refine WL.y rfl (Yld.pure tab_ok rfl) ?_
                  refine WL.y rfl (Yld.pure tab_ok rfl) ?_
                  refine WL.nil (WX.then_normal ?_)
                  refine WC.cond rfl (fun b19 => ?_) (fun b19 => ?_)
                  · replace H := H.1 (of_decide_eq_true b19)
                    refine WC.region ?_
                    refine WL.y rfl (Yld.pure tab_ok rfl) ?_
                    refine WL.y rfl (Yld.pure tab_ok rfl) ?_
                    refine WL.y rfl (Yld.pure tab_ok rfl) ?_
                    refine WL.y rfl (Yld.pure tab_ok rfl) ?_
                    refine WL.nil (WX.block_normal ?_)
                    exact WX.weaken (by repeat (first | exact Sub.nil | refine Sub.cons rfl ?_)) (hQ _ _ ⟨decide ((args.length : Int) = (0 : Int)), rfl, H, gr3, ht321⟩)
                  · replace H := H.2 (of_decide_eq_false b19)
                    refine WC.seq ?_
                    refine WC.region ?_
                    refine WL.y rfl (Yld.pure tab_ok rfl) ?_
                    refine WL.call rfl rfl (W_smithysee_Is (hG.grown gr3) hS0 hS1 hS2 hS3 hS4 hS5 hS6 hS7 hS8 hS9 hS10 hS11 hS12 hS13 hS14 hS15 hS16 ht321 H) ?_
                    rintro _ w14 ⟨hg10, t37, rfl, H⟩
                    have gr14 := gr_trans gr3 hg10
                    refine WL.y rfl (Yld.pure tab_ok rfl) ?_
                    obtain ⟨J4, H, hJ4⟩ := H
                    refine WL.midF 4 (fun L' w' => ∃ q7 : Bool, L' = [(42, .bool q7)] ∧ J4 q7 ∧ w.grownBy w' none) ?_ (fun hQ => ?_)
                    · clear H
                      rintro _ w15 ⟨q7, rfl, H, gr15⟩
                      replace H := hJ4 q7 H
                      refine WL.y rfl (Yld.pure tab_ok rfl) ?_
                      refine WL.nil (WX.then_normal ?_)
                      refine WC.ret (WX.block_ret (WX.then_ret ?_))
                      exact WX.ret1 rfl rfl ⟨gr15, q7, rfl, H⟩
                    · clear hJ4
                      rcases Bool.eq_false_or_eq_true (t37) with b20 | b20
                      · replace H := H.1 b20
                        refine WL.gyes rfl rfl (okb b20) rfl (Yld.pure tab_ok rfl) ?_
                        refine WL.callw (wants_some rfl rfl (okb b20)) rfl rfl (W_tool_Name H) ?_
                        rintro _ w16 ⟨hg11, t40, rfl, H⟩
                        have gr16 := gr_trans gr14 hg11
                        refine WL.gyes rfl rfl (okb b20) rfl (Yld.pure tab_ok rfl) ?_
                        refine WL.y rfl (Yld.pickT (okb b20) rfl) ?_
                        exact WL.weaken (by repeat (first | exact Sub.nil | refine Sub.cons rfl ?_)) (hQ _ _ ⟨decide (t40 = ([] : List UInt8)), rfl, H, gr16⟩)
                      · replace H := H.2 b20
                        refine WL.gno rfl rfl (okb b20) rfl ?_
                        refine WL.gno rfl rfl (okb b20) rfl ?_
                        refine WL.gno rfl rfl (okb b20) rfl ?_
                        refine WL.y rfl (Yld.pickF (okb b20) rfl) ?_
                        exact WL.weaken (by repeat (first | exact Sub.nil | refine Sub.cons rfl ?_)) (hQ _ _ ⟨false, rfl, H, gr14⟩)
    · clear H
      rcases Bool.eq_false_or_eq_true (!t21) with b21 | b21
      · refine WL.gno rfl rfl (okb b21) rfl ?_
        refine WL.gno rfl rfl (okb b21) rfl ?_
        refine WL.y rfl (Yld.pickT (okb b21) rfl) ?_
        exact WL.weaken (by repeat (first | exact Sub.nil | refine Sub.cons rfl ?_)) (hQ _ _ ⟨true, rfl, by rw [b21] <;> rfl, rfl⟩)
      · refine WL.gyes rfl rfl (okb b21) rfl (Yld.pure tab_ok rfl) ?_
        refine WL.gyes rfl rfl (okb b21) rfl (Yld.pure tab_ok rfl) ?_
        refine WL.y rfl (Yld.pickF (okb b21) rfl) ?_
        exact WL.weaken (by repeat (first | exact Sub.nil | refine Sub.cons rfl ?_)) (hQ _ _ ⟨!ok, rfl, by rw [b21] <;> rfl, rfl⟩)

set_option maxHeartbeats 8000000 in
theorem W_smithylaw23_ToolSays {S : List Nat} {w : World} {t : Int} {args : List (List UInt8)} {A_args : Option Addr} {c_args : Nat} {inputs : List (List UInt8)} {A_inputs : Option Addr} {c_inputs : Nat} {s : List UInt8} {n_args : Nat} {n_inputs : Nat} {K : Bool → Prop} (hG : GOK S w) (hS0 : 0 ∈ S) (hS1 : 1 ∈ S) (hS2 : 2 ∈ S) (hS3 : 3 ∈ S) (hS4 : 4 ∈ S) (hS5 : 5 ∈ S) (hS6 : 6 ∈ S) (hS7 : 7 ∈ S) (hS8 : 8 ∈ S) (hS9 : 9 ∈ S) (hS10 : 10 ∈ S) (hS11 : 11 ∈ S) (hS12 : 12 ∈ S) (hS13 : 13 ∈ S) (hS14 : 14 ∈ S) (hS15 : 15 ∈ S) (hS16 : 16 ∈ S) (hS100 : 100 ∈ S) (hargs : Rd vs w A_args c_args args) (hn_args : n_args = args.length) (hinputs : Rd vs w A_inputs c_inputs inputs) (hn_inputs : n_inputs = inputs.length) (H : M_smithylaw23_ToolSays t args inputs s K) : Fn Tryz.prog 4 ⟨[.int .i64 t, .slice A_args n_args c_args, .slice A_inputs n_inputs c_inputs, vs s]⟩ w (fun v w' => w.grownBy w' none ∧ ∃ (r : Bool), v = .bool r ∧ K r) := by
  subst hn_args
  subst hn_inputs
  unfold M_smithylaw23_ToolSays at H
  refine Fn.enter (by kernel_rfl) Tryz.func4 rfl Tryz.ntmps4 rfl ?_
  replace H := H (Nat.le_trans hargs.cap hargs.max)
  replace H := H (Nat.le_trans hinputs.cap hinputs.max)
  refine WC.seq ?_
  refine WC.region ?_
  refine WL.y rfl (Yld.pure tab_ok rfl) ?_
  refine WL.nil (WX.then_normal ?_)
  refine WC.seq ?_
  refine WC.region ?_
  refine WL.call rfl rfl (W_smithylaw23_first hG hS10 hS16 hS100 H) ?_
  rintro _ w1 ⟨hg1, ok, rfl, H⟩
  have gr1 := hg1
  refine WL.y rfl (Yld.pure tab_ok rfl) ?_
  refine WL.nil (WX.then_normal ?_)
  refine WC.seq ?_
  refine WC.seq ?_
  refine WC.region ?_
  refine WL.y rfl (Yld.pure tab_ok rfl) ?_
  refine WL.y rfl (Yld.pure tab_ok rfl) ?_
  refine WL.nil (WX.then_normal ?_)
  refine WC.cond rfl (fun b1 => ?_) (fun b1 => ?_)
  · replace H := H.1 (b1)
    refine WC.seq ?_
    refine WC.region ?_
    refine WL.y rfl (Yld.pure tab_ok rfl) ?_
    refine WL.nil (WX.then_normal ?_)
    refine WC.ret (WX.then_ret ?_)
    exact WX.ret1 rfl rfl ⟨gr1, false, rfl, H⟩
  · replace H := H.2 (b1)
    refine WC.skip (WX.then_normal ?_)
    refine WC.seq ?_
    refine WC.seq ?_
    refine WC.region ?_
    refine WL.y rfl (Yld.pure tab_ok rfl) ?_
    refine WL.call rfl rfl (W_smithyworld_Texts (hargs.grown gr1) rfl H) ?_
    rintro _ _ ⟨rfl, t21, rfl, H⟩
    refine WL.y rfl (Yld.pure tab_ok rfl) ?_
    refine WL.y rfl (Yld.pure tab_ok rfl) ?_
    obtain ⟨J1, H, hJ1⟩ := H
    refine WL.midF 4 (fun L' w' => ∃ q1 : Bool, L' = [(27, .bool q1), (0, .int .i64 t), (1, .slice A_args args.length c_args), (2, .slice A_inputs inputs.length c_inputs), (3, vs s), (9, .bool ok)] ∧ J1 q1 ∧ w1 = w') ?_ (fun hQ => ?_)
    · clear H
      rintro _ _ ⟨q1, rfl, H, rfl⟩
      replace H := hJ1 q1 H
      refine WL.y rfl (Yld.pure tab_ok rfl) ?_
      refine WL.midF 4 (fun L' w' => ∃ q2 : Bool, L' = [(32, .bool q2), (0, .int .i64 t), (1, .slice A_args args.length c_args), (2, .slice A_inputs inputs.length c_inputs), (3, vs s), (9, .bool ok)] ∧ q2 = (q1 || (decide ((500 : Int) < (s.length : Int)))) ∧ w1 = w') ?_ (fun hQ => ?_)
      · rintro _ _ ⟨q2, rfl, rfl, rfl⟩
        refine WL.y rfl (Yld.pure tab_ok rfl) ?_
        refine WL.midF 3 (fun L' w' => ∃ q3 : Bool, L' = [(36, .bool q3), (0, .int .i64 t), (1, .slice A_args args.length c_args), (2, .slice A_inputs inputs.length c_inputs), (3, vs s), (9, .bool ok)] ∧ q3 = ((q1 || (decide ((500 : Int) < (s.length : Int)))) || (!ok)) ∧ w1 = w') ?_ (fun hQ => ?_)
        · rintro _ _ ⟨q3, rfl, rfl, rfl⟩
          refine WL.nil (WX.then_normal ?_)
          refine WC.cond rfl (fun b2 => ?_) (fun b2 => ?_)
          · replace H := H.1 (b2)
            refine WC.seq ?_
            refine WC.region ?_
            refine WL.y rfl (Yld.pure tab_ok rfl) ?_
            refine WL.y rfl (Yld.pure tab_ok rfl) ?_
            refine WL.nil (WX.then_normal ?_)
            refine WC.ret (WX.then_ret ?_)
            exact WX.ret1 rfl rfl ⟨gr1, ok, rfl, H⟩
          · replace H := H.2 (b2)
            refine WC.skip (WX.then_normal ?_)
            refine WC.seq ?_
            refine WC.region ?_
            refine WL.y rfl (Yld.pure tab_ok rfl) ?_
            refine WL.y rfl (Yld.pure tab_ok rfl) ?_
            refine WL.y rfl (Yld.pure tab_ok rfl) ?_
            refine WL.call rfl rfl (W_tool_Do (hG.grown gr1) hS10 hS16 hS100 (hargs.grown gr1) rfl (hinputs.grown gr1) rfl H) ?_
            rintro _ w2 ⟨hg2, t420, v_t421, t421, rfl, ht421, H⟩
            have gr2 := gr_trans gr1 hg2
            refine WL.y rfl (Yld.pure tab_ok rfl) ?_
            refine WL.y rfl (Yld.pure tab_ok rfl) ?_
            refine WL.y rfl (Yld.pure tab_ok rfl) ?_
            refine WL.y rfl (Yld.pure tab_ok rfl) ?_
            refine WL.y rfl (Yld.pure tab_ok rfl) ?_
            refine WL.nil (WX.then_normal ?_)
            refine WC.seq ?_
            refine WC.region ?_
            refine WL.y rfl (Yld.pure tab_ok rfl) ?_
            refine WL.y rfl (Yld.pure tab_ok rfl) ?_
            refine WL.y rfl (Yld.pure tab_ok rfl) ?_
            refine WL.call rfl rfl (W_smithyref17_Do (hargs.grown gr2) rfl (hinputs.grown gr2) rfl H) ?_
            rintro _ w3 ⟨hg3, t490, t491, rfl, H⟩
            have gr3 := gr_trans gr2 hg3
            have k1 := ht421.grown hg3
            refine WL.y rfl (Yld.pure tab_ok rfl) ?_
            refine WL.y rfl (Yld.pure tab_ok rfl) ?_
            refine WL.y rfl (Yld.pure tab_ok rfl) ?_
            refine WL.y rfl (Yld.pure tab_ok rfl) ?_
            refine WL.y rfl (Yld.pure tab_ok rfl) ?_
            refine WL.nil (WX.then_normal ?_)
            refine WC.seq ?_
            refine WC.region ?_
            refine WL.lit tab_ok rfl rfl rfl (all1c rfl (all1c rfl (all1c rfl (all1c rfl (all1c rfl (all1c rfl all1n)))))) rfl (by omega) (fun g1 w4 hB1 hg4 hl1 => ?_)
            have hO1 : Own vs w4 w.heap.size 9 (some ⟨g1, 0, none⟩) 6 ([([] : List UInt8), ([99, 111, 110, 99, 97, 116] : List UInt8), ([102, 105, 108, 116, 101, 114] : List UInt8), ([115, 117, 98, 115, 116, 105, 116, 117, 116, 101] : List UInt8), ([115, 111, 114, 116] : List UInt8), ([100, 105, 103, 101, 115, 116] : List UInt8)] : List (List UInt8)) := Own.ofBl hB1 (Nat.le_trans (size_le gr3) hl1) (by simp [maxLen]) rfl
            have gr4 := gr_trans gr3 hg4
            have k2 := k1.grown hg4
            refine WL.y rfl (Yld.pure tab_ok rfl) ?_
            refine WL.nil (WX.then_normal ?_)
            refine WC.seq ?_
            refine WC.region ?_
            refine WL.y rfl (Yld.pure tab_ok rfl) ?_
            refine WL.nil (WX.then_normal ?_)
            refine WC.seq ?_
            obtain ⟨J2, H, hJ2⟩ := H
            refine WC.midF (fun L' w' => ∃ (name : List UInt8), L' = [(0, .int .i64 t), (3, vs s), (10, vs t420), (11, v_t421), (12, vs t490), (13, .int .i64 t491), (14, .slice (some ⟨g1, 0, none⟩) 6 6), (15, vs name)] ∧ J2 name ∧ w4 = w') ?_ (fun hQ => ?_)
            · clear H
              rintro _ _ ⟨name, rfl, H, rfl⟩
              replace H := hJ2 name H
              refine WX.then_normal ?_
              refine WC.seq ?_
              refine WC.region ?_
              refine WL.y rfl (Yld.pure tab_ok rfl) ?_
              refine WL.y rfl (Yld.pure tab_ok rfl) ?_
              refine WL.call rfl rfl (W_smithyref_AmongTexts hO1.rd rfl H) ?_
              rintro _ _ ⟨rfl, at_, rfl, H⟩
              refine WL.y rfl (Yld.pure tab_ok rfl) ?_
              refine WL.nil (WX.then_normal ?_)
              refine WC.seq ?_
              refine WC.region ?_
              refine WL.y rfl (Yld.pure tab_ok rfl) ?_
              refine WL.y rfl (Yld.pure tab_ok rfl) ?_
              refine WL.y rfl (Yld.pure tab_ok rfl) ?_
              refine WL.y rfl (Yld.pure tab_ok rfl) ?_
              obtain ⟨J3, H, hJ3⟩ := H
              refine WL.midF 4 (fun L' w' => ∃ q4 : Bool, L' = [(73, .bool q4), (0, .int .i64 t), (3, vs s), (15, vs name), (16, .int .i64 at_)] ∧ J3 q4 ∧ w.grownBy w' none) ?_ (fun hQ => ?_)
              · clear H
                rintro _ w5 ⟨q4, rfl, H, gr5⟩
                replace H := hJ3 q4 H
                refine WL.y rfl (Yld.pure tab_ok rfl) ?_
                obtain ⟨J4, H, hJ4⟩ := H
                refine WL.midF 5 (fun L' w' => ∃ q5 : Bool, L' = [(79, .bool q5), (3, vs s), (16, .int .i64 at_)] ∧ J4 q5 ∧ w.grownBy w' none) ?_ (fun hQ => ?_)
                · clear H
                  rintro _ w6 ⟨q5, rfl, H, gr6⟩
                  replace H := hJ4 q5 H
                  refine WL.y rfl (Yld.pure tab_ok rfl) ?_
                  obtain ⟨J5, H, hJ5⟩ := H
                  refine WL.midF 6 (fun L' w' => ∃ q6 : Bool, L' = [(86, .bool q6), (3, vs s)] ∧ J5 q6 ∧ w.grownBy w' none) ?_ (fun hQ => ?_)
                  · clear H
                    rintro _ w7 ⟨q6, rfl, H, gr7⟩
                    replace H := hJ5 q6 H
                    refine WL.y rfl (Yld.pure tab_ok rfl) ?_
                    obtain ⟨J6, H, hJ6⟩ := H
                    refine WL.midF 6 (fun L' w' => ∃ q7 : Bool, L' = [(93, .bool q7)] ∧ J6 q7 ∧ w.grownBy w' none) ?_ (fun hQ => ?_)
                    · clear H
                      rintro _ w8 ⟨q7, rfl, H, gr8⟩
                      replace H := hJ6 q7 H
                      refine WL.y rfl (Yld.pure tab_ok rfl) ?_
                      refine WL.nil (WX.then_normal ?_)
                      refine WC.ret ?_
                      exact WX.ret1 rfl rfl ⟨gr8, q7, rfl, H⟩
                    · clear hJ6
                      rcases Bool.eq_false_or_eq_true (q6) with b3 | b3
                      · replace H := H.1 b3
                        refine WL.gyes rfl rfl (okb b3) rfl (Yld.pure tab_ok rfl) ?_
                        refine WL.callw (wants_some rfl rfl (okb b3)) rfl rfl (W_tool_Lines (hG.grown gr7) hS100 H) ?_
                        rintro _ w9 ⟨hg5, t89, A_t89, c_t89, rfl, ht89, H⟩
                        have hb1 := ht89.ge'
                        have k3 := ht89.base (fun g hg => Nat.le_trans (size_le gr7) (hb1 g hg))
                        have gr9 := gr_trans gr7 hg5
                        refine WL.gyes rfl rfl (okb b3) rfl (Yld.pure tab_ok rfl) ?_
                        refine WL.callw (wants_some rfl rfl (okb b3)) rfl rfl (W_smithyref17_Lines H) ?_
                        rintro _ w10 ⟨hg6, t91, A_t91, c_t91, rfl, ht91, H⟩
                        have hb2 := ht91.ge'
                        have k4 := ht91.base (fun g hg => Nat.le_trans (size_le gr9) (hb2 g hg))
                        have gr10 := gr_trans gr9 hg6
                        have k5 := k3.grown hg6
                        refine WL.callw (wants_some rfl rfl (okb b3)) rfl rfl (W_smithyref_SameTexts k5.rd rfl k4.rd rfl H) ?_
                        rintro _ _ ⟨rfl, t92, rfl, H⟩
                        refine WL.y rfl (Yld.pickT (okb b3) rfl) ?_
                        exact WL.weaken (by repeat (first | exact Sub.nil | refine Sub.cons rfl ?_)) (hQ _ _ ⟨t92, rfl, H, gr10⟩)
                      · replace H := H.2 b3
                        refine WL.gno rfl rfl (okb b3) rfl ?_
                        refine WL.gno rfl rfl (okb b3) rfl ?_
                        refine WL.gno rfl rfl (okb b3) rfl ?_
                        refine WL.gno rfl rfl (okb b3) rfl ?_
                        refine WL.gno rfl rfl (okb b3) rfl ?_
                        refine WL.y rfl (Yld.pickF (okb b3) rfl) ?_
                        exact WL.weaken (by repeat (first | exact Sub.nil | refine Sub.cons rfl ?_)) (hQ _ _ ⟨false, rfl, H, gr7⟩)
                  · clear hJ5
                    rcases Bool.eq_false_or_eq_true (q5) with b4 | b4
                    · replace H := H.1 b4
                      refine WL.gyes rfl rfl (okb b4) rfl (Yld.pure tab_ok rfl) ?_
                      refine WL.callw (wants_some rfl rfl (okb b4)) rfl rfl (W_tool_Tool H) ?_
                      rintro _ w11 ⟨hg7, t82, rfl, H⟩
                      have gr11 := gr_trans gr6 hg7
                      refine WL.gyes rfl rfl (okb b4) rfl (Yld.pure tab_ok rfl) ?_
                      refine WL.gyes rfl rfl (okb b4) rfl (Yld.max2 rfl rfl) ?_
                      refine WL.gyes rfl rfl (okb b4) rfl (Yld.pure tab_ok rfl) ?_
                      refine WL.y rfl (Yld.pickT (okb b4) rfl) ?_
                      exact WL.weaken (by repeat (first | exact Sub.nil | refine Sub.cons rfl ?_)) (hQ _ _ ⟨decide (t82 = (if at_ < (0 : Int) then (0 : Int) else at_)), rfl, H, gr11⟩)
                    · replace H := H.2 b4
                      refine WL.gno rfl rfl (okb b4) rfl ?_
                      refine WL.gno rfl rfl (okb b4) rfl ?_
                      refine WL.gno rfl rfl (okb b4) rfl ?_
                      refine WL.gno rfl rfl (okb b4) rfl ?_
                      refine WL.gno rfl rfl (okb b4) rfl ?_
                      refine WL.y rfl (Yld.pickF (okb b4) rfl) ?_
                      exact WL.weaken (by repeat (first | exact Sub.nil | refine Sub.cons rfl ?_)) (hQ _ _ ⟨false, rfl, H, gr6⟩)
                · clear hJ4
                  rcases Bool.eq_false_or_eq_true (q4) with b5 | b5
                  · replace H := H.1 b5
                    refine WL.gyes rfl rfl (okb b5) rfl (Yld.pure tab_ok rfl) ?_
                    refine WL.callw (wants_some rfl rfl (okb b5)) rfl rfl (W_tool_Name H) ?_
                    rintro _ w12 ⟨hg8, t76, rfl, H⟩
                    have gr12 := gr_trans gr5 hg8
                    refine WL.gyes rfl rfl (okb b5) rfl (Yld.pure tab_ok rfl) ?_
                    refine WL.gyes rfl rfl (okb b5) rfl (Yld.pure tab_ok rfl) ?_
                    refine WL.y rfl (Yld.pickT (okb b5) rfl) ?_
                    exact WL.weaken (by repeat (first | exact Sub.nil | refine Sub.cons rfl ?_)) (hQ _ _ ⟨decide (t76 = name), rfl, H, gr12⟩)
                  · replace H := H.2 b5
                    refine WL.gno rfl rfl (okb b5) rfl ?_
                    refine WL.gno rfl rfl (okb b5) rfl ?_
                    refine WL.gno rfl rfl (okb b5) rfl ?_
                    refine WL.gno rfl rfl (okb b5) rfl ?_
                    refine WL.y rfl (Yld.pickF (okb b5) rfl) ?_
                    exact WL.weaken (by repeat (first | exact Sub.nil | refine Sub.cons rfl ?_)) (hQ _ _ ⟨false, rfl, H, gr5⟩)
              · clear hJ3
                rcases Bool.eq_false_or_eq_true (decide (t420 = t490)) with b6 | b6
                · replace H := H.1 b6
                  refine WL.gyes rfl rfl (okb b6) rfl (Yld.pure tab_ok rfl) ?_
                  refine WL.gyes rfl rfl (okb b6) rfl (Yld.pure tab_ok rfl) ?_
                  refine WL.callw (wants_some rfl rfl (okb b6)) rfl rfl (W_smithysee_Is (hG.grown gr4) hS0 hS1 hS2 hS3 hS4 hS5 hS6 hS7 hS8 hS9 hS10 hS11 hS12 hS13 hS14 hS15 hS16 k2 H) ?_
                  rintro _ w13 ⟨hg9, t72, rfl, H⟩
                  have gr13 := gr_trans gr4 hg9
                  have k6 := k2.grown hg9
                  refine WL.y rfl (Yld.pickT (okb b6) rfl) ?_
                  exact WL.weaken (by repeat (first | exact Sub.nil | refine Sub.cons rfl ?_)) (hQ _ _ ⟨t72, rfl, H, gr13⟩)
                · replace H := H.2 b6
                  refine WL.gno rfl rfl (okb b6) rfl ?_
                  refine WL.gno rfl rfl (okb b6) rfl ?_
                  refine WL.gno rfl rfl (okb b6) rfl ?_
                  refine WL.y rfl (Yld.pickF (okb b6) rfl) ?_
                  exact WL.weaken (by repeat (first | exact Sub.nil | refine Sub.cons rfl ?_)) (hQ _ _ ⟨false, rfl, H, gr4⟩)
            · clear hJ2
              refine WC.seq ?_
              refine WC.region ?_
              refine WL.y rfl (Yld.pure tab_ok rfl) ?_
              refine WL.y rfl (Yld.pure tab_ok rfl) ?_
              refine WL.y rfl (Yld.pure tab_ok rfl) ?_
              refine WL.midF 3 (fun L' w' => ∃ q8 : Bool, L' = [(58, .bool q8), (0, .int .i64 t), (3, vs s), (10, vs t420), (11, v_t421), (12, vs t490), (13, .int .i64 t491), (14, .slice (some ⟨g1, 0, none⟩) 6 6), (15, vs ([] : List UInt8))] ∧ q8 = ((decide ((1 : Int) ≤ t)) && (decide (t ≤ (5 : Int)))) ∧ w4 = w') ?_ (fun hQ => ?_)
              · rintro _ _ ⟨q8, rfl, rfl, rfl⟩
                refine WL.nil (WX.then_normal ?_)
                refine WC.cond rfl (fun b7 => ?_) (fun b7 => ?_)
                · replace H := H.1 (b7)
                  refine WC.region ?_
                  refine WL.y rfl (Yld.pure tab_ok rfl) ?_
                  refine WL.y rfl (Yld.pure tab_ok rfl) ?_
                  obtain ⟨h1, H⟩ := H
                  refine WL.y rfl (Yld.iaddrW tab_ok hO1.rd rfl rfl rfl rfl h1.1 h1.2) ?_
                  refine WL.y rfl (Yld.iload [] tab_ok hO1.rd rfl rfl (iltN h1 rfl)) ?_
                  refine WL.y rfl (Yld.pure tab_ok rfl) ?_
                  refine WL.nil ?_
                  exact WX.weaken (by repeat (first | exact Sub.nil | refine Sub.cons rfl ?_)) (hQ _ _ ⟨([([] : List UInt8), ([99, 111, 110, 99, 97, 116] : List UInt8), ([102, 105, 108, 116, 101, 114] : List UInt8), ([115, 117, 98, 115, 116, 105, 116, 117, 116, 101] : List UInt8), ([115, 111, 114, 116] : List UInt8), ([100, 105, 103, 101, 115, 116] : List UInt8)] : List (List UInt8)).getD t.toNat [], rfl, H, rfl⟩)
                · replace H := H.2 (b7)
                  refine WC.skip ?_
                  exact WX.weaken (by repeat (first | exact Sub.nil | refine Sub.cons rfl ?_)) (hQ _ _ ⟨([] : List UInt8), rfl, H, rfl⟩)
              · clear H
                rcases Bool.eq_false_or_eq_true (decide ((1 : Int) ≤ t)) with b8 | b8
                · refine WL.gyes rfl rfl (okb b8) rfl (Yld.pure tab_ok rfl) ?_
                  refine WL.gyes rfl rfl (okb b8) rfl (Yld.pure tab_ok rfl) ?_
                  refine WL.y rfl (Yld.pickT (okb b8) rfl) ?_
                  exact WL.weaken (by repeat (first | exact Sub.nil | refine Sub.cons rfl ?_)) (hQ _ _ ⟨decide (t ≤ (5 : Int)), rfl, by rw [b8] <;> rfl, rfl⟩)
                · refine WL.gno rfl rfl (okb b8) rfl ?_
                  refine WL.gno rfl rfl (okb b8) rfl ?_
                  refine WL.y rfl (Yld.pickF (okb b8) rfl) ?_
                  exact WL.weaken (by repeat (first | exact Sub.nil | refine Sub.cons rfl ?_)) (hQ _ _ ⟨false, rfl, by rw [b8] <;> rfl, rfl⟩)
        · clear H
          rcases Bool.eq_false_or_eq_true (q1 || (decide ((500 : Int) < (s.length : Int)))) with b9 | b9
          · refine WL.gno rfl rfl (okb b9) rfl ?_
            refine WL.gno rfl rfl (okb b9) rfl ?_
            refine WL.y rfl (Yld.pickT (okb b9) rfl) ?_
            exact WL.weaken (by repeat (first | exact Sub.nil | refine Sub.cons rfl ?_)) (hQ _ _ ⟨true, rfl, by rw [b9] <;> rfl, rfl⟩)
          · refine WL.gyes rfl rfl (okb b9) rfl (Yld.pure tab_ok rfl) ?_
            refine WL.gyes rfl rfl (okb b9) rfl (Yld.pure tab_ok rfl) ?_
            refine WL.y rfl (Yld.pickF (okb b9) rfl) ?_
            exact WL.weaken (by repeat (first | exact Sub.nil | refine Sub.cons rfl ?_)) (hQ _ _ ⟨!ok, rfl, by rw [b9] <;> rfl, rfl⟩)
      · clear H
        rcases Bool.eq_false_or_eq_true (q1) with b10 | b10
        · refine WL.gno rfl rfl (okb b10) rfl ?_
          refine WL.gno rfl rfl (okb b10) rfl ?_
          refine WL.gno rfl rfl (okb b10) rfl ?_
          refine WL.y rfl (Yld.pickT (okb b10) rfl) ?_
          exact WL.weaken (by repeat (first | exact Sub.nil | refine Sub.cons rfl ?_)) (hQ _ _ ⟨true, rfl, by rw [b10] <;> rfl, rfl⟩)
        · refine WL.gyes rfl rfl (okb b10) rfl (Yld.pure tab_ok rfl) ?_
          refine WL.gyes rfl rfl (okb b10) rfl (Yld.pure tab_ok rfl) ?_
          refine WL.gyes rfl rfl (okb b10) rfl (Yld.pure tab_ok rfl) ?_
          refine WL.y rfl (Yld.pickF (okb b10) rfl) ?_
          exact WL.weaken (by repeat (first | exact Sub.nil | refine Sub.cons rfl ?_)) (hQ _ _ ⟨decide ((500 : Int) < (s.length : Int)), rfl, by rw [b10] <;> rfl, rfl⟩)
    · clear hJ1
      rcases Bool.eq_false_or_eq_true (!t21) with b11 | b11
      · replace H := H.1 b11
        refine WL.gno rfl rfl (okb b11) rfl ?_
        refine WL.gno rfl rfl (okb b11) rfl ?_
        refine WL.gno rfl rfl (okb b11) rfl ?_
        refine WL.y rfl (Yld.pickT (okb b11) rfl) ?_
        exact WL.weaken (by repeat (first | exact Sub.nil | refine Sub.cons rfl ?_)) (hQ _ _ ⟨true, rfl, H, rfl⟩)
      · replace H := H.2 b11
        refine WL.gyes rfl rfl (okb b11) rfl (Yld.pure tab_ok rfl) ?_
        refine WL.callw (wants_some rfl rfl (okb b11)) rfl rfl (W_smithyworld_Texts (hinputs.grown gr1) rfl H) ?_
        rintro _ _ ⟨rfl, t25, rfl, H⟩
        refine WL.gyes rfl rfl (okb b11) rfl (Yld.pure tab_ok rfl) ?_
        refine WL.y rfl (Yld.pickF (okb b11) rfl) ?_
        exact WL.weaken (by repeat (first | exact Sub.nil | refine Sub.cons rfl ?_)) (hQ _ _ ⟨!t25, rfl, H, rfl⟩)

end Go.Proofs.YtilphcippnfklaaGreatDoor
 /- smithysee.Is, plainly. -/
namespace Go.Proofs.YtilphcippnfklaaGreatDoor
open Go Go.RowKit
def isB : Er → Int → Bool
  | .ok, c => decide (0 = c)
  | .e n, c => decide (101 + (n : Int) = c)
  | .at_ _ _, _ => false
theorem is_M {e : Er} {code : Int} {K : Bool → Prop} (h : K (isB e code)) : M_smithysee_Is e code K := by
  unfold M_smithysee_Is M_smithyref_Bare M_smithysee_Same M_smithysee_Fault M_smithyref_None M_smithyref_SameFault M_smithysee_placed M_smithysee_sentinel M_smithyref_Bare M_smithyref_Placed M_smithyref_None
  cases e with
  | ok => refine ⟨fun _ => ?_, fun h2 => absurd rfl h2⟩; exact (congrArg K (show isB .ok code = _ by simp [isB])).mp h
  | e n => refine ⟨fun h2 => (by cases h2), fun _ => ⟨fun p m h2 => (by cases h2), fun _ => ?_⟩⟩; exact (congrArg K (show isB (.e n) code = _ by rw [Bool.eq_iff_iff]; simp [isB, sentV]; exact decide_eq_true_iff.symm)).mp h
  | at_ p n =>
    refine ⟨fun h2 => (by cases h2), fun _ => ⟨fun p' m h2 => ?_, fun h2 => absurd rfl (h2 p n)⟩⟩
    cases h2
    refine ⟨fun h2 => (by simp at h2), fun _ => ⟨fun h2 => (by simp only [sentV] at h2; omega), fun _ => ?_⟩⟩
    exact (congrArg K (show isB (.at_ p n) code = _ by simp [isB])).mp h
end Go.Proofs.YtilphcippnfklaaGreatDoor
 /- ToolFails, plainly. -/
namespace Go.Proofs.YtilphcippnfklaaGreatDoor
open Go Go.RowKit
theorem vtexts_B {l : List (List UInt8)} {most long : Int} {K : Bool → Prop} (hl : most ≤ 1000000) (h : ∀ t : Bool, (t = true → (l.length : Int) ≤ most ∧ ∀ x ∈ l, (x.length : Int) ≤ long) → K t) : M_smithyworld_Texts l most long K := by
  intro _
  refine ⟨fun _ => h false (fun e => by cases e), fun hm => ⟨fun i => 0 ≤ i ∧ i ≤ l.length ∧ ∀ j, j < i.toNat → ((l.getD j []).length : Int) ≤ long, fun i => l.length - i.toNat, ⟨by omega, by omega, by intro j hj; simp at hj⟩, fun i ⟨a0, a1, a2⟩ => ⟨fun hlt => ⟨by omega, fun _ => h false (fun e => by cases e), fun hle => ⟨by simp only [In]; omega, ⟨by omega, by omega, fun j hj => ?_⟩, by dsimp only; omega⟩⟩, fun hge => h true fun _ => ⟨by omega, fun x hx => ?_⟩⟩⟩⟩
  · by_cases e : j = i.toNat
    · rw [e]; omega
    · exact a2 j (by omega)
  · obtain ⟨j, hj, rfl⟩ := List.getElem_of_mem hx
    have := a2 j (by omega)
    simpa [List.getD, hj] using this
theorem tfirst_M {K : Bool → Prop} (h : K true) : M_smithylaw23_first K := by
  have e1 : doP 4 [] [([98, 10, 97, 10] : List UInt8)] = ([97, 10, 98, 10], .ok) := by
    have hs : sortB ([[98], [97]] : List (List UInt8)) = [[97], [98]] := (sortB_of (by simp; decide) (List.Perm.swap _ _ _)).symm
    have hl : linesA [([98, 10, 97, 10] : List UInt8)] = [[98], [97]] := by decide
    have hp : listP 4 [] [([98, 10, 97, 10] : List UInt8)] = ([[97], [98]], true) := by
      unfold listP sortR sortOk
      rw [hl, hs]
      rfl
    unfold doP
    rw [hp]
    rfl
  have e2 : doP 3 [[97], [98]] [([97, 97] : List UInt8)] = ([98, 98], .ok) := by decide +kernel
  refine do_M (by simp) (by simp) (by simp) (do_M (by simp) (by simp) (by simp) ?_)
  rw [e1, e2]
  simpa using h
theorem bytesLess_lt (a b : Bs) : Op.bytesLess a b = decide (a < b) := bytesLess_eq a b
theorem sortedTexts_M {l : List (List UInt8)} {K : List (List UInt8) → Prop} (hl : l.length ≤ 1000000) (h : K (sortU l)) : M_smithyref_SortedTexts l K := by
  intro _
  refine ⟨fun out i => 0 ≤ i ∧ i ≤ l.length ∧ Strict out ∧ (∀ x, x ∈ out ↔ x ∈ l.take i.toNat) ∧ out.length ≤ i.toNat, fun _ i => l.length - i.toNat, ⟨by omega, by omega, List.Pairwise.nil, by simp, by simp⟩, fun out i ⟨a0, a1, a2, a3, a4⟩ => ⟨fun hlt => ?_, fun hge => ?_⟩⟩
  · generalize hx : l.getD i.toNat [] = x
    have htk : ∀ y, y ∈ l.take (i + 1).toNat ↔ y ∈ l.take i.toNat ∨ y = x := fun y => by
      rw [show (i + 1).toNat = i.toNat + 1 by omega, List.take_succ_eq_append_getElem (by omega), List.mem_append, List.mem_singleton, ← hx]
      simp [List.getD, show i.toNat < l.length by omega]
    refine ⟨fun o => Strict o ∧ (∀ y, y ∈ o ↔ y ∈ l.take (i + 1).toNat) ∧ o.length ≤ i.toNat + 1, ?_, fun o ⟨h1, h2, h3⟩ => ⟨by simp only [In]; omega, ⟨by omega, by omega, h1, h2, by omega⟩, by (try dsimp only); omega⟩⟩
    refine ⟨fun k => 0 ≤ k ∧ k ≤ out.length ∧ ∀ j, j < k.toNat → out.getD j [] < x, fun k => out.length - k.toNat, ⟨by omega, by omega, by intro j hj; simp at hj⟩, fun k ⟨b0, b1, b2⟩ => ⟨fun hd => ?_, fun hd => ?_, fun hc => ?_, fun hc => ⟨fun hd => ?_, fun hd => ?_, fun he => ?_, fun he => ?_⟩⟩⟩
    · simp only [decide_eq_true_eq] at hd; omega
    · omega
    · rw [Bool.and_eq_true, bytesLess_lt, decide_eq_true_eq, decide_eq_true_eq] at hc
      refine ⟨by simp only [In]; omega, ⟨by omega, by omega, fun j hj => ?_⟩, by (try dsimp only); omega⟩
      by_cases e : j = k.toNat
      · rw [e]; exact hc.2
      · exact b2 j (by omega)
    · simp only [decide_eq_true_eq] at hd; omega
    · omega
    · rw [Bool.and_eq_true, decide_eq_true_eq, decide_eq_true_eq] at he
      refine ⟨a2, fun y => ?_, by omega⟩
      rw [htk, a3]
      refine ⟨.inl, fun h => h.elim id fun h => ?_⟩
      rw [h, ← a3, ← he.2]
      exact getD_mem (by omega)
    · have hlen : (out.take k.toNat).length = k.toNat := by simp; omega
      refine ⟨by simp only [In]; omega, by omega, by omega, ?_, by omega, ?_, by omega, ?_, ?_⟩
      · simp only [List.length_nil, hlen]; omega
      · simp only [List.nil_append, List.length_cons, List.length_nil, hlen]; omega
      · simp only [List.nil_append, List.length_append, List.length_cons, List.length_nil, List.length_drop, hlen]; omega
      · rw [List.nil_append, List.append_assoc]
        refine ⟨strict_insert a2 (by omega) b2 fun hk => ?_, fun y => ?_, ?_⟩
        · have hk' : k < out.length := by omega
          rw [bytesLess_lt, decide_eq_true hk', Bool.true_and, decide_eq_false_iff_not] at hc
          rw [decide_eq_true hk', Bool.true_and, decide_eq_false_iff_not] at he
          rcases bs_lt_or (out.getD k.toNat []) x with h1 | h1 | h1
          · exact absurd h1 hc
          · exact absurd h1 he
          · exact h1
        · rw [htk, ← a3, List.mem_append, List.mem_append, List.mem_singleton]
          conv => rhs; lhs; rw [← List.take_append_drop k.toNat out, List.mem_append]
          constructor
          · rintro (h | h | h)
            · exact .inl (.inl h)
            · exact .inr h
            · exact .inl (.inr h)
          · rintro ((h | h) | h)
            · exact .inl h
            · exact .inr (.inr h)
            · exact .inr (.inl h)
        · simp only [List.length_append, List.length_cons, List.length_nil, List.length_drop, hlen]; omega
  · have e : i.toNat = l.length := by omega
    rw [e, List.take_length] at a3
    rw [sortU_of a2 a3]
    exact h
def evB : List (List UInt8) → Bool
  | a :: _ :: r => !decide (a = []) && evB r
  | [a] => !decide (a = [])
  | [] => true
theorem evB_drop {l : List (List UInt8)} {i : Nat} (h : i < l.length) : evB (l.drop i) = (!decide (l.getD i [] = []) && evB (l.drop (i + 2))) := by
  have e : l.getD i [] = l[i] := by simp [List.getD, h]
  rw [List.drop_eq_getElem_cons h, e]
  rcases Nat.lt_or_ge (i + 1) l.length with h2 | h2
  · rw [List.drop_eq_getElem_cons h2]; rfl
  · rw [List.drop_eq_nil_of_le (by omega), List.drop_eq_nil_of_le (by omega)]
    show _ = (_ && true)
    rw [Bool.and_true]; rfl
def allB (l : List (List UInt8)) : Bool := l.all fun x => decide (x = wRev) || decide (x = wUni)
theorem allB_drop {l : List (List UInt8)} {i : Nat} (h : i < l.length) : allB (l.drop i) = ((decide (l.getD i [] = wRev) || decide (l.getD i [] = wUni)) && allB (l.drop (i + 1))) := by
  have e : l.getD i [] = l[i] := by simp [List.getD, h]
  rw [List.drop_eq_getElem_cons h, e]
  rfl
theorem filt_is (args : List (List UInt8)) : (decide ((args.length : Int) = 1) || (decide ((args.length : Int) = 2) && decide (args.getD 1 [] = wNot))) = filtOk args := by
  unfold filtOk
  by_cases l1 : (args.length : Int) = 1
  · rw [decide_eq_true l1, decide_eq_false (show ¬ (args.length : Int) < 1 by omega), decide_eq_false (show ¬ (2 : Int) < args.length by omega), decide_eq_false (show ¬ (args.length : Int) = 2 by omega)]; rfl
  · rw [decide_eq_false l1]
    by_cases l2 : (args.length : Int) = 2
    · rw [decide_eq_true l2, decide_eq_false (show ¬ (args.length : Int) < 1 by omega), decide_eq_false (show ¬ (2 : Int) < args.length by omega)]; simp
    · rw [decide_eq_false l2]
      by_cases l3 : (args.length : Int) < 1
      · rw [decide_eq_true l3]; rfl
      · rw [decide_eq_true (show (2 : Int) < args.length by omega)]; simp
theorem sort_is (args : List (List UInt8)) : ((decide ((args.length : Int) ≤ 2) && decide (((sortU args).length : Int) = (args.length : Int))) && allB args) = sortOk args := by
  have hne : wRev ≠ wUni := by decide
  have hc : ∀ x : List UInt8, x = wRev ∨ x = wUni ∨ (x ≠ wRev ∧ x ≠ wUni ∧ wRev ≠ x ∧ wUni ≠ x) := fun x => by
    by_cases h1 : x = wRev
    · exact .inl h1
    · by_cases h2 : x = wUni
      · exact .inr (.inl h2)
      · exact .inr (.inr ⟨h1, h2, Ne.symm h1, Ne.symm h2⟩)
  match args with
  | [] =>
    have hs : ([] : List (List UInt8)) = sortU [] := sortU_of List.Pairwise.nil (fun _ => Iff.rfl)
    rw [← hs]
    decide
  | [x] =>
    have hs : (sortU [x]).length = 1 := by
      have : [x] = sortU [x] := sortU_of (List.pairwise_singleton _ _) (fun _ => Iff.rfl)
      rw [← this]; rfl
    rcases hc x with rfl | rfl | ⟨h1, h2, _, _⟩
    · unfold sortOk allB; rw [hs]; decide
    · unfold sortOk allB; rw [hs]; decide
    · unfold sortOk allB; rw [hs]; simp [h1, h2, Ne.symm h1, Ne.symm h2]
  | [x, y] =>
    have hs : ((sortU [x, y]).length : Int) = 2 ↔ x ≠ y := by
      constructor
      · rintro h rfl
        have : [x] = sortU [x, x] := sortU_of (List.pairwise_singleton _ _) (fun z => by simp)
        rw [← this] at h
        simp at h
      · intro h
        rcases bs_lt_or x y with h1 | h1 | h1
        · have : [x, y] = sortU [x, y] := sortU_of (by simp [Strict, h1]) (fun _ => Iff.rfl)
          rw [← this]; rfl
        · exact absurd h1 h
        · have : [y, x] = sortU [x, y] := sortU_of (by simp [Strict, h1]) (fun z => by simp [or_comm])
          rw [← this]; rfl
    have hd : decide (((sortU [x, y]).length : Int) = (([x, y] : List (List UInt8)).length : Int)) = !decide (x = y) := by
      rw [Bool.eq_iff_iff, decide_eq_true_eq]
      simpa using hs
    rw [hd]
    unfold sortOk allB
    rcases hc x with rfl | rfl | ⟨h1, h2, h1', h2'⟩ <;> rcases hc y with rfl | rfl | ⟨h3, h4, h3', h4'⟩
    all_goals first | decide | simp [*, Ne.symm hne]
  | x :: y :: z :: l =>
    have h1 : decide ((((x :: y :: z :: l).length : Nat) : Int) ≤ 2) = false := decide_eq_false (by simp only [List.length_cons]; omega)
    rw [h1, Bool.false_and, Bool.false_and]
    unfold sortOk
    refine (decide_eq_false ?_).symm
    simp only [List.length_cons]
    split <;> split <;> omega
theorem subP_spec : ∀ (k : Nat) (args : List (List UInt8)) (s : List UInt8), args.length = 2 * k → (∀ x ∈ args, x.length ≤ 20) → s.length * 20 ^ k ≤ 65536 → (subP args s).2 = if evB args = true then .ok else .e 16 := by
  intro k
  induction k with
  | zero =>
    intro args s hl _ _
    obtain rfl : args = [] := List.eq_nil_of_length_eq_zero (by omega)
    rfl
  | succ k ih =>
    intro args s hl hx hs
    match args, hl, hx with
    | a :: b :: r, hl, hx =>
      have hb := hx b (by simp)
      rw [subP_cons]
      by_cases ha : a = []
      · rw [if_pos ha, show evB (a :: b :: r) = (!decide (a = []) && evB r) from rfl, decide_eq_true ha]; rfl
      · have hal : 1 ≤ a.length := List.length_pos_iff.2 ha
        have hc : Lib.count s a * a.length ≤ s.length := Lib.countB_mul_le ⟨⟨a⟩⟩ hal s.length ⟨⟨s⟩⟩ (Nat.le_refl _)
        have hc1 : Lib.count s a * 1 ≤ Lib.count s a * a.length := Nat.mul_le_mul_left _ hal
        have hp : s.length * 20 ^ (k + 1) = (s.length * 20) * 20 ^ k := by rw [Nat.pow_succ]; grind
        have h20 : s.length * 20 * 1 ≤ (s.length * 20) * 20 ^ k := Nat.mul_le_mul_left _ (Nat.one_le_pow _ _ (by omega))
        have hlen := replAll_len s a b ha
        have hcb : Lib.count s a * b.length ≤ Lib.count s a * 20 := Nat.mul_le_mul_left _ hb
        have hno : ¬ ((0 : Int) < (b.length : Int) - (a.length : Int) ∧ (65536 - (s.length : Int)) / ((b.length : Int) - (a.length : Int)) < (Lib.count s a : Int)) := by
          rintro ⟨q1, q2⟩
          have h5 := Int.lt_mul_of_ediv_lt q1 q2
          have h6 : ((Lib.count s a * b.length : Nat) : Int) = (Lib.count s a : Int) * (b.length : Int) := Int.natCast_mul _ _
          have h7 : ((Lib.count s a * a.length : Nat) : Int) = (Lib.count s a : Int) * (a.length : Int) := Int.natCast_mul _ _
          rw [Int.mul_sub] at h5
          omega
        rw [if_neg ha, if_neg hno, show evB (a :: b :: r) = (!decide (a = []) && evB r) from rfl, decide_eq_false ha]
        refine ih r _ (by simp at hl; omega) (fun x h => hx x (by simp [h])) ?_
        have : (Lib.replaceAll s a b).length * 20 ^ k ≤ (s.length * 20) * 20 ^ k := Nat.mul_le_mul_right _ (by omega)
        omega
def goodP (t : Int) (args : List (List UInt8)) : Bool :=
  if t = 1 then decide ((args.length : Int) ≤ 1) else if t = 2 then filtOk args else if t = 3 then decide ((args.length : Int) % 2 = 0) && evB args else if t = 4 then sortOk args else decide ((args.length : Int) = 0)
theorem fit_small {l : List UInt8} (h : l.length ≤ 65536) : (fitP l).2 = .ok := by unfold fitP; rw [if_pos h]
theorem fail_spec {t : Int} {args : List (List UInt8)} (ht : t = 1 ∨ t = 2 ∨ t = 3 ∨ t = 4 ∨ t = 5) (hl : args.length ≤ 6) (hx : ∀ x ∈ args, x.length ≤ 20) : (doP t args [([97, 10] : List UInt8)]).2 = if goodP t args = true then .ok else .e 16 := by
  have hlin : linesA [([97, 10] : List UInt8)] = [[97]] := by decide
  rcases ht with rfl | rfl | rfl | rfl | rfl
  · show (if 1 < args.length then (([] : List UInt8), Er.e 16) else _).2 = if decide ((args.length : Int) ≤ 1) = true then _ else _
    by_cases h : 1 < args.length
    · rw [if_pos h, if_neg (by rw [decide_eq_true_eq]; omega)]
    · have hd : decide ((args.length : Int) ≤ 1) = true := decide_eq_true (by omega)
      rw [if_neg h, hd]
      exact fit_small (by simp [joinE, jnE])
  · show (if (listP 2 args [([97, 10] : List UInt8)]).2 = true then _ else (([] : List UInt8), Er.e 16)).2 = if filtOk args = true then _ else _
    have e : listP 2 args [([97, 10] : List UInt8)] = if filtOk args then ((linesA [([97, 10] : List UInt8)]).filter (filtB args), true) else ([], false) := rfl
    rw [e]
    cases filtOk args with
    | false => rfl
    | true =>
      rw [if_pos rfl, if_pos rfl, if_pos rfl]
      refine fit_small ?_
      rw [hlin]
      cases h : filtB args [97] <;> simp [joinE, jnE, List.filter, h]
  · show (substP args [([97, 10] : List UInt8)]).2 = if (decide ((args.length : Int) % 2 = 0) && evB args) = true then _ else _
    have hj : joinE [([97, 10] : List UInt8)] [] [] = [97, 10] := by simp [joinE, jnE]
    unfold substP
    rw [hj]
    by_cases h : (args.length : Int) % 2 = 0
    · rw [if_pos h, if_neg (by simp), decide_eq_true h, Bool.true_and]
      obtain ⟨k, hk⟩ : ∃ k, args.length = 2 * k := ⟨args.length / 2, by omega⟩
      refine subP_spec k args _ hk hx ?_
      have : k ≤ 3 := by omega
      have h3 : (20 : Nat) ^ k ≤ 20 ^ 3 := Nat.pow_le_pow_right (by omega) this
      show 2 * 20 ^ k ≤ 65536
      omega
    · rw [if_neg h, decide_eq_false h, Bool.false_and]; rfl
  · show (if (listP 4 args [([97, 10] : List UInt8)]).2 = true then _ else (([] : List UInt8), Er.e 16)).2 = if sortOk args = true then _ else _
    have e : listP 4 args [([97, 10] : List UInt8)] = if sortOk args then (sortR args (linesA [([97, 10] : List UInt8)]), true) else ([], false) := rfl
    rw [e]
    cases sortOk args with
    | false => rfl
    | true =>
      rw [if_pos rfl, if_pos rfl, if_pos rfl]
      refine fit_small ?_
      have h1 : sortB [([97] : List UInt8)] = [[97]] := (sortB_of (List.pairwise_singleton _ _) (List.Perm.refl _)).symm
      have h2 : sortU [([97] : List UInt8)] = [[97]] := (sortU_of (List.pairwise_singleton _ _) (fun _ => Iff.rfl)).symm
      rw [hlin]
      unfold sortR
      rw [h1, h2]
      cases args.contains wRev <;> cases args.contains wUni <;> simp [joinE, jnE]
  · show (if (listP 5 args [([97, 10] : List UInt8)]).2 = true then _ else (([] : List UInt8), Er.e 16)).2 = if decide ((args.length : Int) = 0) = true then _ else _
    have e : listP 5 args [([97, 10] : List UInt8)] = (digestsP [([97, 10] : List UInt8)], decide ((args.length : Int) = 0)) := rfl
    rw [e]
    by_cases h : (args.length : Int) = 0
    · rw [decide_eq_true h, if_pos rfl, if_pos rfl]
      refine fit_small ?_
      simp [joinE, jnE, digestsP, hexS_len, shaS_len]
    · rw [decide_eq_false h]; rfl
theorem fail_else {t : Int} {args inputs : List (List UInt8)} (ht : ¬ (t = 1 ∨ t = 2 ∨ t = 3 ∨ t = 4 ∨ t = 5)) : doP t args inputs = ([], .e 10) := by
  unfold doP
  rw [if_neg (by omega), if_neg (by omega), if_neg (by omega)]
theorem number_M {n : Int} {K : Int → Prop} (hn : In .i64 n) (h : ∀ m, 0 ≤ m → m < 3 → K m) : M_smithyworld_Number n 3 K := by
  have h1 : -3 < n.tmod 3 := Int.lt_tmod_of_pos n (by omega)
  have h2 : n.tmod 3 < 3 := Int.tmod_lt_of_pos n (by omega)
  have h3 : (n.tmod 3 + 3).tmod 3 = (n.tmod 3 + 3) % 3 := Int.tmod_eq_emod_of_nonneg (by omega)
  unfold M_smithyworld_Number
  refine ⟨by decide, by simp only [In]; omega, by decide, h _ ?_ ?_⟩ <;> omega
theorem name_none {t : Int} {K : List UInt8 → Prop} (ht : t < 1 ∨ 5 < t) (h : K []) : M_tool_Name t K := by
  have e : (decide (t < (1 : Int)) || decide ((5 : Int) < t)) = true := by
    rw [Bool.or_eq_true, decide_eq_true_eq, decide_eq_true_eq]; exact ht
  exact ⟨fun _ => h, fun h2 => by rw [e] at h2; cases h2⟩
set_option maxRecDepth 20000 in
theorem fails_ok {t : Int} {args : List (List UInt8)} {n : Int} {K : Bool → Prop} (_ : In .i64 t) (_ : ∀ x ∈ args, x.length ≤ maxLen) (hn : In .i64 n) (H : K true) : M_smithylaw23_ToolFails t args n K := by
  intro _
  refine tfirst_M ⟨fun h => (by simp at h), fun _ => vtexts_B (by decide) fun b hb => ⟨fun _ => H, fun h => ?_⟩⟩
  obtain ⟨a1, a2⟩ := hb (by simpa using h)
  have hal : args.length ≤ 6 := by omega
  have hax : ∀ x ∈ args, x.length ≤ 20 := fun x hx => by have := a2 x hx; omega
  refine do_M (fun x hx => by have := hax x hx; omega) (by simp) (by simp) ?_
  by_cases ht : t = 1 ∨ t = 2 ∨ t = 3 ∨ t = 4 ∨ t = 5
  · have spec := fail_spec ht hal hax
    generalize (doP t args [([97, 10] : List UInt8)]).2 = e at *
    generalize (doP t args [([97, 10] : List UInt8)]).1 = r at *
    refine ⟨fun g => g = goodP t args, ⟨fun h1 => ?_, fun h1 => ⟨fun h2 => ⟨fun _ h3 => (by rw [decide_eq_true_eq] at h3; omega), ?_⟩, fun h2 => ⟨fun h3 => ⟨by omega, ?_⟩, fun h3 => ⟨fun h4 => ?_, fun h4 => ⟨fun h5 => ?_, fun h5 => absurd ht (by omega)⟩⟩⟩⟩⟩, ?_⟩
    · subst h1; rfl
    · subst h2; exact filt_is args
    · subst h3
      refine ⟨fun g i => 0 ≤ i ∧ i ≤ args.length + 1 ∧ (g && evB (args.drop i.toNat)) = goodP 3 args, fun _ i => args.length + 1 - i.toNat, ⟨by omega, by omega, rfl⟩, fun g i ⟨b0, b1, b2⟩ => ⟨fun hlt => ⟨fun _ => by omega, by simp only [In]; omega, ⟨by omega, by omega, ?_⟩, by dsimp only; omega⟩, fun hge => ?_⟩⟩
      · rw [evB_drop (by omega)] at b2
        rw [show (i + 2).toNat = i.toNat + 2 by omega, Bool.and_assoc]
        exact b2
      · rw [List.drop_eq_nil_of_le (by omega)] at b2
        show g = _
        rw [← b2]
        exact (Bool.and_true g).symm
    · subst h4
      refine ⟨fun q => q = (decide ((args.length : Int) ≤ 2) && decide (((sortU args).length : Int) = (args.length : Int))), ⟨fun h6 => sortedTexts_M (by omega) (by rw [h6]; rfl), fun h6 => by rw [h6]; rfl⟩, ?_⟩
      rintro q rfl
      refine ⟨fun g i => 0 ≤ i ∧ i ≤ args.length ∧ (g && allB (args.drop i.toNat)) = goodP 4 args, fun _ i => args.length - i.toNat, ⟨by omega, by omega, sort_is args⟩, fun g i ⟨b0, b1, b2⟩ => ⟨fun hlt => ⟨fun _ => by omega, fun _ _ => by omega, by simp only [In]; omega, ⟨by omega, by omega, ?_⟩, by dsimp only; omega⟩, fun hge => ?_⟩⟩
      · rw [allB_drop (by omega)] at b2
        rw [show (i + 1).toNat = i.toNat + 1 by omega, Bool.and_assoc]
        exact b2
      · rw [List.drop_eq_nil_of_le (by omega)] at b2
        show g = _
        rw [← b2]
        exact (Bool.and_true g).symm
    · subst h5; rfl
    · rintro g rfl
      have hJ : ∃ J2 : Bool → Prop, ((((!((decide (e = Er.ok)) == goodP t args)) = true → J2 true) ∧ ((!((decide (e = Er.ok)) == goodP t args)) = false → (((!goodP t args) = true → M_smithysee_Is e (117 : Int) (fun (t132 : Bool) => J2 (!t132))) ∧ ((!goodP t args) = false → J2 false))))) ∧ (∀ q2 : Bool, J2 q2 → q2 = false) := by
        refine ⟨fun q => q = false, ⟨fun h1 => ?_, fun h1 => ⟨fun h2 => ?_, fun _ => rfl⟩⟩, fun q hq => hq⟩
        · rw [spec] at h1
          revert h1
          cases goodP t args <;> simp
        · rw [spec]
          have hg : goodP t args = false := by simpa using h2
          rw [hg]
          exact is_M rfl
      obtain ⟨J2, hJ1, hJ2⟩ := hJ
      refine ⟨J2, hJ1, fun q2 hq2 => ⟨fun h1 => (by rw [hJ2 q2 hq2] at h1; cases h1), fun _ => ⟨by omega, ?_⟩⟩⟩
      refine ⟨fun i half => 0 ≤ i ∧ i ≤ 32768, fun i _ => 32768 - i.toNat, ⟨by omega, by omega⟩, fun i half ⟨b0, b1⟩ hlen => ⟨fun hlt => ⟨by omega, by simp only [In]; omega, ⟨by omega, by omega⟩, by dsimp only; omega⟩, fun hge => number_M hn fun m m0 m3 => ⟨by simp only [List.length_cons, List.length_nil]; omega, ?_⟩⟩⟩
      have hlt : (([97, 98, 99] : List UInt8).take m.toNat).length = m.toNat := by rw [List.length_take]; simp only [List.length_cons, List.length_nil]; omega
      refine do_M (by simp) (by simp) (fun x hx => ?_) ?_
      · simp only [List.mem_cons, List.not_mem_nil, or_false] at hx
        rcases hx with rfl | rfl | rfl <;> omega
      · have hjl : (joinE [half, half, ([97, 98, 99] : List UInt8).take m.toNat] [] []).length = 65536 + m.toNat := by
          simp only [joinE, jnE, List.length_append, if_true, Bool.false_eq_true, if_false, List.length_nil, hlt]
          omega
        have hd : doP 1 [] [half, half, ([97, 98, 99] : List UInt8).take m.toNat] = fitP (joinE [half, half, ([97, 98, 99] : List UInt8).take m.toNat] [] []) := rfl
        rw [hd]
        unfold fitP
        rw [hjl]
        by_cases h0 : m = 0
        · subst h0
          rw [if_pos (by decide)]
          simpa using H
        · rw [if_neg (by omega)]
          simpa [h0] using H
  · rw [fail_else ht]
    refine ⟨fun _ => False, ⟨fun h1 => absurd (.inl h1) ht, fun h1 => ⟨fun h2 => absurd (.inr (.inl h2)) ht, fun h2 => ⟨fun h3 => absurd (.inr (.inr (.inl h3))) ht, fun h3 => ⟨fun h4 => absurd (.inr (.inr (.inr (.inl h4)))) ht, fun h4 => ⟨fun h5 => absurd (.inr (.inr (.inr (.inr h5)))) ht, fun h5 => is_M ⟨fun q => q = true, ⟨fun _ => name_none (by omega) (by simp), fun h6 => ?_⟩, ?_⟩⟩⟩⟩⟩⟩, fun _ h => h.elim⟩
    · simp [isB] at h6
    · rintro q rfl
      exact H
end Go.Proofs.YtilphcippnfklaaGreatDoor
 /- The chapter's digest is the program's: plain. -/
namespace Go.Proofs.YtilphcippnfklaaGreatDoor
open Go Go.RowKit
theorem bits_or_comm (k : IntKind) (a b : Int) : bits .or k a b = bits .or k b a := by
  unfold bits
  dsimp only
  rw [BitVec.or_comm]
theorem wr32 (z : Int) : IntKind.wrap .u32 z = z % 4294967296 := by simp [IntKind.wrap, IntKind.bits, IntKind.signed]
theorem wr64 (z : Int) : IntKind.wrap .u64 z = z % 18446744073709551616 := by simp [IntKind.wrap, IntKind.bits, IntKind.signed]
theorem wr8 (z : Int) : IntKind.wrap .u8 z = z % 256 := by simp [IntKind.wrap, IntKind.bits, IntKind.signed]
theorem wr8_ok (z : Int) : 0 ≤ IntKind.wrap .u8 z ∧ IntKind.wrap .u8 z ≤ 255 := by rw [wr8]; omega
theorem turn_M {x n : Int} {K : Int → Prop} (h0 : 0 < n) (h1 : n < 32) (h : K (rotr x n)) : M_smithyref1_turn x n K := by
  have hw : IntKind.wrap .u64 (32 - n) = 32 - n := by rw [wr64]; omega
  have e : rotr x n = bits .or .u32 (shrV .u32 x n.toNat) (shlV .u32 x (32 - n).toNat) := by
    unfold rotr rotl
    rw [show (0 - n) % 32 = 32 - n by omega, show 32 - (32 - n) = n by omega, bits_or_comm]
  refine ⟨by omega, by rw [hw]; omega, ?_⟩
  rw [hw, ← e]
  exact h
theorem D_len : ∀ (n : Nat) (hs : List Int) (x : List UInt8), x.length ≤ n → (D hs x).2.length = x.length % 64
  | 0, hs, x, h => by
    rw [D_step, if_neg (by omega)]
    show x.length = _
    omega
  | n + 1, hs, x, h => by
    rw [D_step]
    split
    · rw [D_len n _ _ (by rw [List.length_drop]; omega), List.length_drop]; omega
    · show x.length = _
      omega
theorem shaS_whole (b : List UInt8) : shaS b = outAt (D h0s (endS b (b.length : Int))).1 32 := by
  unfold shaS sumS
  rw [absorb_fuel _ _ _ (Nat.le_refl _)]
  have e : wrS h0s [] b = D h0s b := by unfold wrS D; rw [List.nil_append]
  rw [e]
  have h1 : endS b (b.length : Int) = b ++ ([128] ++ List.replicate ((120 - (b.length + 1) % 64) % 64) 0 ++ lenBs (8 * (b.length : Int)) 8) := by
    unfold endS padS; simp
  have h2 : endS (D h0s b).2 (b.length : Int) = (D h0s b).2 ++ ([128] ++ List.replicate ((120 - (b.length + 1) % 64) % 64) 0 ++ lenBs (8 * (b.length : Int)) 8) := by
    have h3 := D_len _ h0s b (Nat.le_refl _)
    have h4 : (120 - ((D h0s b).2 ++ [(128 : UInt8)]).length % 64) % 64 = (120 - (b.length + 1) % 64) % 64 := by
      rw [List.length_append, h3, List.length_singleton]; omega
    unfold endS padS
    rw [h4]; simp
  rw [h1, h2, D_app _ b.length h0s b (Nat.le_refl _)]
theorem padS_ge (l : List UInt8) : l.length ≤ (padS l).length ∧ (padS l).length ≤ l.length + 63 ∧ (padS l).length % 64 = 56 := by
  unfold padS
  rw [List.length_append, List.length_replicate]
  omega
theorem padS_id {l : List UInt8} (h : l.length % 64 = 56) : padS l = l := by
  unfold padS
  rw [show (120 - l.length % 64) % 64 = 0 by omega]
  simp
theorem endS_len (s : List UInt8) : (endS s (s.length : Int)).length % 64 = 0 ∧ (endS s (s.length : Int)).length ≤ s.length + 72 := by
  have := padS_ge (s ++ [128])
  unfold endS
  rw [List.length_append, lenBs_len]
  rw [List.length_append, List.length_singleton] at this
  omega
theorem getbs (M : List UInt8) (a j : Nat) (hj : j < 64) : ((M.drop a).take 64).getD j 0 = M.getD (a + j) 0 := by
  simp [List.getD, List.getElem?_take, hj]
theorem table_M {K : List Int → Prop} (h : K ktab) : M_smithyref1_table K := h
theorem sum_M {s : List UInt8} {K : List UInt8 → Prop} (hs : s.length ≤ 1000000) (h : K (shaS s)) : M_smithyref1_Sum s K := by
  have hP := padS_ge (s ++ [128])
  have hPl : (s ++ [(128 : UInt8)]).length = s.length + 1 := by simp
  rw [hPl] at hP
  have hE := endS_len s
  refine table_M ⟨by simp only [In]; omega, by omega, by simp; omega, by simp; omega, ?_⟩
  refine ⟨fun m => padS m = padS (s ++ [128]), fun m => (padS (s ++ [128])).length - m.length, by rw [List.nil_append], fun m hm => ⟨by omega, fun h56 => ?_, fun h56 => ?_⟩⟩
  · have h1 : m.length % 64 ≠ 56 := by omega
    have h2 := padS_step m h1
    have h3 := (padS_ge (m ++ [0])).1
    rw [h2, hm, List.length_append, List.length_singleton] at h3
    refine ⟨by simp only [List.length_singleton]; omega, h2.trans hm, ?_⟩
    dsimp only
    rw [List.length_append, List.length_singleton]
    omega
  have hm : padS m = padS (s ++ [128]) := hm
  rw [padS_id (l := m) (by omega)] at hm
  subst hm
  have hn8 : IntKind.wrap .u64 ((IntKind.wrap .u64 (s.length : Int)) * (8 : Int)) = 8 * (s.length : Int) := by rw [wr64, wr64]; omega
  rw [hn8]
  refine ⟨fun m2 i => -1 ≤ i ∧ i ≤ 7 ∧ m2 = padS (s ++ [128]) ++ lenBs (8 * (s.length : Int)) (7 - i).toNat, fun _ i => (i + 1).toNat, ⟨by omega, by omega, by simp [lenBs]⟩, fun m2 i ⟨a0, a1, a2⟩ => ⟨fun hlt => ?_, fun hge => ?_⟩⟩
  · have e8 : IntKind.wrap .u64 ((8 : Int) * i) = 8 * i := by rw [wr64]; omega
    have hb : UInt8.ofNat (IntKind.wrap .u8 (shrV .u64 (8 * (s.length : Int)) (8 * i).toNat)).toNat = lenB (8 * (s.length : Int)) (7 - i).toNat := by
      unfold lenB u8v
      rw [show (8 * (7 - (((7 - i).toNat : Nat) : Int))).toNat = (8 * i).toNat by omega]
    have hl2 : m2.length ≤ s.length + 80 := by rw [a2, List.length_append, lenBs_len]; omega
    rw [e8, hb]
    refine ⟨by simp only [In]; omega, by omega, wr8_ok _, by simp only [List.length_singleton]; omega, by simp only [In]; omega, ⟨by omega, by omega, ?_⟩, by dsimp only; omega⟩
    rw [show (7 - (i - 1)).toNat = (7 - i).toNat + 1 by omega, lenBs, ← List.append_assoc, ← a2]
  have hm2 : m2 = endS s (s.length : Int) := by
    rw [a2, show (7 - i).toNat = 8 by omega]; rfl
  clear a2 hn8
  subst hm2
  generalize hMd : endS s (s.length : Int) = M at *
  rw [shaS_whole, hMd] at h
  refine ⟨fun at_ hh => 0 ≤ at_ ∧ at_ ≤ M.length ∧ at_ % 64 = 0 ∧ hh.length = 8 ∧ D h0s M = D hh (M.drop at_.toNat), fun at_ _ => M.length - at_.toNat, ⟨by omega, by omega, by omega, rfl, rfl⟩, fun at_ hh ⟨b0, b1, b2, b3, b4⟩ _ => ⟨fun hlt => ⟨by omega, ?_⟩, fun hge => ?_⟩⟩
  · have hfit : at_ + 64 ≤ M.length := by omega
    generalize hbs : (M.drop at_.toNat).take 64 = bs
    have hget : ∀ j : Nat, j < 64 → M.getD (at_.toNat + j) 0 = bs.getD j 0 := fun j hj => by rw [← hbs, getbs M _ j hj]
    refine ⟨fun i w_ => 0 ≤ i ∧ i ≤ 16 ∧ w_ = wsAt bs i.toNat, fun i _ => 16 - i.toNat, ⟨by omega, by omega, rfl⟩, fun i w_ ⟨c0, c1, c2⟩ _ => ⟨fun hi => ?_, fun hi => ?_⟩⟩
    · refine ⟨by simp only [In]; omega, by simp only [In]; omega, by omega, by simp only [In]; omega, by simp only [In]; omega, by simp only [In]; omega, by omega, by simp only [In]; omega, by simp only [In]; omega, by simp only [In]; omega, by omega, by simp only [In]; omega, by simp only [In]; omega, by simp only [In]; omega, by omega, by omega, by simp only [In]; omega, ⟨by omega, by omega, ?_⟩, by dsimp only; omega⟩
      rw [show (i + 1).toNat = i.toNat + 1 by omega, wsAt, ← c2]
      congr 1
      rw [wnext, if_pos (by omega)]
      rw [show (at_ + 4 * i).toNat = at_.toNat + (4 * i.toNat) by omega, show (at_ + 4 * i + 1).toNat = at_.toNat + (4 * i.toNat + 1) by omega, show (at_ + 4 * i + 2).toNat = at_.toNat + (4 * i.toNat + 2) by omega, show (at_ + 4 * i + 3).toNat = at_.toNat + (4 * i.toNat + 3) by omega]
      rw [hget _ (by omega), hget _ (by omega), hget _ (by omega), hget _ (by omega)]
    refine ⟨fun i w_ => 16 ≤ i ∧ i ≤ 64 ∧ w_ = wsAt bs i.toNat, fun i _ => 64 - i.toNat, ⟨by omega, by omega, by rw [c2, show i.toNat = 16 by omega]; rfl⟩, fun i3 w_2 ⟨d0, d1, d2⟩ _ => ⟨fun hi3 => ?_, fun hi3 => ?_⟩⟩
    · refine ⟨by simp only [In]; omega, by omega, turn_M (by decide) (by decide) ⟨by simp only [In]; omega, by omega, turn_M (by decide) (by decide) ⟨by simp only [In]; omega, by omega, by simp only [In]; omega, by omega, turn_M (by decide) (by decide) ⟨by simp only [In]; omega, by omega, turn_M (by decide) (by decide) ⟨by simp only [In]; omega, by omega, by simp only [In]; omega, by omega, by simp only [In]; omega, by omega, by omega, by simp only [In]; omega, ⟨by omega, by omega, ?_⟩, by dsimp only; omega⟩⟩⟩⟩⟩
      rw [show (i3 + 1).toNat = i3.toNat + 1 by omega, wsAt, ← d2]
      congr 1
      rw [wnext, if_neg (by omega)]
      rw [show (i3 - 15).toNat = i3.toNat - 15 by omega, show (i3 - 2).toNat = i3.toNat - 2 by omega, show (i3 - 16).toNat = i3.toNat - 16 by omega, show (i3 - 7).toNat = i3.toNat - 7 by omega]
      dsimp only
      generalize bits .xor .u32 _ _ = A
      generalize bits .xor .u32 _ _ = B
      generalize w_2.getD (i3.toNat - 16) 0 = x
      generalize w_2.getD (i3.toNat - 7) 0 = y
      simp only [wr32]
      omega
    obtain rfl : i3 = 64 := by omega
    have e64 : (64 : Int).toNat = 64 := rfl
    have e8 : (8 : Int).toNat = 8 := rfl
    rw [e64] at d2
    refine ⟨by omega, by simp [b3], ?_⟩
    refine ⟨fun v i => 0 ≤ i ∧ i ≤ 64 ∧ v = hAt w_2 hh i.toNat, fun _ i => 64 - i.toNat, ⟨by omega, by omega, by rw [List.nil_append]; rfl⟩, fun v i4 ⟨e0, e1, e2⟩ => ⟨fun hi4 => ?_, fun hi4 => ?_⟩⟩
    · have hv : v.length = 8 := by rw [e2]; exact hAt_len _ _ b3 _
      have hk : ktab.length = 64 := rfl
      refine ⟨by omega, turn_M (by decide) (by decide) ⟨by omega, turn_M (by decide) (by decide) ⟨by omega, turn_M (by decide) (by decide) ⟨by omega, by omega, by omega, by omega, by omega, by omega, by omega, by omega, turn_M (by decide) (by decide) ⟨by omega, turn_M (by decide) (by decide) ⟨by omega, turn_M (by decide) (by decide) ⟨by omega, by omega, by omega, by omega, by omega, by omega, by omega, by omega, by omega, by omega, by omega, by omega, by omega, by simp only [In]; omega, ⟨by omega, by omega, ?_⟩, by dsimp only; omega⟩⟩⟩⟩⟩⟩⟩
      have hmax : (if IntKind.signed .u32 = true then (-1 : Int) else IntKind.max .u32) = IntKind.u32.max := rfl
      rw [show (i4 + 1).toNat = i4.toNat + 1 by omega, hAt, ← e2, hnext, hmax]
      generalize IntKind.wrap .u32 (IntKind.wrap .u32 (IntKind.wrap .u32 (IntKind.wrap .u32 (v.getD 7 0 + _) + _) + _) + _) = one
      have e3 : ∀ A B : Int, IntKind.wrap .u32 (IntKind.wrap .u32 (one + A) + B) = IntKind.wrap .u32 (one + IntKind.wrap .u32 (A + B)) := fun A B => by
        simp only [wr32]
        omega
      rw [e3]
    obtain rfl : i4 = 64 := by omega
    have hv : v.length = 8 := by rw [e2]; exact hAt_len _ _ b3 _
    refine ⟨fun i h2 => 0 ≤ i ∧ i ≤ 8 ∧ h2 = sumAt hh v i.toNat, fun i _ => 8 - i.toNat, ⟨by omega, by omega, rfl⟩, fun i5 h2 ⟨f0, f1, f2⟩ _ => ⟨fun hi5 => ?_, fun hi5 => ?_⟩⟩
    · refine ⟨by omega, by omega, by omega, by simp only [In]; omega, ⟨by omega, by omega, ?_⟩, by dsimp only; omega⟩
      rw [show (i5 + 1).toNat = i5.toNat + 1 by omega, sumAt, ← f2]
    obtain rfl : i5 = 8 := by omega
    have hmix : h2 = mixS hh bs := by rw [f2, e2, e64, e8, d2, mixS]
    refine ⟨by simp only [In]; omega, ⟨by omega, by omega, by omega, by rw [hmix, mixS_len]; exact b3, ?_⟩, by dsimp only; omega⟩
    rw [b4, D_step, if_pos (by rw [List.length_drop]; omega), hbs, ← hmix, List.drop_drop]
    rw [show (at_ + 64).toNat = at_.toNat + 64 by omega]
  have hd : M.drop at_.toNat = [] := List.drop_eq_nil_of_le (by omega)
  rw [hd, D_step hh [], if_neg (by simp)] at b4
  have hh1 : (D h0s M).1 = hh := by rw [b4]
  rw [hh1] at h
  refine ⟨fun i o => 0 ≤ i ∧ i ≤ 8 ∧ o = outAt hh (4 * i).toNat, fun i _ => 8 - i.toNat, ⟨by omega, by omega, rfl⟩, fun i6 o ⟨g0, g1, g2⟩ => ⟨fun hi6 => ?_, fun hi6 => ?_⟩⟩
  · refine ⟨fun j o => 0 ≤ j ∧ j ≤ 4 ∧ o = outAt hh (4 * i6 + j).toNat, fun j _ => 4 - j.toNat, ⟨by omega, by omega, by rw [g2, Int.add_zero]⟩, fun j o2 ⟨p0, p1, p2⟩ => ⟨fun hj => ?_, fun hj => ?_⟩⟩
    · have e64 : IntKind.wrap .u64 (24 - 8 * j) = 24 - 8 * j := by rw [wr64]; omega
      rw [e64]
      refine ⟨by simp only [In]; omega, by simp only [In]; omega, by omega, by simp only [In]; omega, by simp only [In]; omega, by omega, by omega, wr8_ok _, by rw [p2]; exact outAt_len _ _, by simp only [In]; omega, ⟨by omega, by omega, ?_⟩, by dsimp only; omega⟩
      rw [show (4 * i6 + (j + 1)).toNat = (4 * i6 + j).toNat + 1 by omega, outAt, ← p2]
      congr 1
      unfold u8v
      rw [show (4 * i6 + j).toNat / 4 = i6.toNat by omega, show (24 - 8 * ((((4 * i6 + j).toNat : Nat) : Int) % 4)) = 24 - 8 * j by omega]
    · refine ⟨by simp only [In]; omega, ⟨by omega, by omega, ?_⟩, by dsimp only; omega⟩
      rw [p2, show 4 * (i6 + 1) = 4 * i6 + j by omega]
  · rw [g2, show (4 * i6).toNat = 32 by omega]
    exact h
end Go.Proofs.YtilphcippnfklaaGreatDoor

 /- The digests of the chapter: plain. -/
namespace Go.Proofs.YtilphcippnfklaaGreatDoor
open Go Go.RowKit
theorem map_take_succ {α β : Type} (f : α → β) (l : List α) (d : α) (i : Nat) (h : i < l.length) : (l.take (i + 1)).map f = (l.take i).map f ++ [f (l.getD i d)] := by
  rw [List.take_succ_eq_append_getElem h, List.map_append]
  simp [List.getD, h]
theorem hex_M {s : List UInt8} {K : List UInt8 → Prop} (hl : s.length = 32) (h : K (hexS s)) : M_smithyref1_Hex s K := by
  refine ⟨by omega, fun out i => 0 ≤ i ∧ i ≤ 32 ∧ out = hexS (s.take i.toNat), fun _ i => 32 - i.toNat, ⟨by omega, by omega, rfl⟩, fun out i ⟨a0, a1, a2⟩ => ⟨fun hlt => ?_, fun hge => ?_⟩⟩
  · have hs := shr_4 (s.getD i.toNat 0)
    have ha := and_15 (s.getD i.toNat 0)
    have ho : out.length ≤ 64 := by rw [a2, hexS_len, List.length_take]; omega
    refine ⟨by omega, by simp only [List.length_cons, List.length_nil]; omega, by omega, by simp only [List.length_cons, List.length_nil]; omega, by simp only [List.length_cons, List.length_nil]; omega, by simp only [In]; omega, ⟨by omega, by omega, ?_⟩, by dsimp only; omega⟩
    rw [show (i + 1).toNat = i.toNat + 1 by omega, hexS_take s i.toNat (by omega), ← a2]
    rfl
  · rw [a2, show i.toNat = 32 by omega, List.take_of_length_le (by omega)]
    exact h
theorem text_M {s : List UInt8} {K : List UInt8 → Prop} (hl : s.length = 32) (h : K (hexS s)) : M_sha_Text s K := by
  intro t ht he
  have : t = s := List.ext_getElem (by omega) fun i h1 h2 => by
    have := he i (by omega)
    simpa [List.getD, h1, h2] using this
  rw [this]; exact h
theorem catM_le (l : List (List UInt8)) (h : ∀ x ∈ l, x.length ≤ 1000) : (catM l).length ≤ 1004 * l.length := by
  induction l with
  | nil => simp [catM]
  | cons x l ih =>
    have hx := h x (by simp)
    have := ih (fun y hy => h y (by simp [hy]))
    have e : catM (x :: l) = be4 x.length ++ x ++ catM l := rfl
    have hb : (be4 x.length).length = 4 := rfl
    rw [e, List.length_append, List.length_append, hb, List.length_cons]
    omega
end Go.Proofs.YtilphcippnfklaaGreatDoor

 /- The chapter's tools, plainly: lines, joining, finding, replacing. -/
namespace Go.Proofs.YtilphcippnfklaaGreatDoor
open Go Go.RowKit
theorem dec_eq_u8 {s : List UInt8} {i : Nat} {c : UInt8} : ((s.getD i 0).toNat : Int) = (c.toNat : Int) ↔ s.getD i 0 = c := by
  rw [Int.ofNat_inj, UInt8.toNat_inj]
theorem cLines_M {s : List UInt8} {K : List (List UInt8) → Prop} (hs : s.length ≤ 1000000) (h : K (lineR s)) : M_smithyref17_Lines s K := by
  refine ⟨fun l from_ i => 0 ≤ from_ ∧ from_ ≤ i ∧ i ≤ s.length ∧ l.length ≤ i ∧ (10 : UInt8) ∉ (s.drop from_.toNat).take (i.toNat - from_.toNat) ∧ lineR s = l ++ lineR (s.drop from_.toNat), fun _ _ i => s.length - i.toNat, ⟨by omega, by omega, by omega, by simp, by simp, by simp⟩, fun l from_ i ⟨a0, a1, a2, a3, a4, a5⟩ => ⟨fun hlt => ?_, fun hge => ?_⟩⟩
  · have hd : (s.drop from_.toNat) = (s.drop from_.toNat).take (i.toNat - from_.toNat) ++ s.getD i.toNat 0 :: s.drop (i.toNat + 1) := by
      conv => lhs; rw [← List.take_append_drop (i.toNat - from_.toNat) (s.drop from_.toNat)]
      rw [List.drop_drop, show from_.toNat + (i.toNat - from_.toNat) = i.toNat by omega, List.drop_eq_getElem_cons (show i.toNat < s.length by omega)]
      simp [List.getD, show i.toNat < s.length by omega]
    have ht1 : (s.drop from_.toNat).take ((i + 1).toNat - from_.toNat) = (s.drop from_.toNat).take (i.toNat - from_.toNat) ++ [s.getD i.toNat 0] := by
      rw [show (i + 1).toNat - from_.toNat = (i.toNat - from_.toNat) + 1 by omega, List.take_succ_eq_append_getElem (show i.toNat - from_.toNat < (s.drop from_.toNat).length by rw [List.length_drop]; omega)]
      rw [List.getElem_drop]
      simp [List.getD, show from_.toNat + (i.toNat - from_.toNat) = i.toNat by omega, show i.toNat < s.length by omega]
    refine ⟨fun l2 f2 => (s.getD i.toNat 0 = 10 ∧ l2 = l ++ [(s.drop from_.toNat).take (i.toNat - from_.toNat)] ∧ f2 = i + 1) ∨ (s.getD i.toNat 0 ≠ 10 ∧ l2 = l ∧ f2 = from_), ⟨by omega, fun e => ⟨by omega, by simp only [List.length_singleton]; omega, by simp only [In]; omega, .inl ⟨(dec_eq_u8 (c := 10)).1 e, rfl, rfl⟩⟩, fun e => .inr ⟨fun e2 => e ((dec_eq_u8 (c := 10)).2 e2), rfl, rfl⟩⟩, ?_⟩
    rintro l2 f2 (⟨e, rfl, rfl⟩ | ⟨e, rfl, rfl⟩)
    · refine ⟨by simp only [In]; omega, ⟨by omega, by omega, by omega, by simp only [List.length_append, List.length_singleton]; omega, by simp, ?_⟩, by dsimp only; omega⟩
      have hd2 := congrArg lineR hd
      rw [e, lineR_hit _ _ a4] at hd2
      rw [a5, hd2, List.append_assoc, show (i + 1).toNat = i.toNat + 1 by omega]
      rfl
    · refine ⟨by simp only [In]; omega, ⟨by omega, by omega, by omega, by omega, ?_, a5⟩, by dsimp only; omega⟩
      rw [ht1, List.mem_append, List.mem_singleton]
      rintro (h1 | h1)
      · exact a4 h1
      · exact e h1.symm
  · have hi : i.toNat = s.length := by omega
    rw [List.take_of_length_le (by rw [List.length_drop]; omega)] at a4
    refine ⟨fun l3 => l3 = lineR s, ⟨fun hf => ⟨by omega, by simp only [List.length_singleton]; omega, ?_⟩, fun hf => ?_⟩, ?_⟩
    · rw [a5, lineR_last a4 (fun e => by have := congrArg List.length e; rw [List.length_drop] at this; simp at this; omega)]
    · rw [a5, List.drop_eq_nil_of_le (by omega)]
      simp [lineR]
    · rintro _ rfl
      exact h
theorem clines_M {l : List (List UInt8)} {K : List (List UInt8) → Prop} (hl : l.length ≤ 1000) (hx : ∀ x ∈ l, x.length ≤ 100000) (h : K (linesA l)) : M_smithyref17_lines l K := by
  intro _
  refine ⟨fun o i => 0 ≤ i ∧ i ≤ l.length ∧ o = linesA (l.take i.toNat), fun _ i => l.length - i.toNat, ⟨by omega, by omega, rfl⟩, fun o i ⟨a0, a1, a2⟩ => ⟨fun hlt => ?_, fun hge => ?_⟩⟩
  · have h1 := hx _ (getD_mem (l := l) (k := i.toNat) (d := []) (by omega))
    have h2 := lineR_len (l.getD i.toNat [])
    have h3 := linesA_len (l := l.take i.toNat) fun x hx' => hx x (List.mem_of_mem_take hx')
    rw [List.length_take, ← a2] at h3
    refine ⟨by omega, cLines_M (by omega) ⟨by omega, by simp only [In]; omega, ⟨by omega, by omega, ?_⟩, by dsimp only; omega⟩⟩
    rw [show (i + 1).toNat = i.toNat + 1 by omega, linesA_take (by omega), ← a2]
  · rw [a2, List.take_of_length_le (by omega)]
    exact h
theorem joinE_bound (by_ end_ : List UInt8) (n : Nat) (hb : by_.length ≤ n) (he : end_.length ≤ n) : ∀ l : List (List UInt8), (∀ x ∈ l, x.length ≤ n) → (joinE l by_ end_).length ≤ 3 * n * l.length := by
  have go : ∀ (l : List (List UInt8)) (b : Bool), (∀ x ∈ l, x.length ≤ n) → (jnE by_ end_ b l).length ≤ 3 * n * l.length := by
    intro l
    induction l with
    | nil => intro b _; simp [jnE]
    | cons x l ih =>
      intro b h
      have h1 := h x (by simp)
      have h2 := ih false fun y hy => h y (by simp [hy])
      have h3 : ((if b = true then [] else by_) : List UInt8).length ≤ n := by split <;> simp [hb]
      simp only [jnE, List.length_append, List.length_cons]
      rw [Nat.mul_add]
      omega
  exact fun l h => go l true h
theorem cjoined_M {l : List (List UInt8)} {K : List UInt8 → Prop} (hl : l.length ≤ 100000000) (hx : ∀ x ∈ l, x.length ≤ 100000) (h : K (joinE l [] [10])) : M_smithyref17_joined l K := by
  intro _
  refine ⟨fun b i => 0 ≤ i ∧ i ≤ l.length ∧ b = joinE (l.take i.toNat) [] [10], fun _ i => l.length - i.toNat, ⟨by omega, by omega, rfl⟩, fun b i ⟨a0, a1, a2⟩ => ⟨fun hlt => ?_, fun hge => ?_⟩⟩
  · have h1 := hx _ (getD_mem (l := l) (k := i.toNat) (d := []) (by omega))
    have h3 := joinE_bound [] [10] 100000 (by simp) (by simp) (l.take i.toNat) fun x hx' => hx x (List.mem_of_mem_take hx')
    rw [List.length_take, ← a2] at h3
    refine ⟨by omega, by omega, by simp only [List.length_append, List.length_singleton]; omega, by simp only [In]; omega, ⟨by omega, by omega, ?_⟩, by dsimp only; omega⟩
    rw [show (i + 1).toNat = i.toNat + 1 by omega, joinE_take (by omega), ← a2]
    split <;> simp
  · rw [a2, List.take_of_length_le (by omega)]
    exact h
theorem cconcat_M {by_ : List UInt8} {l : List (List UInt8)} {K : List UInt8 → Prop} (hl : l.length ≤ 1000) (hb : by_.length ≤ 100000) (hx : ∀ x ∈ l, x.length ≤ 100000) (h : K (joinE l by_ [])) : M_smithyref17_concat by_ l K := by
  intro _
  refine ⟨fun b i => 0 ≤ i ∧ i ≤ l.length ∧ b = joinE (l.take i.toNat) by_ [], fun _ i => l.length - i.toNat, ⟨by omega, by omega, rfl⟩, fun b i ⟨a0, a1, a2⟩ => ⟨fun hlt => ?_, fun hge => ?_⟩⟩
  · have h1 := hx _ (getD_mem (l := l) (k := i.toNat) (d := []) (by omega))
    have h3 := joinE_bound by_ [] 100000 hb (by simp) (l.take i.toNat) fun x hx' => hx x (List.mem_of_mem_take hx')
    rw [List.length_take, ← a2] at h3
    refine ⟨fun b2 => b2 = b ++ (if i.toNat = 0 then [] else by_), ⟨fun e => ⟨by omega, by rw [if_neg (by omega)]⟩, fun e => by rw [if_pos (by omega), List.append_nil]⟩, ?_⟩
    rintro _ rfl
    have h4 : ((if i.toNat = 0 then [] else by_) : List UInt8).length ≤ 100000 := by split <;> simp [hb]
    refine ⟨by omega, by simp only [List.length_append]; omega, by simp only [In]; omega, ⟨by omega, by omega, ?_⟩, by dsimp only; omega⟩
    rw [show (i + 1).toNat = i.toNat + 1 by omega, joinE_take (by omega), ← a2]
    simp
  · rw [a2, List.take_of_length_le (by omega)]
    exact h
theorem bound_M {n i : Int} {K : Int → Prop} (h0 : 0 ≤ i) (h : K (if n < i then n else i)) : M_smithyref11_bound n i K := ⟨fun h1 => absurd h1 (by omega), fun _ => h⟩
theorem ccut_M {n : Int} {K : Int → Int → Prop} (hn : 0 ≤ n) (h : K 0 n) : M_smithyref11_Cut n 0 n true true K := by
  unfold M_smithyref11_Cut
  refine bound_M (by omega) (bound_M hn ?_)
  refine ⟨fun a2 => a2 = 0, ⟨fun h1 => (by cases h1), fun _ => ?_⟩, ?_⟩
  · split <;> omega
  rintro _ rfl
  refine ⟨fun b2 => b2 = n, ⟨fun h1 => (by cases h1), fun _ => ?_⟩, ?_⟩
  · split <;> omega
  rintro b2 rfl
  have e2 : (if (0 : Int) < b2 then b2 else 0) = b2 := by split <;> omega
  rw [e2]
  exact h
theorem occ_is (s sub : List UInt8) (i : Nat) : Lib.occAt s sub i = decide ((s.drop i).take sub.length = sub) := by
  unfold Lib.occAt
  rw [Bool.eq_iff_iff, List.isPrefixOf_iff_prefix, decide_eq_true_eq, List.prefix_iff_eq_take, eq_comm]
theorem occ_room {s sub : List UInt8} {i : Nat} (h : s.length < i + sub.length) (hi : i ≤ s.length) : Lib.occAt s sub i = false := by
  rw [occ_is, decide_eq_false_iff_not]
  intro e
  have := congrArg List.length e
  rw [List.length_take, List.length_drop] at this
  omega
theorem find_M {s what : List UInt8} {K : Int → Prop} (hs : s.length ≤ 1000000) (hw : what.length ≤ 1000000) (h : ∀ t : Int, decide ((0 : Int) ≤ t) = Lib.contains s what → K t) : M_smithyref11_Find s what 0 (s.length : Int) K := by
  have hc : ∀ i : Nat, i ≤ s.length → Lib.occAt s what i = true → Lib.contains s what = true := fun i hi ho => by
    unfold Lib.contains
    rw [decide_eq_true_eq]
    rcases Lib.index_spec s what with ⟨_, h2⟩ | ⟨j, h2, _⟩
    · rw [h2 i hi] at ho; cases ho
    · rw [h2]; omega
  have hn : (∀ i : Nat, i ≤ s.length → Lib.occAt s what i = false) → Lib.contains s what = false := fun ho => by
    unfold Lib.contains
    rw [decide_eq_false_iff_not]
    rcases Lib.index_spec s what with ⟨h2, _⟩ | ⟨j, _, h3, h4, _⟩
    · omega
    · rw [ho j h3] at h4; cases h4
  unfold M_smithyref11_Find
  refine ccut_M (by omega) ?_
  refine ⟨fun i => 0 ≤ i ∧ i ≤ s.length + 1 ∧ ∀ j : Nat, (j : Int) < i → Lib.occAt s what j = false, fun i => s.length + 1 - i.toNat, ⟨by omega, by omega, fun j hj => by omega⟩, fun i ⟨a0, a1, a2⟩ => ⟨by simp only [In]; omega, fun hle => ?_, fun hgt => ?_⟩⟩
  · have e3 : (i + (what.length : Int)).toNat - i.toNat = what.length := by omega
    refine ⟨by simp only [In]; omega, fun _ => by simp only [In]; omega, fun _ => ⟨by omega, by omega, by omega⟩, ?_⟩
    rw [e3, ← occ_is, decide_eq_true (show (what.length : Int) ≤ (s.length : Int) - i by omega), Bool.true_and]
    refine ⟨fun e => h i ?_, fun e => ⟨by simp only [In]; omega, ⟨by omega, by omega, fun j hj => ?_⟩, by dsimp only; omega⟩⟩
    · rw [hc _ (by omega) e, decide_eq_true a0]
    · by_cases e4 : (j : Int) = i
      · rw [show j = i.toNat by omega]; exact e
      · exact a2 j (by omega)
  · refine h (-1) ?_
    rw [hn fun j hj => ?_]
    · rfl
    by_cases e : (j : Int) < i
    · exact a2 j e
    · exact occ_room (by omega) hj
/-! replacing, byte by byte -/
theorem index_self (a t : List UInt8) (ha : a ≠ []) : Lib.index (a ++ t) a = 0 := by
  cases a with
  | nil => exact absurd rfl ha
  | cons c a =>
    rw [List.cons_append, Lib.index, if_pos]
    rw [← List.cons_append, List.isPrefixOf_iff_prefix]
    exact List.prefix_append _ _
theorem replK_same (a : List UInt8) : ∀ (k : Nat) (s : List UInt8), Lib.count s a = k → a ≠ [] → Lib.replaceK a a k s = s := by
  intro k
  induction k with
  | zero => intro s _ _; simp [Lib.replaceK]
  | succ k ih =>
    intro s hc ha
    obtain ⟨i, hi⟩ := Lib.index_of_count (s := s) (old := a) (by omega)
    have h1 := Lib.count_hit ha hi
    rw [Lib.replaceK_hit a a k s i hi, ih _ (by omega) ha]
    have ho : Lib.occAt s a i = true := by
      rcases Lib.index_spec s a with ⟨h2, _⟩ | ⟨j, h2, _, h4, _⟩
      · omega
      · rw [show i = j by omega]; exact h4
    rw [occ_is, decide_eq_true_eq] at ho
    conv => lhs; lhs; rhs; rw [← ho]
    rw [List.append_assoc, ← List.drop_drop, List.take_append_drop, List.take_append_drop]
theorem repl_is (s a b : List UInt8) (ha : a ≠ []) : Lib.replaceAll s a b = Lib.replaceK a b (Lib.count s a) s := by
  by_cases he : a = b
  · subst he
    rw [replK_same a _ s rfl ha]
    unfold Lib.replaceAll Lib.replace
    simp
  · unfold Lib.replaceAll Lib.replace Lib.replaceNum
    simp [he]
theorem repl_hit (a b t : List UInt8) (ha : a ≠ []) : Lib.replaceAll (a ++ t) a b = b ++ Lib.replaceAll t a b := by
  have hi := index_self a t ha
  have hc := Lib.count_hit (i := 0) ha hi
  have hd : (a ++ t).drop (0 + a.length) = t := by simp
  rw [hd] at hc
  rw [repl_is _ _ _ ha, repl_is _ _ _ ha, hc, Nat.add_comm, Lib.replaceK_hit a b _ _ 0 hi, hd]
  simp
theorem repl_miss (c : UInt8) (a b t : List UInt8) (ha : a ≠ []) (hp : a.isPrefixOf (c :: t) = false) : Lib.replaceAll (c :: t) a b = c :: Lib.replaceAll t a b := by
  have hix : Lib.index (c :: t) a = if Lib.index t a == -1 then -1 else Lib.index t a + 1 := by rw [Lib.index, hp]; simp
  rw [repl_is _ _ _ ha, repl_is _ _ _ ha]
  by_cases hm : Lib.index t a = -1
  · have h1 : Lib.index (c :: t) a = -1 := by rw [hix, hm]; rfl
    rw [Lib.count_miss h1, Lib.count_miss hm]
    simp [Lib.replaceK]
  · have hge := Lib.index_ge t a
    obtain ⟨j, hj⟩ : ∃ j : Nat, Lib.index t a = j := ⟨(Lib.index t a).toNat, by omega⟩
    have h1 : Lib.index (c :: t) a = ((j + 1 : Nat) : Int) := by rw [hix, if_neg (fun e => hm (beq_iff_eq.1 e)), hj]; omega
    have hd : (c :: t).drop (j + 1 + a.length) = t.drop (j + a.length) := by
      rw [show j + 1 + a.length = (j + a.length) + 1 by omega]; rfl
    rw [Lib.count_hit ha h1, Lib.count_hit ha hj, hd, Nat.add_comm 1, Lib.replaceK_hit a b _ _ _ h1, Lib.replaceK_hit a b _ _ _ hj, hd]
    rfl
theorem repl_nil (a b : List UInt8) (ha : a ≠ []) : Lib.replaceAll [] a b = [] := by
  have hi : Lib.index [] a = -1 := by
    unfold Lib.index
    rw [if_neg (by simpa using ha)]
  rw [repl_is _ _ _ ha, Lib.count_miss hi]
  rfl
end Go.Proofs.YtilphcippnfklaaGreatDoor

 /- The chapter's tools, plainly: replacing, sorting. -/
namespace Go.Proofs.YtilphcippnfklaaGreatDoor
open Go Go.RowKit
def subC : List (List UInt8) → List UInt8 → List UInt8 × Bool
  | a :: b :: r, s => if a = [] ∨ 65536 < s.length then ([], false) else subC r (Lib.replaceAll s a b)
  | _, s => (s, true)
theorem subC_cons (a b : List UInt8) (r : List (List UInt8)) (s : List UInt8) : subC (a :: b :: r) s = if a = [] ∨ 65536 < s.length then ([], false) else subC r (Lib.replaceAll s a b) := rfl
def subD (args inputs : List (List UInt8)) : List UInt8 × Bool := if (args.length : Int) % 2 = 0 then subC args (joinE inputs [] []) else ([], false)
theorem drop_take_pre {s a : List UInt8} {k : Nat} : ((s.drop k).take a.length = a) ↔ ∃ t, s.drop k = a ++ t := by
  constructor
  · intro h
    exact ⟨(s.drop k).drop a.length, by conv => lhs; rw [← List.take_append_drop a.length (s.drop k), h]⟩
  · rintro ⟨t, h⟩
    rw [h, List.take_left']
    rfl
theorem csub_M {args inputs : List (List UInt8)} {K : List UInt8 → Bool → Prop} (ha : ∀ x ∈ args, x.length ≤ 1000) (hl : inputs.length ≤ 100) (hx : ∀ x ∈ inputs, x.length ≤ 10000) (h : K (subD args inputs).1 (subD args inputs).2) : M_smithyref17_substituted args inputs K := by
  intro hm _
  simp only [maxLen] at hm
  unfold subD at h
  refine ⟨by omega, fun e => by rw [if_neg e] at h; exact h, fun e => cconcat_M (by omega) (by simp) (fun x hx' => by have := hx x hx'; omega) ?_⟩
  rw [if_pos e] at h
  have hj := joinE_bound [] [] 10000 (by simp) (by simp) inputs hx
  generalize joinE inputs [] [] = s0 at *
  refine ⟨fun s i => 0 ≤ i ∧ i ≤ args.length ∧ i % 2 = 0 ∧ s.length ≤ 100000000 ∧ subC args s0 = subC (args.drop i.toNat) s, fun _ i => args.length - i.toNat, ⟨by omega, by omega, by omega, by omega, by simp⟩, fun s i ⟨a0, a1, a2, a3, a4⟩ => ⟨by simp only [In]; omega, fun hlt => ⟨by omega, ?_⟩, fun hge => ?_⟩⟩
  · have hd : args.drop i.toNat = args.getD i.toNat [] :: args.getD (i.toNat + 1) [] :: args.drop (i.toNat + 2) := by
      rw [List.drop_eq_getElem_cons (show i.toNat < args.length by omega), List.drop_eq_getElem_cons (show i.toNat + 1 < args.length by omega)]
      simp [List.getD, show i.toNat < args.length by omega, show i.toNat + 1 < args.length by omega]
    rw [hd] at a4
    have l1 := ha _ (getD_mem (l := args) (k := i.toNat) (d := []) (by omega))
    have l2 := ha _ (getD_mem (l := args) (k := i.toNat + 1) (d := []) (by omega))
    have ei : (i + 1).toNat = i.toNat + 1 := by omega
    rw [ei]
    generalize args.getD i.toNat [] = a at *
    generalize args.getD (i.toNat + 1) [] = b at *
    rw [subC_cons] at a4
    refine ⟨fun hn => ?_, fun hn => ?_⟩
    · rw [Bool.or_eq_true, decide_eq_true_eq, decide_eq_true_eq] at hn
      rw [if_pos (hn.elim .inl fun q => .inr (by omega))] at a4
      rw [a4] at h; exact h
    · rw [Bool.or_eq_false_iff, decide_eq_false_iff_not, decide_eq_false_iff_not] at hn
      obtain ⟨hn1, hn2⟩ := hn
      rw [if_neg (fun q => q.elim hn1 fun q => by omega)] at a4
      have hal : 1 ≤ a.length := List.length_pos_iff.2 hn1
      refine ⟨fun o k => 0 ≤ k ∧ k ≤ s.length ∧ (o.length : Int) ≤ 1000 * k ∧ Lib.replaceAll s a b = o ++ Lib.replaceAll (s.drop k.toNat) a b, fun _ k => s.length - k.toNat, ⟨by omega, by omega, by simp, by simp⟩, fun o k ⟨b0, b1, b2, b3⟩ => ⟨fun hk => ?_, fun hk => ?_⟩⟩
      · have e3 : (k + (a.length : Int)).toNat - k.toNat = a.length := by omega
        rw [e3]
        refine ⟨by simp only [In]; omega, by omega, fun _ => by omega, fun q => by rw [decide_eq_true_eq] at q; simp only [In]; omega, fun q => by rw [decide_eq_true_eq] at q; omega, fun _ => by omega, fun q => ?_, fun q => ?_⟩
        · rw [Bool.and_eq_true, decide_eq_true_eq, decide_eq_true_eq] at q
          obtain ⟨t, ht⟩ := drop_take_pre.1 q.2
          refine ⟨by simp only [In]; omega, by omega, by omega, by omega, by simp only [In]; omega, ⟨by omega, by omega, by simp only [List.length_append]; omega, ?_⟩, by dsimp only; omega⟩
          rw [b3, ht, repl_hit a b t hn1, List.append_assoc]
          have : s.drop (k + (a.length : Int)).toNat = t := by
            rw [show (k + (a.length : Int)).toNat = k.toNat + a.length by omega, ← List.drop_drop, ht]
            simp
          rw [this]
        · have hp : a.isPrefixOf (s.drop k.toNat) = false := by
            rw [← Bool.not_eq_true, List.isPrefixOf_iff_prefix]
            rintro ⟨t, ht⟩
            have hle := congrArg List.length ht
            rw [List.length_append, List.length_drop] at hle
            rw [decide_eq_true (show (a.length : Int) ≤ (s.length : Int) - k by omega), Bool.true_and, decide_eq_false_iff_not] at q
            exact q (drop_take_pre.2 ⟨t, ht.symm⟩)
          have hc : s.drop k.toNat = s.getD k.toNat 0 :: s.drop (k.toNat + 1) := by
            rw [List.drop_eq_getElem_cons (show k.toNat < s.length by omega)]
            simp [List.getD, show k.toNat < s.length by omega]
          rw [hc] at hp
          refine ⟨by omega, by simp only [List.length_singleton]; omega, by simp only [In]; omega, ⟨by omega, by omega, by simp only [List.length_append, List.length_singleton]; omega, ?_⟩, by dsimp only; omega⟩
          rw [b3, hc, repl_miss _ a b _ hn1 hp, show (k + 1).toNat = k.toNat + 1 by omega, List.append_assoc]
          rfl
      · rw [List.drop_eq_nil_of_le (by omega), repl_nil _ _ hn1, List.append_nil] at b3
        rw [b3] at a4
        refine ⟨by simp only [In]; omega, ⟨by omega, by omega, by omega, by omega, ?_⟩, by dsimp only; omega⟩
        rw [show (i + 2).toNat = i.toNat + 2 by omega]
        exact a4
  · have : args.drop i.toNat = [] := List.drop_eq_nil_of_le (by omega)
    rw [this] at a4
    rw [a4] at h
    exact h
def fitC (p : List UInt8 × Bool) : List UInt8 × Er := if p.2 = true ∧ p.1.length ≤ 65536 then (p.1, .ok) else ([], .e 16)
theorem subC_long (args : List (List UInt8)) (s : List UInt8) (h : 65536 < s.length) : fitC (subC args s) = ([], .e 16) := by
  match args with
  | a :: b :: r =>
    rw [subC_cons, if_pos (.inr h)]; rfl
  | [a] => show fitC (s, true) = _; unfold fitC; rw [if_neg (by rintro ⟨_, q⟩; exact absurd q (by dsimp only; omega))]
  | [] => show fitC (s, true) = _; unfold fitC; rw [if_neg (by rintro ⟨_, q⟩; exact absurd q (by dsimp only; omega))]
theorem subC_P : ∀ (n : Nat) (args : List (List UInt8)) (s : List UInt8), args.length ≤ n → s.length ≤ 65536 → fitC (subC args s) = subP args s := by
  intro n
  induction n with
  | zero =>
    intro args s hl hs
    obtain rfl : args = [] := List.eq_nil_of_length_eq_zero (by omega)
    show fitC (s, true) = (s, .ok)
    unfold fitC
    rw [if_pos ⟨rfl, hs⟩]
  | succ n ih =>
    intro args s hl hs
    match args, hl with
    | a :: b :: r, hl =>
      rw [subC_cons, subP_cons]
      by_cases ha : a = []
      · rw [if_pos (.inl ha), if_pos ha]; rfl
      · rw [if_neg (fun q => q.elim ha fun q => by omega), if_neg ha]
        have hal : 1 ≤ a.length := List.length_pos_iff.2 ha
        have hlen := replAll_len s a b ha
        have h6 : ((Lib.count s a * b.length : Nat) : Int) = (Lib.count s a : Int) * (b.length : Int) := Int.natCast_mul _ _
        have h7 : ((Lib.count s a * a.length : Nat) : Int) = (Lib.count s a : Int) * (a.length : Int) := Int.natCast_mul _ _
        by_cases hc : (0 : Int) < (b.length : Int) - (a.length : Int) ∧ (65536 - (s.length : Int)) / ((b.length : Int) - (a.length : Int)) < (Lib.count s a : Int)
        · rw [if_pos hc]
          refine subC_long r _ ?_
          have h5 := Int.lt_mul_of_ediv_lt hc.1 hc.2
          rw [Int.mul_sub] at h5
          omega
        · rw [if_neg hc]
          refine ih r _ (by simp at hl; omega) ?_
          by_cases hp : (0 : Int) < (b.length : Int) - (a.length : Int)
          · have h5 : (Lib.count s a : Int) * ((b.length : Int) - (a.length : Int)) ≤ 65536 - (s.length : Int) := (Int.le_ediv_iff_mul_le hp).1 (by
              have : ¬ ((65536 - (s.length : Int)) / ((b.length : Int) - (a.length : Int)) < (Lib.count s a : Int)) := fun q => hc ⟨hp, q⟩
              omega)
            rw [Int.mul_sub] at h5
            omega
          · have : Lib.count s a * b.length ≤ Lib.count s a * a.length := Nat.mul_le_mul_left _ (by omega)
            omega
    | [a], _ =>
      show fitC (s, true) = (s, .ok)
      unfold fitC
      rw [if_pos ⟨rfl, hs⟩]
    | [], _ =>
      show fitC (s, true) = (s, .ok)
      unfold fitC
      rw [if_pos ⟨rfl, hs⟩]
theorem subD_P (args inputs : List (List UInt8)) : fitC (subD args inputs) = substP args inputs := by
  unfold subD substP
  by_cases h : (args.length : Int) % 2 = 0
  · rw [if_pos h, if_pos h]
    by_cases h2 : 65536 < (joinE inputs [] []).length
    · rw [if_pos h2, subC_long _ _ h2]
    · rw [if_neg h2, subC_P _ _ _ (Nat.le_refl _) (by omega)]
  · rw [if_neg h, if_neg h]; rfl
/-! sorting -/
theorem le_insert {out : List Bs} {x : Bs} {k : Nat} (h : out.Pairwise (· ≤ ·)) (hk : k ≤ out.length) (h1 : ∀ j, j < k → out.getD j [] ≤ x) (h2 : k < out.length → x < out.getD k []) : (out.take k ++ ([x] ++ out.drop k)).Pairwise (· ≤ ·) := by
  have hp := List.pairwise_iff_getElem.1 h
  have h2' : ∀ b ∈ out.drop k, x ≤ b := fun b hb => by
    obtain ⟨i, hi, rfl⟩ := List.getElem_of_mem hb
    simp only [List.length_drop] at hi
    rw [List.getElem_drop]
    have hk' : k < out.length := by omega
    have e : out.getD k [] = out[k] := by simp [List.getD, hk']
    have h3 := h2 hk'
    rw [e] at h3
    by_cases h0 : i = 0
    · subst h0; exact List.le_of_lt h3
    · exact List.le_trans (List.le_of_lt h3) (hp k (k + i) hk' (by omega) (by omega))
  have h1' : ∀ a ∈ out.take k, a ≤ x := fun a ha => by
    obtain ⟨i, hi, rfl⟩ := List.getElem_of_mem ha
    simp only [List.length_take] at hi
    rw [List.getElem_take]
    have := h1 i (by omega)
    rwa [show out.getD i [] = out[i]'(by omega) by simp [List.getD, show i < out.length by omega]] at this
  refine List.pairwise_append.2 ⟨List.Pairwise.take h, List.pairwise_append.2 ⟨List.pairwise_singleton _ _, List.Pairwise.drop h, fun a ha b hb => ?_⟩, fun a ha b hb => ?_⟩
  · simp only [List.mem_singleton] at ha
    subst ha
    exact h2' b hb
  · rcases List.mem_append.1 hb with hb | hb
    · simp only [List.mem_singleton] at hb
      subst hb
      exact h1' a ha
    · have h3 := h
      rw [← List.take_append_drop k out] at h3
      exact (List.pairwise_append.1 h3).2.2 a ha b hb
theorem perm_insert {out l : List Bs} {x : Bs} {k : Nat} (h : out.Perm l) : (out.take k ++ ([x] ++ out.drop k)).Perm (l ++ [x]) := by
  have h1 : (out.take k ++ ([x] ++ out.drop k)).Perm ([x] ++ (out.take k ++ out.drop k)) := by
    rw [← List.append_assoc, ← List.append_assoc]
    exact List.perm_append_comm.append_right _
  rw [List.take_append_drop] at h1
  exact h1.trans ((h.append_left [x]).trans List.perm_append_comm)
def b2n : Bool → Nat
  | true => 1
  | false => 0
def sc (r u : Bool) : List Bs → Option (Bool × Bool)
  | [] => some (r, u)
  | x :: l => if (decide (x = wRev) && !r) = true then sc true u l else if (decide (x = wUni) && !u) = true then sc r true l else none
theorem sc_le : ∀ (l : List Bs) (r u : Bool), b2n (r || l.contains wRev) + b2n (u || l.contains wUni) ≤ b2n r + b2n u + l.length
  | [], r, u => by simp
  | x :: l, r, u => by
    have hne : wRev ≠ wUni := by decide
    rw [List.contains_cons, List.contains_cons, List.length_cons]
    by_cases h1 : x = wRev
    · subst h1
      have ih := sc_le l true u
      have e1 : (wRev == wRev) = true := by decide
      have e2 : (wUni == wRev) = false := by decide
      rw [e1, e2, Bool.true_or, Bool.false_or, Bool.or_true]
      rw [Bool.true_or] at ih
      have : b2n true = 1 := rfl
      omega
    · by_cases h2 : x = wUni
      · subst h2
        have ih := sc_le l r true
        have e1 : (wRev == wUni) = false := by decide
        have e2 : (wUni == wUni) = true := by decide
        rw [e1, e2, Bool.true_or, Bool.false_or, Bool.or_true]
        rw [Bool.true_or] at ih
        have : b2n true = 1 := rfl
        omega
      · have ih := sc_le l r u
        have e1 : (wRev == x) = false := by rw [beq_eq_false_iff_ne]; exact Ne.symm h1
        have e2 : (wUni == x) = false := by rw [beq_eq_false_iff_ne]; exact Ne.symm h2
        rw [e1, e2, Bool.false_or, Bool.false_or]
        omega
theorem sc_spec : ∀ (l : List Bs) (r u : Bool), sc r u l = if b2n (r || l.contains wRev) + b2n (u || l.contains wUni) = b2n r + b2n u + l.length then some (r || l.contains wRev, u || l.contains wUni) else none
  | [], r, u => by simp [sc]
  | x :: l, r, u => by
    have hne : wRev ≠ wUni := by decide
    have t1 : b2n true = 1 := rfl
    have t0 : b2n false = 0 := rfl
    unfold sc
    rw [List.contains_cons, List.contains_cons, List.length_cons]
    by_cases h1 : x = wRev
    · subst h1
      have e1 : (wRev == wRev) = true := by decide
      have e2 : (wUni == wRev) = false := by decide
      rw [e1, e2, Bool.true_or, Bool.false_or, Bool.or_true, decide_eq_true rfl, decide_eq_false hne]
      have le := sc_le l true u
      rw [Bool.true_or] at le
      cases r with
      | false =>
        rw [if_pos (show (true && !false) = true from rfl), sc_spec l true u, Bool.true_or]
        by_cases hh : b2n true + b2n (u || l.contains wUni) = b2n true + b2n u + l.length
        · rw [if_pos hh, if_pos (by omega)]
        · rw [if_neg hh, if_neg (by omega)]
      | true =>
        rw [if_neg (by simp), if_neg (by simp), if_neg (by omega)]
    · by_cases h2 : x = wUni
      · subst h2
        have e1 : (wRev == wUni) = false := by decide
        have e2 : (wUni == wUni) = true := by decide
        rw [e1, e2, Bool.true_or, Bool.false_or, Bool.or_true, decide_eq_true rfl, decide_eq_false (Ne.symm hne)]
        have le := sc_le l r true
        rw [Bool.true_or] at le
        cases u with
        | false =>
          rw [if_neg (by simp), if_pos (show (true && !false) = true from rfl), sc_spec l r true, Bool.true_or]
          by_cases hh : b2n (r || l.contains wRev) + b2n true = b2n r + b2n true + l.length
          · rw [if_pos hh, if_pos (by omega)]
          · rw [if_neg hh, if_neg (by omega)]
        | true =>
          rw [if_neg (by simp), if_neg (by simp), if_neg (by omega)]
      · have e1 : (wRev == x) = false := by rw [beq_eq_false_iff_ne]; exact Ne.symm h1
        have e2 : (wUni == x) = false := by rw [beq_eq_false_iff_ne]; exact Ne.symm h2
        have le := sc_le l r u
        rw [e1, e2, Bool.false_or, Bool.false_or, decide_eq_false h1, decide_eq_false h2, if_neg (by simp), if_neg (by simp), if_neg (by omega)]
theorem sc_args (args : List Bs) : sc false false args = if sortOk args = true then some (args.contains wRev, args.contains wUni) else none := by
  rw [sc_spec]
  unfold sortOk
  rw [Bool.false_or, Bool.false_or]
  have t0 : b2n false = 0 := rfl
  have t1 : b2n true = 1 := rfl
  rw [t0]
  cases args.contains wRev <;> cases args.contains wUni
  all_goals
    simp only [t0, t1, if_true, if_false, Bool.false_eq_true, decide_eq_true_eq]
    by_cases h : args.length = 0
    · by_cases h1 : args.length = 1
      · omega
      · simp [h, h1] <;> omega
    · split <;> split <;> first | rfl | omega
theorem getD_get {α : Type} {l : List α} {k : Nat} {d : α} (h : k < l.length) : l.getD k d = l[k] := by
  simp [List.getD, h]
/-- the chapter's order -/
theorem ins_M {l : List Bs} {u : Bool} {i2 : Int} {out : List Bs} {J2 : List Bs → Prop} (hl : l.length ≤ 100000000) (b0 : 0 ≤ i2) (hlt : i2 < l.length) (ho : out.length ≤ i2) (hs : out.Pairwise (· ≤ ·)) (h0 : u = false → out.Perm (l.take i2.toNat)) (h1 : u = true → Strict out ∧ ∀ x, x ∈ out ↔ x ∈ l.take i2.toNat)
    (hJ : ∀ o : List Bs, o.length ≤ i2 + 1 → o.Pairwise (· ≤ ·) → (u = false → o.Perm (l.take (i2 + 1).toNat)) → (u = true → Strict o ∧ ∀ x, x ∈ o ↔ x ∈ l.take (i2 + 1).toNat) → J2 o) :
    Lp1 (fun (k : Int) k_3 => ((decide (k < (out.length : Int))) = true → (0 ≤ k ∧ k < (out.length : Nat))) ∧
 ((decide (k < (out.length : Int))) = true → (0 ≤ i2 ∧ i2 < (l.length : Nat))) ∧
 ((((decide (k < (out.length : Int))) && (Op.bytesLess (out.getD k.toNat []) (l.getD i2.toNat []) || decide ((out.getD k.toNat []) = (l.getD i2.toNat [])))) = true → (In .i64 (k + (1 : Int))) ∧
 k_3 (k + (1 : Int))) ∧
 (((decide (k < (out.length : Int))) && (Op.bytesLess (out.getD k.toNat []) (l.getD i2.toNat []) || decide ((out.getD k.toNat []) = (l.getD i2.toNat [])))) = false → ((u && (decide ((0 : Int) < k))) = true → (In .i64 (k - (1 : Int)))) ∧
 ((u && (decide ((0 : Int) < k))) = true → (0 ≤ k - (1 : Int) ∧ k - (1 : Int) < (out.length : Nat))) ∧
 ((u && (decide ((0 : Int) < k))) = true → (0 ≤ i2 ∧ i2 < (l.length : Nat))) ∧
 ((((u && (decide ((0 : Int) < k))) && (decide ((out.getD ((k - (1 : Int)).toNat) []) = (l.getD i2.toNat [])))) = true → J2 out) ∧
 (((u && (decide ((0 : Int) < k))) && (decide ((out.getD ((k - (1 : Int)).toNat) []) = (l.getD i2.toNat [])))) = false → (In .i64 ((out.length : Int) + (1 : Int))) ∧
 (0 ≤ (out.length : Int) + (1 : Int) ∧ ((out.length : Int) + (1 : Int)) * 16 ≤ 140737488355328 ∧ (out.length : Int) + (1 : Int) ≤ 140737488355328) ∧
 (0 ≤ k ∧ k ≤ (out.length : Nat)) ∧
 (((([] : List (List UInt8))).length + (out.take k.toNat).length) * 16 ≤ 140737488355328) ∧
 (0 ≤ i2 ∧ i2 < (l.length : Nat)) ∧
 (((([] : List (List UInt8)) ++ (out.take k.toNat)).length + (([l.getD i2.toNat []] : List (List UInt8))).length) * 16 ≤ 140737488355328) ∧
 (0 ≤ k ∧ k ≤ (out.length : Int) ∧ (out.length : Int) ≤ (out.length : Nat)) ∧
 ((((([] : List (List UInt8)) ++ (out.take k.toNat)) ++ ([l.getD i2.toNat []] : List (List UInt8))).length + (out.drop k.toNat).length) * 16 ≤ 140737488355328) ∧
 J2 (((([] : List (List UInt8)) ++ (out.take k.toNat)) ++ ([l.getD i2.toNat []] : List (List UInt8))) ++ (out.drop k.toNat))))))) (0 : Int) := by
  have htk : l.take (i2 + 1).toNat = l.take i2.toNat ++ [l.getD i2.toNat []] := by
    rw [show (i2 + 1).toNat = i2.toNat + 1 by omega, List.take_succ_eq_append_getElem (by omega)]
    simp [List.getD, show i2.toNat < l.length by omega]
  rw [htk] at hJ
  generalize l.getD i2.toNat [] = x at *
  refine ⟨fun k => 0 ≤ k ∧ k ≤ out.length ∧ ∀ j, j < k.toNat → out.getD j [] ≤ x, fun k => out.length - k.toNat, ⟨by omega, by omega, by intro j hj; simp at hj⟩, fun k ⟨c0, c1, c2⟩ => ⟨fun hd => ?_, fun hd => ?_, fun hc => ?_, fun hc => ⟨fun hd => ?_, fun hd => ?_, fun hd => ?_, fun he => ?_, fun he => ?_⟩⟩⟩
  · simp only [decide_eq_true_eq] at hd; omega
  · omega
  · rw [Bool.and_eq_true, Bool.or_eq_true, bytesLess_lt, decide_eq_true_eq, decide_eq_true_eq, decide_eq_true_eq] at hc
    refine ⟨by simp only [In]; omega, ⟨by omega, by omega, fun j hj => ?_⟩, by dsimp only; omega⟩
    by_cases e : j = k.toNat
    · rw [e]
      rcases hc.2 with h | h
      · exact List.le_of_lt h
      · rw [h]; exact List.le_refl _
    · exact c2 j (by omega)
  · simp only [Bool.and_eq_true, decide_eq_true_eq] at hd; simp only [In]; omega
  · simp only [Bool.and_eq_true, decide_eq_true_eq] at hd; omega
  · omega
  · rw [Bool.and_eq_true, Bool.and_eq_true, decide_eq_true_eq, decide_eq_true_eq] at he
    obtain ⟨⟨hu, hk⟩, hx⟩ := he
    refine hJ out (by omega) hs (fun q => by rw [hu] at q; cases q) fun _ => ⟨(h1 hu).1, fun y => ?_⟩
    rw [List.mem_append, List.mem_singleton, ← (h1 hu).2]
    refine ⟨.inl, fun h => h.elim id fun h => ?_⟩
    rw [h, ← hx]
    exact getD_mem (by omega)
  · have hlen : (out.take k.toNat).length = k.toNat := by simp; omega
    refine ⟨by simp only [In]; omega, by omega, by omega, ?_, by omega, ?_, by omega, ?_, ?_⟩
    · simp only [List.length_nil, hlen]; omega
    · simp only [List.nil_append, List.length_cons, List.length_nil, hlen]; omega
    · simp only [List.nil_append, List.length_append, List.length_cons, List.length_nil, List.length_drop, hlen]; omega
    rw [List.nil_append, List.append_assoc]
    have hgt : k.toNat < out.length → x < out.getD k.toNat [] := fun hk => by
      have hk' : k < out.length := by omega
      rw [bytesLess_lt, decide_eq_true hk', Bool.true_and, Bool.or_eq_false_iff, decide_eq_false_iff_not, decide_eq_false_iff_not] at hc
      rcases bs_lt_or (out.getD k.toNat []) x with h1 | h1 | h1
      · exact absurd h1 hc.1
      · exact absurd h1 hc.2
      · exact h1
    refine hJ _ (by simp only [List.length_append, List.length_cons, List.length_nil, List.length_drop, hlen]; omega) (le_insert hs (by omega) c2 hgt) (fun q => perm_insert (h0 q)) fun q => ⟨strict_insert (h1 q).1 (by omega) (fun j hj => ?_) hgt, fun y => ?_⟩
    · have hk0 : (0 : Int) < k := by omega
      rw [q, decide_eq_true hk0, Bool.true_and, Bool.true_and, decide_eq_false_iff_not] at he
      have hl1 : out.getD (k - 1).toNat [] < x := bs_lt_of (c2 _ (by omega)) he
      by_cases e : j = (k - 1).toNat
      · rw [e]; exact hl1
      · have hp := List.pairwise_iff_getElem.1 (h1 q).1 j (k - 1).toNat (by omega) (by omega) (by omega)
        have e1 : out.getD j [] = out[j]'(by omega) := getD_get (by omega)
        have e2 : out.getD (k - 1).toNat [] = out[(k - 1).toNat]'(by omega) := getD_get (by omega)
        rw [e1]
        rw [e2] at hl1
        exact List.lt_trans hp hl1
    · rw [List.mem_append (s := l.take i2.toNat), List.mem_singleton, ← (h1 q).2, List.mem_append, List.mem_append, List.mem_singleton]
      conv => rhs; lhs; rw [← List.take_append_drop k.toNat out, List.mem_append]
      constructor
      · rintro (h | h | h)
        · exact .inl (.inl h)
        · exact .inr h
        · exact .inl (.inr h)
      · rintro ((h | h) | h)
        · exact .inl h
        · exact .inr (.inr h)
        · exact .inr (.inl h)
theorem sortR_le {args l : List Bs} {x : Bs} (h : x ∈ sortR args l) : x ∈ l := by
  unfold sortR at h
  split at h
  · rw [List.mem_reverse] at h
    split at h
    · exact sortU_le h
    · exact (sortB_mem _ _).1 h
  · split at h
    · exact sortU_le h
    · exact (sortB_mem _ _).1 h
theorem sortR_len (args l : List Bs) : (sortR args l).length ≤ l.length := by
  have h1 := sortU_length l
  have h2 := (sortB_perm l).length_eq
  unfold sortR
  split
  · rw [List.length_reverse]; split <;> omega
  · split <;> omega
theorem csorted_M {args inputs : List (List UInt8)} {K : List UInt8 → Bool → Prop} (hl : inputs.length ≤ 100) (hx : ∀ x ∈ inputs, x.length ≤ 1000) (h0 : sortOk args = false → K [] false) (h1 : sortOk args = true → K (joinE (sortR args (linesA inputs)) [] [10]) true) : M_smithyref17_sorted args inputs K := by
  intro hm _
  simp only [maxLen] at hm
  refine ⟨fun r u i => 0 ≤ i ∧ i ≤ args.length ∧ sc false false args = sc r u (args.drop i.toNat), fun _ _ i => args.length - i.toNat, ⟨by omega, by omega, by simp⟩, fun r u i ⟨a0, a1, a2⟩ => ⟨fun hlt => ?_, fun hge => ?_⟩⟩
  · have hd : args.drop i.toNat = args.getD i.toNat [] :: args.drop (i.toNat + 1) := by
      rw [List.drop_eq_getElem_cons (show i.toNat < args.length by omega)]
      simp [List.getD, show i.toNat < args.length by omega]
    rw [hd, sc] at a2
    generalize args.getD i.toNat [] = x at *
    refine ⟨fun r2 u2 => sc false false args = sc r2 u2 (args.drop (i.toNat + 1)), ⟨by omega, fun e => ?_, fun e => ⟨by omega, fun e2 => ?_, fun e2 => ?_⟩⟩, fun r2 u2 h2 => ⟨by simp only [In]; omega, ⟨by omega, by omega, by rw [show (i + 1).toNat = i.toNat + 1 by omega]; exact h2⟩, by dsimp only; omega⟩⟩
    · rw [if_pos (show (decide (x = wRev) && !r) = true from e)] at a2; exact a2
    · rw [if_neg (by rw [show (decide (x = wRev) && !r) = false from e]; decide), if_pos (show (decide (x = wUni) && !u) = true from e2)] at a2; exact a2
    · rw [if_neg (by rw [show (decide (x = wRev) && !r) = false from e]; decide), if_neg (by rw [show (decide (x = wUni) && !u) = false from e2]; decide), sc_args] at a2
      refine h0 ?_
      cases hs : sortOk args with
      | false => rfl
      | true => rw [hs, if_pos rfl] at a2; cases a2
  · rw [List.drop_eq_nil_of_le (by omega), sc, sc_args] at a2
    have hok : sortOk args = true := by
      cases hs : sortOk args with
      | true => rfl
      | false => rw [hs, if_neg (by decide)] at a2; cases a2
    rw [hok, if_pos rfl] at a2
    have er : args.contains wRev = r := congrArg Prod.fst (Option.some.inj a2)
    have eu : args.contains wUni = u := congrArg Prod.snd (Option.some.inj a2)
    have hR := h1 hok
    have hle := fun x => sortR_le (args := args) (l := linesA inputs) (x := x)
    have hln := sortR_len args (linesA inputs)
    have hll := linesA_len (l := inputs) fun x hx' => by have := hx x hx'; omega
    unfold sortR at hR hle hln
    rw [er, eu] at hR hle hln
    refine clines_M (by omega) (fun x hx' => by have := hx x hx'; omega) ?_
    have hxl : ∀ x ∈ linesA inputs, x.length ≤ 100000 := fun x hx' => linesA_le hx' fun y hy => by have := hx y hy; omega
    generalize linesA inputs = l at *
    refine ⟨fun out i2 => 0 ≤ i2 ∧ i2 ≤ l.length ∧ (out.length : Int) ≤ i2 ∧ out.Pairwise (· ≤ ·) ∧ (u = false → out.Perm (l.take i2.toNat)) ∧ (u = true → Strict out ∧ ∀ x, x ∈ out ↔ x ∈ l.take i2.toNat), fun _ i2 => l.length - i2.toNat, ⟨by omega, by omega, by simp, List.Pairwise.nil, fun _ => by simp, fun _ => ⟨List.Pairwise.nil, by simp⟩⟩, fun out i2 ⟨b0, b1, b2, b3, b4, b5⟩ => ⟨fun hlt => ?_, fun hge => ?_⟩⟩
    · obtain ⟨P, hP⟩ : ∃ P : List Bs → Prop, P = fun o => (o.length : Int) ≤ i2 + 1 ∧ o.Pairwise (· ≤ ·) ∧ (u = false → o.Perm (l.take (i2 + 1).toNat)) ∧ (u = true → Strict o ∧ ∀ x, x ∈ o ↔ x ∈ l.take (i2 + 1).toNat) := ⟨_, rfl⟩
      refine ⟨P, ?_, fun o hPo => ?_⟩
      · exact ins_M (J2 := P) (by omega) b0 hlt b2 b3 b4 b5 fun o d1 d2 d3 d4 => by rw [hP]; exact ⟨d1, d2, d3, d4⟩
      · rw [hP] at hPo
        obtain ⟨c1, c2, c3, c4⟩ := hPo
        exact ⟨by simp only [In]; omega, ⟨by omega, by omega, c1, c2, c3, c4⟩, by dsimp only; omega⟩
    · have e : i2.toNat = l.length := by omega
      rw [e, List.take_length] at b4 b5
      have ho : out = if u = true then sortU l else sortB l := by
        cases u with
        | false => rw [if_neg (by decide)]; exact sortB_of b3 (b4 rfl)
        | true => rw [if_pos rfl]; exact sortU_of (b5 rfl).1 (b5 rfl).2
      rw [← ho] at hR hle hln
      refine ⟨fun o => o = if r = true then out.reverse else out, ⟨fun hr => ⟨by simp only [In]; omega, fun t i3 => -1 ≤ i3 ∧ i3 < out.length ∧ t = (out.drop (i3 + 1).toNat).reverse, fun _ i3 => (i3 + 1).toNat, ⟨by omega, by omega, by rw [List.drop_eq_nil_of_le (by omega)]; rfl⟩, fun t i3 ⟨d0, d1, d2⟩ => ⟨fun hi => ?_, fun hi => ?_⟩⟩, fun hr => by rw [hr]; rfl⟩, ?_⟩
      · have htl : t.length ≤ out.length := by rw [d2, List.length_reverse, List.length_drop]; omega
        refine ⟨by omega, by simp only [List.length_singleton]; omega, by simp only [In]; omega, ⟨by omega, by omega, ?_⟩, by dsimp only; omega⟩
        rw [d2, show (i3 - 1 + 1).toNat = i3.toNat by omega, show (i3 + 1).toNat = i3.toNat + 1 by omega, List.drop_eq_getElem_cons (show i3.toNat < out.length by omega), List.reverse_cons]
        simp [List.getD, show i3.toNat < out.length by omega]
      · show t = _
        rw [if_pos hr, d2, show (i3 + 1).toNat = 0 by omega]
        rfl
      · rintro o rfl
        exact cjoined_M (by omega) (fun x hx' => hxl x (hle x hx')) hR
end Go.Proofs.YtilphcippnfklaaGreatDoor

 /- ToolSays, plainly. -/
namespace Go.Proofs.YtilphcippnfklaaGreatDoor
open Go Go.RowKit
def doneP (tool : Int) (args inputs : List (List UInt8)) : List UInt8 × Bool :=
  if tool = 1 then (joinE inputs (if args.length = 1 then args.getD 0 [] else []) [], decide ((args.length : Int) ≤ 1))
  else if tool = 2 then (if filtOk args = true then (joinE ((linesA inputs).filter (filtB args)) [] [10], true) else ([], false))
  else if tool = 3 then subD args inputs
  else if tool = 4 then (if sortOk args = true then (joinE (sortR args (linesA inputs)) [] [10], true) else ([], false))
  else (joinE (digestsP inputs) [] [10], decide ((args.length : Int) = 0))
theorem cdone_M {tool : Int} {args inputs : List (List UInt8)} {K : List UInt8 → Bool → Prop} (ha : ∀ x ∈ args, x.length ≤ 1000) (hl : inputs.length ≤ 100) (hx : ∀ x ∈ inputs, x.length ≤ 1000) (h : K (doneP tool args inputs).1 (doneP tool args inputs).2) : M_smithyref17_done tool args inputs K := by
  intro hm _
  unfold doneP at h
  have hxb : ∀ x ∈ inputs, x.length ≤ 100000 := fun x hx' => by have := hx x hx'; omega
  refine ⟨fun e => ?_, fun e => ⟨fun e2 => ⟨fun _ h2 => by rw [decide_eq_true_eq] at h2; omega, fun e3 => ?_, fun e3 => ?_⟩, fun e2 => ⟨fun e3 => ?_, fun e3 => ⟨fun e4 => ?_, fun e4 => ?_⟩⟩⟩⟩
  · rw [if_pos e] at h
    refine ⟨fun b => b = (if args.length = 1 then args.getD 0 [] else []), ⟨fun e1 => ⟨by omega, by rw [if_pos (by omega)]⟩, fun e1 => by rw [if_neg (by omega)]⟩, ?_⟩
    rintro b rfl
    refine cconcat_M (by omega) ?_ hxb h
    split
    · have := ha _ (getD_mem (l := args) (k := 0) (d := []) (by omega)); omega
    · simp
  · have hok : filtOk args = false := by unfold filtOk; rw [show wNot = ([110, 111, 116] : List UInt8) from rfl, e3]; rfl
    rw [if_neg e, if_pos e2, if_neg (by rw [hok]; decide)] at h
    exact h
  · have hok : filtOk args = true := by unfold filtOk; rw [show wNot = ([110, 111, 116] : List UInt8) from rfl, e3]; rfl
    rw [if_neg e, if_pos e2, if_pos hok] at h
    have hn : 1 ≤ args.length := by
      rw [Bool.or_eq_false_iff, Bool.or_eq_false_iff, decide_eq_false_iff_not] at e3
      omega
    have h0 := ha _ (getD_mem (l := args) (k := 0) (d := []) (by omega))
    refine clines_M (by omega) hxb ?_
    have hxl : ∀ x ∈ linesA inputs, x.length ≤ 100000 := fun x hx' => linesA_le hx' hxb
    have hll := linesA_len hxb
    generalize linesA inputs = l at *
    refine ⟨fun o i => 0 ≤ i ∧ i ≤ l.length ∧ o = (l.take i.toNat).filter (filtB args), fun _ i => l.length - i.toNat, ⟨by omega, by omega, rfl⟩, fun o i ⟨a0, a1, a2⟩ => ⟨fun hlt => ?_, fun hge => ?_⟩⟩
    · have hol : o.length ≤ l.length := by
        rw [a2]
        exact Nat.le_trans (List.length_filter_le _ _) (by rw [List.length_take]; omega)
      have hxl' := hxl _ (getD_mem (l := l) (k := i.toNat) (d := []) (by omega))
      refine ⟨fun o' => o' = (l.take (i.toNat + 1)).filter (filtB args), ⟨by omega, by omega, by omega, find_M (by omega) (by omega) fun t ht => ?_⟩, ?_⟩
      · rw [ht]
        refine ⟨fun e => ⟨by omega, by simp only [List.length_singleton]; omega, ?_⟩, fun e => ?_⟩
        · rw [filter_step _ _ _ (by omega), if_pos (show filtB args (l.getD i.toNat []) = true from e), ← a2]
        · rw [filter_step _ _ _ (by omega), if_neg (by rw [show filtB args (l.getD i.toNat []) = false from e]; decide), ← a2, List.append_nil]
      · rintro _ rfl
        exact ⟨by simp only [In]; omega, ⟨by omega, by omega, by rw [show (i + 1).toNat = i.toNat + 1 by omega]⟩, by dsimp only; omega⟩
    · rw [a2, List.take_of_length_le (by omega)]
      exact cjoined_M (Nat.le_trans (List.length_filter_le _ _) (by omega)) (fun x hx' => hxl x (List.mem_filter.1 hx').1) h
  · rw [if_neg e, if_neg e2, if_pos e3] at h
    exact csub_M ha hl (fun x hx' => by have := hx x hx'; omega) h
  · rw [if_neg e, if_neg e2, if_neg e3, if_pos e4] at h
    refine csorted_M hl hx (fun hk => ?_) (fun hk => ?_)
    · rw [if_neg (by rw [hk]; decide)] at h; exact h
    · rw [if_pos hk] at h; exact h
  · rw [if_neg e, if_neg e2, if_neg e3, if_neg e4] at h
    refine ⟨fun o i => 0 ≤ i ∧ i ≤ inputs.length ∧ o = digestsP (inputs.take i.toNat), fun _ i => inputs.length - i.toNat, ⟨by omega, by omega, rfl⟩, fun o i ⟨a0, a1, a2⟩ => ⟨fun hlt => ?_, fun hge => ?_⟩⟩
    · have hxl := hx _ (getD_mem (l := inputs) (k := i.toNat) (d := []) (by omega))
      have hol : o.length ≤ 1000 := by rw [a2, digestsP, List.length_map, List.length_take]; omega
      refine ⟨by omega, sum_M (by omega) (hex_M (shaS_len _) ⟨by simp only [List.length_singleton]; omega, by simp only [In]; omega, ⟨by omega, by omega, ?_⟩, by dsimp only; omega⟩)⟩
      rw [show (i + 1).toNat = i.toNat + 1 by omega, a2]
      unfold digestsP
      rw [List.take_succ_eq_append_getElem (show i.toNat < inputs.length by omega), List.map_append]
      simp [List.getD, show i.toNat < inputs.length by omega]
    · rw [a2, List.take_of_length_le (by omega)]
      refine cjoined_M (by unfold digestsP; rw [List.length_map]; omega) (fun x hx' => ?_) h
      unfold digestsP at hx'
      obtain ⟨y, _, rfl⟩ := List.mem_map.1 hx'
      rw [hexS_len, shaS_len]; omega
theorem fit_C (t : List UInt8) (b : Bool) : fitC (t, b) = if b = true then fitP t else ([], .e 16) := by
  unfold fitC fitP
  cases b <;> simp
theorem done_doP {tool : Int} {args inputs : List (List UInt8)} (h0 : 1 ≤ tool) (h1 : tool ≤ 5) : fitC (doneP tool args inputs) = doP tool args inputs := by
  rcases (show tool = 1 ∨ tool = 2 ∨ tool = 3 ∨ tool = 4 ∨ tool = 5 by omega) with rfl | rfl | rfl | rfl | rfl
  · show fitC (_, decide ((args.length : Int) ≤ 1)) = if 1 < args.length then (([] : List UInt8), Er.e 16) else _
    rw [fit_C]
    by_cases h : 1 < args.length
    · rw [if_pos h, if_neg (by rw [decide_eq_true_eq]; omega)]
    · rw [if_neg h, if_pos (by rw [decide_eq_true_eq]; omega)]
  · show fitC (if filtOk args = true then _ else ([], false)) = if (if filtOk args = true then (_, true) else ([], false)).2 = true then fitP (joinE (if filtOk args = true then ((linesA inputs).filter (filtB args), true) else ([], false)).1 [] [10]) else _
    cases filtOk args with
    | false => rfl
    | true => exact fit_C _ _
  · exact subD_P args inputs
  · show fitC (if sortOk args = true then _ else ([], false)) = if (if sortOk args = true then (_, true) else ([], false)).2 = true then fitP (joinE (if sortOk args = true then (sortR args (linesA inputs), true) else ([], false)).1 [] [10]) else _
    cases sortOk args with
    | false => rfl
    | true => exact fit_C _ _
  · exact fit_C _ _
def codeE : Er → Int
  | .ok => 0
  | .e n => 101 + n
  | .at_ _ _ => -1
theorem fitC_code (p : List UInt8 × Bool) : codeE (fitC p).2 = if p.2 = true ∧ p.1.length ≤ 65536 then 0 else 117 := by
  unfold fitC
  split <;> rfl
theorem cDo_M {tool : Int} {args inputs : List (List UInt8)} {K : List UInt8 → Int → Prop} (ha : ∀ x ∈ args, x.length ≤ 1000) (hl : inputs.length ≤ 100) (hx : ∀ x ∈ inputs, x.length ≤ 1000) (h : K (doP tool args inputs).1 (codeE (doP tool args inputs).2)) : M_smithyref17_Do tool args inputs K := by
  intro _ _
  refine ⟨fun e => ?_, fun e => ?_⟩
  · rw [Bool.or_eq_true, decide_eq_true_eq, decide_eq_true_eq] at e
    rw [fail_else (by omega)] at h
    exact h
  · rw [Bool.or_eq_false_iff, decide_eq_false_iff_not, decide_eq_false_iff_not] at e
    rw [← done_doP (by omega) (by omega)] at h
    refine cdone_M ha hl hx ?_
    generalize doneP tool args inputs = p at *
    rw [fitC_code] at h
    unfold fitC at h
    refine ⟨fun e2 => ?_, fun e2 => ?_⟩
    · have : ¬ (p.2 = true ∧ p.1.length ≤ 65536) := by
        rintro ⟨q1, q2⟩
        rw [q1, Bool.or_eq_true, decide_eq_true_eq] at e2
        rcases e2 with e2 | e2
        · cases e2
        · omega
      rw [if_neg this, if_neg this] at h
      exact h
    · rw [Bool.or_eq_false_iff, decide_eq_false_iff_not] at e2
      have : p.2 = true ∧ p.1.length ≤ 65536 := ⟨by simpa using e2.1, by omega⟩
      rw [if_pos this, if_pos this] at h
      exact h
theorem doP_er (tool : Int) (args inputs : List (List UInt8)) : isB (doP tool args inputs).2 (codeE (doP tool args inputs).2) = true := by
  by_cases h : 1 ≤ tool ∧ tool ≤ 5
  · rw [← done_doP h.1 h.2]
    unfold fitC
    split <;> rfl
  · rw [fail_else (by omega)]; rfl
def namesT : List (List UInt8) := [[], [99, 111, 110, 99, 97, 116], [102, 105, 108, 116, 101, 114], [115, 117, 98, 115, 116, 105, 116, 117, 116, 101], [115, 111, 114, 116], [100, 105, 103, 101, 115, 116]]
def idx (l : List (List UInt8)) (s : List UInt8) : Int := if l.idxOf s < l.length then l.idxOf s else -1
theorem among_M {l : List (List UInt8)} {s : List UInt8} {K : Int → Prop} (h : K (idx l s)) : M_smithyref_AmongTexts l s K := by
  intro hm
  simp only [maxLen] at hm
  refine ⟨fun i => 0 ≤ i ∧ i ≤ l.length ∧ ∀ j, j < i.toNat → l.getD j [] ≠ s, fun i => l.length - i.toNat, ⟨by omega, by omega, fun j hj => by simp at hj⟩, fun i ⟨a0, a1, a2⟩ => ⟨fun hlt => ⟨by omega, fun e => ?_, fun e => ⟨by simp only [In]; omega, ⟨by omega, by omega, fun j hj => ?_⟩, by dsimp only; omega⟩⟩, fun hge => ?_⟩⟩
  · have hix : l.idxOf s = i.toNat := by
      have h1 : l.idxOf s < l.length := List.idxOf_lt_length_iff.2 (by rw [← e]; exact getD_mem (by omega))
      have h2 : l[l.idxOf s] = s := List.getElem_idxOf h1
      have h3 : ¬ l.idxOf s < i.toNat := fun q => a2 _ q (by rw [getD_get h1]; exact h2)
      have h4 : ¬ i.toNat < l.idxOf s := fun q => by
        have := List.not_of_lt_findIdx (p := (· == s)) (xs := l) q
        exact absurd ((getD_get (d := []) (show i.toNat < l.length by omega)).symm.trans e) (beq_eq_false_iff_ne.1 this)
      omega
    unfold idx at h
    rw [hix, if_pos (by omega), Int.toNat_of_nonneg a0] at h
    exact h
  · by_cases e2 : j = i.toNat
    · rw [e2]; exact e
    · exact a2 j (by omega)
  · unfold idx at h
    rw [if_neg] at h
    · exact h
    · intro h1
      exact a2 (l.idxOf s) (by omega) (by rw [getD_get h1]; exact List.getElem_idxOf h1)
theorem sindex_M {l : List (List UInt8)} {s : List UInt8} {K : Int → Prop} (h : K (idx l s)) : M_slices_Index_string_string l s K := by
  have := among_M h
  intro hm
  obtain ⟨I, m, h0, h1⟩ := this hm
  exact ⟨I, m, h0, fun i hi => ⟨fun hlt => ⟨((h1 i hi).1 hlt).1, fun e => ((h1 i hi).1 hlt).2.1 e.symm, fun e => ((h1 i hi).1 hlt).2.2 fun e2 => e e2.symm⟩, (h1 i hi).2⟩⟩
theorem tsame_M {l : List (List UInt8)} {K : Bool → Prop} (h : K true) : M_smithyref_SameTexts l l K := by
  intro hm _
  simp only [maxLen] at hm
  refine ⟨fun e => absurd rfl e, fun _ => ⟨fun i => 0 ≤ i ∧ i ≤ l.length, fun i => l.length - i.toNat, ⟨by omega, by omega⟩, fun i ⟨a0, a1⟩ => ⟨fun hlt => ⟨by omega, by omega, fun e => absurd rfl e, fun _ => ⟨by simp only [In]; omega, ⟨by omega, by omega⟩, by dsimp only; omega⟩⟩, fun _ => h⟩⟩⟩
theorem tname_M {t : Int} {K : List UInt8 → Prop} (h : K (if 1 ≤ t ∧ t ≤ 5 then namesT.getD t.toNat [] else [])) : M_tool_Name t K := by
  refine ⟨fun e => ?_, fun e => ⟨?_, ?_⟩⟩
  · rw [Bool.or_eq_true, decide_eq_true_eq, decide_eq_true_eq] at e
    rw [if_neg (by omega)] at h; exact h
  · rw [Bool.or_eq_false_iff, decide_eq_false_iff_not, decide_eq_false_iff_not] at e
    simp only [List.length_cons, List.length_nil]; omega
  · rw [Bool.or_eq_false_iff, decide_eq_false_iff_not, decide_eq_false_iff_not] at e
    rw [if_pos (by omega)] at h; exact h
theorem tsays_ok {t : Int} {args inputs : List (List UInt8)} {s : List UInt8} {K : Bool → Prop} (_ : In .i64 t) (_ : ∀ x ∈ args, x.length ≤ maxLen) (_ : ∀ x ∈ inputs, x.length ≤ maxLen) (_ : s.length ≤ maxLen) (H : K true) : M_smithylaw23_ToolSays t args inputs s K := by
  intro _ _
  refine tfirst_M ⟨fun h => (by cases h), fun _ => vtexts_B (by decide) fun b hb => ?_⟩
  refine ⟨fun q => q = true ∨ (q = false ∧ args.length ≤ 8 ∧ (∀ x ∈ args, x.length ≤ 100) ∧ inputs.length ≤ 8 ∧ ∀ x ∈ inputs, x.length ≤ 500), ⟨fun _ => .inl rfl, fun e => vtexts_B (by decide) fun b2 hb2 => ?_⟩, fun q hq => ⟨fun _ => H, fun e => ?_⟩⟩
  · have hbt : b = true := by simpa using e
    obtain ⟨a1, a2⟩ := hb hbt
    cases b2 with
    | false => exact .inl rfl
    | true =>
      obtain ⟨a3, a4⟩ := hb2 rfl
      exact .inr ⟨rfl, by omega, fun x hx => by have := a2 x hx; omega, by omega, fun x hx => by have := a4 x hx; omega⟩
  · rw [Bool.or_eq_false_iff, Bool.or_eq_false_iff, decide_eq_false_iff_not] at e
    rcases hq with rfl | ⟨rfl, h1, h2, h3, h4⟩
    · cases e.1.1
    have hs : s.length ≤ 500 := by omega
    have her := doP_er t args inputs
    refine do_M (fun x hx => by have := h2 x hx; omega) (by omega) (fun x hx => by have := h4 x hx; omega) (cDo_M (fun x hx => by have := h2 x hx; omega) (by omega) (fun x hx => by have := h4 x hx; omega) ?_)
    generalize (doP t args inputs).2 = er at *
    generalize (doP t args inputs).1 = ou at *
    refine ⟨fun name => name = (if 1 ≤ t ∧ t ≤ 5 then namesT.getD t.toNat [] else []), ⟨fun e2 => ?_, fun e2 => ?_⟩, ?_⟩
    · rw [Bool.and_eq_true, decide_eq_true_eq, decide_eq_true_eq] at e2
      exact ⟨by omega, by rw [if_pos e2]; rfl⟩
    · rw [Bool.and_eq_false_iff, decide_eq_false_iff_not, decide_eq_false_iff_not] at e2
      rw [if_neg (by omega)]
    rintro name hname
    refine among_M ⟨fun q => q = true, ⟨fun _ => is_M her, fun e2 => ?_⟩, ?_⟩
    · rw [decide_eq_true rfl] at e2; cases e2
    rintro _ rfl
    refine ⟨fun q => q = true, ⟨fun _ => tname_M ?_, fun e2 => by cases e2⟩, ?_⟩
    · rw [← hname]; exact decide_eq_true rfl
    rintro _ rfl
    refine ⟨fun q => q = true, ⟨fun _ => sindex_M ?_, fun e2 => by cases e2⟩, ?_⟩
    · exact decide_eq_true rfl
    rintro _ rfl
    refine ⟨fun q => q = true, ⟨fun _ => lineRs_M (by omega) (cLines_M (by omega) (tsame_M rfl)), fun e2 => by cases e2⟩, ?_⟩
    rintro _ rfl
    exact H
end Go.Proofs.YtilphcippnfklaaGreatDoor

 