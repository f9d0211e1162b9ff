/- Texts of this claim, joined by a program: GPr, See, PathG, Srt, PathH, SrtG, GrA, GrB, GrC, GrO. -/
import Derived.Test.YtlonpmajnglmoaaGreatDoorJ3
import Derived.Lib.SlicesCompact
import Derived.Sort.Walk0
import Derived.Lib.Bytealg
import Derived.Shelf.SlSortCmp.Insertion
/- Printed by a program (wip/vg): what the functions mean, plainly, and their walks. -/
namespace Go.Proofs.YtlonpmajnglmoaaGreatDoor
open Go Go.RowKit
attribute [local irreducible] WL WC WX WQ WK WJ Yld Eff Ef0 Fn
def M_smithyref1_letter (c : Int) (K : Bool → Prop) : Prop :=
 K (((((((((((((((decide ((97 : Int) ≤ c)) && (decide (c ≤ (122 : Int)))) || ((decide ((65 : Int) ≤ c)) && (decide (c ≤ (90 : Int))))) || ((decide ((48 : Int) ≤ c)) && (decide (c ≤ (57 : Int))))) || (decide (c = (33 : Int)))) || (decide (c = (35 : Int)))) || (decide (c = (37 : Int)))) || (decide (c = (43 : Int)))) || (decide (c = (44 : Int)))) || (decide (c = (45 : Int)))) || (decide (c = (46 : Int)))) || (decide (c = (61 : Int)))) || (decide (c = (64 : Int)))) || (decide (c = (95 : Int)))) || (decide (c = (126 : Int))))

def M_smithyref1_Parts (p : List UInt8) (K : (List (List UInt8)) → Prop) : Prop :=
 Lp3 (fun (out : List (List UInt8)) (from_ : Int) (i : Int) kont1 => ((i ≤ (p.length : Int) → ∃ J1 : (List (List UInt8)) → Int → Prop, (((decide (i = (p.length : Int))) = false → (0 ≤ i ∧ i < p.length)) ∧
 ((((decide (i = (p.length : Int))) || (decide (((p.getD i.toNat 0).toNat : Int) = (47 : Int)))) = true → (0 ≤ from_ ∧ from_ ≤ i ∧ i ≤ p.length) ∧
 ((out.length + (([(p.drop from_.toNat).take (i.toNat - from_.toNat)] : List (List UInt8))).length) * 16 ≤ 140737488355328) ∧
 (In .i64 (i + (1 : Int))) ∧
 J1 (out ++ ([(p.drop from_.toNat).take (i.toNat - from_.toNat)] : List (List UInt8))) (i + (1 : Int))) ∧
 (((decide (i = (p.length : Int))) || (decide (((p.getD i.toNat 0).toNat : Int) = (47 : Int)))) = false → J1 out from_))) ∧
 (∀ out2 : List (List UInt8), ∀ from_2 : Int, J1 out2 from_2 → (In .i64 (i + (1 : Int))) ∧
 kont1 out2 from_2 (i + (1 : Int)))) ∧
 (¬ (i ≤ (p.length : Int)) → K out))) [] (0 : Int) (0 : Int)

def M_smithyref1_glue (l : List (List UInt8)) (K : (List UInt8) → Prop) : Prop :=
 (l.length ≤ maxLen →
 Lp2 (fun (s : List UInt8) (i : Int) kont1 => ((i < (l.length : Int) → ∃ J1 : (List UInt8) → Prop, ((((0 : Int) < i → (s.length + ([47] : List UInt8).length ≤ 9223372036854775807) ∧
 J1 (s ++ ([47] : List UInt8))) ∧
 (¬ ((0 : Int) < i) → J1 s))) ∧
 (∀ s2 : List UInt8, J1 s2 → (0 ≤ i ∧ i < (l.length : Nat)) ∧
 (s2.length + (l.getD i.toNat []).length ≤ 9223372036854775807) ∧
 (In .i64 (i + (1 : Int))) ∧
 kont1 (s2 ++ (l.getD i.toNat [])) (i + (1 : Int)))) ∧
 (¬ (i < (l.length : Int)) → K s))) ([] : List UInt8) (0 : Int))

def M_smithyref1_part (s : List UInt8) (star : Bool) (K : Bool → Prop) : Prop :=
 Lp1 (fun (i : Int) kont1 => ((i < (s.length : Int) → (0 ≤ i ∧ i < s.length) ∧
 M_smithyref1_letter ((s.getD i.toNat 0).toNat : Int) (fun (t15 : Bool) =>
 ((!t15) = true → star = true → (0 ≤ i ∧ i < s.length)) ∧
 ((((!t15) && (!(star && (decide (((s.getD i.toNat 0).toNat : Int) = (42 : Int)))))) = true → K false) ∧
 (((!t15) && (!(star && (decide (((s.getD i.toNat 0).toNat : Int) = (42 : Int)))))) = false → (In .i64 (i + (1 : Int))) ∧
 kont1 (i + (1 : Int)))))) ∧
 (¬ (i < (s.length : Int)) → K (((!decide (s = ([] : List UInt8))) && (!decide (s = ([46] : List UInt8)))) && (!decide (s = ([46, 46] : List UInt8))))))) (0 : Int)

def M_smithyref1_Clean (p : List UInt8) (K : (List UInt8) → Bool → Prop) : Prop :=
 M_smithyref1_Parts p (fun (parts : List (List UInt8)) =>
 Lp2 (fun (l : List (List UInt8)) (i : Int) kont1 => ((i < (parts.length : Int) → ∃ J1 : (List (List UInt8)) → Prop, ((0 ≤ i ∧ i < (parts.length : Nat)) ∧
 ((decide ((parts.getD i.toNat []) = ([] : List UInt8))) = false → (0 ≤ i ∧ i < (parts.length : Nat))) ∧
 ((((decide ((parts.getD i.toNat []) = ([] : List UInt8))) || (decide ((parts.getD i.toNat []) = ([46] : List UInt8)))) = true → J1 l) ∧
 (((decide ((parts.getD i.toNat []) = ([] : List UInt8))) || (decide ((parts.getD i.toNat []) = ([46] : List UInt8)))) = false → (0 ≤ i ∧ i < (parts.length : Nat)) ∧
 (((parts.getD i.toNat []) = ([46, 46] : List UInt8) → (((l.length : Int) = (0 : Int) → K ([] : List UInt8) false) ∧
 (¬ ((l.length : Int) = (0 : Int)) → (In .i64 ((l.length : Int) - (1 : Int))) ∧
 (0 ≤ (l.length : Int) - (1 : Int) ∧ (l.length : Int) - (1 : Int) ≤ (l.length : Nat)) ∧
 J1 (l.take ((l.length : Int) - (1 : Int)).toNat)))) ∧
 (¬ ((parts.getD i.toNat []) = ([46, 46] : List UInt8)) → (0 ≤ i ∧ i < (parts.length : Nat)) ∧
 M_smithyref1_part (parts.getD i.toNat []) false (fun (t55 : Bool) =>
 (((!t55) = true → K ([] : List UInt8) false) ∧
 ((!t55) = false → (0 ≤ i ∧ i < (parts.length : Nat)) ∧
 ((l.length + (([parts.getD i.toNat []] : List (List UInt8))).length) * 16 ≤ 140737488355328) ∧
 J1 (l ++ ([parts.getD i.toNat []] : List (List UInt8))))))))))) ∧
 (∀ l2 : List (List UInt8), J1 l2 → (In .i64 (i + (1 : Int))) ∧
 kont1 l2 (i + (1 : Int)))) ∧
 (¬ (i < (parts.length : Int)) → M_smithyref1_glue l (fun (s : List UInt8) =>
 (((200 : Int) < (s.length : Int) → K ([] : List UInt8) false) ∧
 (¬ ((200 : Int) < (s.length : Int)) → K s true)))))) [] (0 : Int))

def M_smithyref1_Valid (p : List UInt8) (K : Bool → Prop) : Prop :=
 M_smithyref1_Clean p (fun (t70 : List UInt8) (t71 : Bool) =>
 K ((t71 && (decide (t70 = p))) && (!decide (p = ([] : List UInt8)))))

set_option maxHeartbeats 8000000 in
theorem W_smithyref1_letter {w : World} {c : Int} {K : Bool → Prop} (H : M_smithyref1_letter c K) : Fn Tryz.prog 203 ⟨[.int .u8 c]⟩ w (fun v w' => w = w' ∧ ∃ (r : Bool), v = .bool r ∧ K r) := by
  unfold M_smithyref1_letter at H
  refine Fn.enter (by kernel_rfl) Tryz.func203 rfl Tryz.ntmps203 rfl ?_
  refine WC.seq ?_
  refine WC.region ?_
  refine WL.y rfl (Yld.pure tab_ok rfl) ?_
  refine WL.nil (WX.then_normal ?_)
  refine WC.seq ?_
  refine WC.region ?_
  refine WL.y rfl (Yld.pure tab_ok rfl) ?_
  refine WL.y rfl (Yld.pure tab_ok rfl) ?_
  refine WL.y rfl (Yld.pure tab_ok rfl) ?_
  refine WL.midF 3 (fun L' w' => ∃ q1 : Bool, L' = [(8, .bool q1), (0, .int .u8 c)] ∧ ((decide ((97 : Int) ≤ c)) && (decide (c ≤ (122 : Int)))) = q1 ∧ w = w') ?_ (fun hQ => ?_)
  · rintro _ _ ⟨q1, rfl, rfl, rfl⟩
    refine WL.y rfl (Yld.pure tab_ok rfl) ?_
    refine WL.midF 7 (fun L' w' => ∃ q2 : Bool, L' = [(16, .bool q2), (0, .int .u8 c)] ∧ (((decide ((97 : Int) ≤ c)) && (decide (c ≤ (122 : Int)))) || ((decide ((65 : Int) ≤ c)) && (decide (c ≤ (90 : Int))))) = q2 ∧ w = w') ?_ (fun hQ => ?_)
    · rintro _ _ ⟨q2, rfl, rfl, rfl⟩
      refine WL.y rfl (Yld.pure tab_ok rfl) ?_
      refine WL.midF 7 (fun L' w' => ∃ q3 : Bool, L' = [(24, .bool q3), (0, .int .u8 c)] ∧ ((((decide ((97 : Int) ≤ c)) && (decide (c ≤ (122 : Int)))) || ((decide ((65 : Int) ≤ c)) && (decide (c ≤ (90 : Int))))) || ((decide ((48 : Int) ≤ c)) && (decide (c ≤ (57 : Int))))) = q3 ∧ w = w') ?_ (fun hQ => ?_)
      · rintro _ _ ⟨q3, rfl, rfl, rfl⟩
        refine WL.y rfl (Yld.pure tab_ok rfl) ?_
        refine WL.midF 3 (fun L' w' => ∃ q4 : Bool, L' = [(28, .bool q4), (0, .int .u8 c)] ∧ (((((decide ((97 : Int) ≤ c)) && (decide (c ≤ (122 : Int)))) || ((decide ((65 : Int) ≤ c)) && (decide (c ≤ (90 : Int))))) || ((decide ((48 : Int) ≤ c)) && (decide (c ≤ (57 : Int))))) || (decide (c = (33 : Int)))) = q4 ∧ w = w') ?_ (fun hQ => ?_)
        · rintro _ _ ⟨q4, rfl, rfl, rfl⟩
          refine WL.y rfl (Yld.pure tab_ok rfl) ?_
          refine WL.midF 3 (fun L' w' => ∃ q5 : Bool, L' = [(32, .bool q5), (0, .int .u8 c)] ∧ ((((((decide ((97 : Int) ≤ c)) && (decide (c ≤ (122 : Int)))) || ((decide ((65 : Int) ≤ c)) && (decide (c ≤ (90 : Int))))) || ((decide ((48 : Int) ≤ c)) && (decide (c ≤ (57 : Int))))) || (decide (c = (33 : Int)))) || (decide (c = (35 : Int)))) = q5 ∧ w = w') ?_ (fun hQ => ?_)
          · rintro _ _ ⟨q5, rfl, rfl, rfl⟩
            refine WL.y rfl (Yld.pure tab_ok rfl) ?_
            refine WL.midF 3 (fun L' w' => ∃ q6 : Bool, L' = [(36, .bool q6), (0, .int .u8 c)] ∧ (((((((decide ((97 : Int) ≤ c)) && (decide (c ≤ (122 : Int)))) || ((decide ((65 : Int) ≤ c)) && (decide (c ≤ (90 : Int))))) || ((decide ((48 : Int) ≤ c)) && (decide (c ≤ (57 : Int))))) || (decide (c = (33 : Int)))) || (decide (c = (35 : Int)))) || (decide (c = (37 : Int)))) = q6 ∧ w = w') ?_ (fun hQ => ?_)
            · rintro _ _ ⟨q6, rfl, rfl, rfl⟩
              refine WL.y rfl (Yld.pure tab_ok rfl) ?_
              refine WL.midF 3 (fun L' w' => ∃ q7 : Bool, L' = [(40, .bool q7), (0, .int .u8 c)] ∧ ((((((((decide ((97 : Int) ≤ c)) && (decide (c ≤ (122 : Int)))) || ((decide ((65 : Int) ≤ c)) && (decide (c ≤ (90 : Int))))) || ((decide ((48 : Int) ≤ c)) && (decide (c ≤ (57 : Int))))) || (decide (c = (33 : Int)))) || (decide (c = (35 : Int)))) || (decide (c = (37 : Int)))) || (decide (c = (43 : Int)))) = q7 ∧ w = w') ?_ (fun hQ => ?_)
              · rintro _ _ ⟨q7, rfl, rfl, rfl⟩
                refine WL.y rfl (Yld.pure tab_ok rfl) ?_
                refine WL.midF 3 (fun L' w' => ∃ q8 : Bool, L' = [(44, .bool q8), (0, .int .u8 c)] ∧ (((((((((decide ((97 : Int) ≤ c)) && (decide (c ≤ (122 : Int)))) || ((decide ((65 : Int) ≤ c)) && (decide (c ≤ (90 : Int))))) || ((decide ((48 : Int) ≤ c)) && (decide (c ≤ (57 : Int))))) || (decide (c = (33 : Int)))) || (decide (c = (35 : Int)))) || (decide (c = (37 : Int)))) || (decide (c = (43 : Int)))) || (decide (c = (44 : Int)))) = q8 ∧ w = w') ?_ (fun hQ => ?_)
                · rintro _ _ ⟨q8, rfl, rfl, rfl⟩
                  refine WL.y rfl (Yld.pure tab_ok rfl) ?_
                  refine WL.midF 3 (fun L' w' => ∃ q9 : Bool, L' = [(48, .bool q9), (0, .int .u8 c)] ∧ ((((((((((decide ((97 : Int) ≤ c)) && (decide (c ≤ (122 : Int)))) || ((decide ((65 : Int) ≤ c)) && (decide (c ≤ (90 : Int))))) || ((decide ((48 : Int) ≤ c)) && (decide (c ≤ (57 : Int))))) || (decide (c = (33 : Int)))) || (decide (c = (35 : Int)))) || (decide (c = (37 : Int)))) || (decide (c = (43 : Int)))) || (decide (c = (44 : Int)))) || (decide (c = (45 : Int)))) = q9 ∧ w = w') ?_ (fun hQ => ?_)
                  · rintro _ _ ⟨q9, rfl, rfl, rfl⟩
                    refine WL.y rfl (Yld.pure tab_ok rfl) ?_
                    refine WL.midF 3 (fun L' w' => ∃ q10 : Bool, L' = [(52, .bool q10), (0, .int .u8 c)] ∧ (((((((((((decide ((97 : Int) ≤ c)) && (decide (c ≤ (122 : Int)))) || ((decide ((65 : Int) ≤ c)) && (decide (c ≤ (90 : Int))))) || ((decide ((48 : Int) ≤ c)) && (decide (c ≤ (57 : Int))))) || (decide (c = (33 : Int)))) || (decide (c = (35 : Int)))) || (decide (c = (37 : Int)))) || (decide (c = (43 : Int)))) || (decide (c = (44 : Int)))) || (decide (c = (45 : Int)))) || (decide (c = (46 : Int)))) = q10 ∧ w = w') ?_ (fun hQ => ?_)
                    · rintro _ _ ⟨q10, rfl, rfl, rfl⟩
                      refine WL.y rfl (Yld.pure tab_ok rfl) ?_
                      refine WL.midF 3 (fun L' w' => ∃ q11 : Bool, L' = [(56, .bool q11), (0, .int .u8 c)] ∧ ((((((((((((decide ((97 : Int) ≤ c)) && (decide (c ≤ (122 : Int)))) || ((decide ((65 : Int) ≤ c)) && (decide (c ≤ (90 : Int))))) || ((decide ((48 : Int) ≤ c)) && (decide (c ≤ (57 : Int))))) || (decide (c = (33 : Int)))) || (decide (c = (35 : Int)))) || (decide (c = (37 : Int)))) || (decide (c = (43 : Int)))) || (decide (c = (44 : Int)))) || (decide (c = (45 : Int)))) || (decide (c = (46 : Int)))) || (decide (c = (61 : Int)))) = q11 ∧ w = w') ?_ (fun hQ => ?_)
                      · rintro _ _ ⟨q11, rfl, rfl, rfl⟩
                        refine WL.y rfl (Yld.pure tab_ok rfl) ?_
                        refine WL.midF 3 (fun L' w' => ∃ q12 : Bool, L' = [(60, .bool q12), (0, .int .u8 c)] ∧ (((((((((((((decide ((97 : Int) ≤ c)) && (decide (c ≤ (122 : Int)))) || ((decide ((65 : Int) ≤ c)) && (decide (c ≤ (90 : Int))))) || ((decide ((48 : Int) ≤ c)) && (decide (c ≤ (57 : Int))))) || (decide (c = (33 : Int)))) || (decide (c = (35 : Int)))) || (decide (c = (37 : Int)))) || (decide (c = (43 : Int)))) || (decide (c = (44 : Int)))) || (decide (c = (45 : Int)))) || (decide (c = (46 : Int)))) || (decide (c = (61 : Int)))) || (decide (c = (64 : Int)))) = q12 ∧ w = w') ?_ (fun hQ => ?_)
                        · rintro _ _ ⟨q12, rfl, rfl, rfl⟩
                          refine WL.y rfl (Yld.pure tab_ok rfl) ?_
                          refine WL.midF 3 (fun L' w' => ∃ q13 : Bool, L' = [(64, .bool q13), (0, .int .u8 c)] ∧ ((((((((((((((decide ((97 : Int) ≤ c)) && (decide (c ≤ (122 : Int)))) || ((decide ((65 : Int) ≤ c)) && (decide (c ≤ (90 : Int))))) || ((decide ((48 : Int) ≤ c)) && (decide (c ≤ (57 : Int))))) || (decide (c = (33 : Int)))) || (decide (c = (35 : Int)))) || (decide (c = (37 : Int)))) || (decide (c = (43 : Int)))) || (decide (c = (44 : Int)))) || (decide (c = (45 : Int)))) || (decide (c = (46 : Int)))) || (decide (c = (61 : Int)))) || (decide (c = (64 : Int)))) || (decide (c = (95 : Int)))) = q13 ∧ w = w') ?_ (fun hQ => ?_)
                          · rintro _ _ ⟨q13, rfl, rfl, rfl⟩
                            refine WL.y rfl (Yld.pure tab_ok rfl) ?_
                            refine WL.midF 3 (fun L' w' => ∃ q14 : Bool, L' = [(68, .bool q14)] ∧ (((((((((((((((decide ((97 : Int) ≤ c)) && (decide (c ≤ (122 : Int)))) || ((decide ((65 : Int) ≤ c)) && (decide (c ≤ (90 : Int))))) || ((decide ((48 : Int) ≤ c)) && (decide (c ≤ (57 : Int))))) || (decide (c = (33 : Int)))) || (decide (c = (35 : Int)))) || (decide (c = (37 : Int)))) || (decide (c = (43 : Int)))) || (decide (c = (44 : Int)))) || (decide (c = (45 : Int)))) || (decide (c = (46 : Int)))) || (decide (c = (61 : Int)))) || (decide (c = (64 : Int)))) || (decide (c = (95 : Int)))) || (decide (c = (126 : Int)))) = q14 ∧ w = w') ?_ (fun hQ => ?_)
                            · rintro _ _ ⟨q14, rfl, rfl, rfl⟩
                              refine WL.y rfl (Yld.pure tab_ok rfl) ?_
                              refine WL.nil (WX.then_normal ?_)
                              refine WC.ret ?_
                              exact WX.ret1 rfl rfl ⟨rfl, ((((((((((((((decide ((97 : Int) ≤ c)) && (decide (c ≤ (122 : Int)))) || ((decide ((65 : Int) ≤ c)) && (decide (c ≤ (90 : Int))))) || ((decide ((48 : Int) ≤ c)) && (decide (c ≤ (57 : Int))))) || (decide (c = (33 : Int)))) || (decide (c = (35 : Int)))) || (decide (c = (37 : Int)))) || (decide (c = (43 : Int)))) || (decide (c = (44 : Int)))) || (decide (c = (45 : Int)))) || (decide (c = (46 : Int)))) || (decide (c = (61 : Int)))) || (decide (c = (64 : Int)))) || (decide (c = (95 : Int)))) || (decide (c = (126 : Int))), rfl, H⟩
                            · clear H
                              rcases Bool.eq_false_or_eq_true ((((((((((((((decide ((97 : Int) ≤ c)) && (decide (c ≤ (122 : Int)))) || ((decide ((65 : Int) ≤ c)) && (decide (c ≤ (90 : Int))))) || ((decide ((48 : Int) ≤ c)) && (decide (c ≤ (57 : Int))))) || (decide (c = (33 : Int)))) || (decide (c = (35 : Int)))) || (decide (c = (37 : Int)))) || (decide (c = (43 : Int)))) || (decide (c = (44 : Int)))) || (decide (c = (45 : Int)))) || (decide (c = (46 : Int)))) || (decide (c = (61 : Int)))) || (decide (c = (64 : Int)))) || (decide (c = (95 : Int)))) with b1 | b1
                              · refine WL.gno rfl rfl (okb b1) rfl ?_
                                refine WL.gno rfl rfl (okb b1) rfl ?_
                                refine WL.y rfl (Yld.pickT (okb b1) rfl) ?_
                                exact WL.weaken (by repeat (first | exact Sub.nil | refine Sub.cons rfl ?_)) (hQ _ _ ⟨true, rfl, by rw [b1] <;> rfl, rfl⟩)
                              · refine WL.gyes rfl rfl (okb b1) rfl (Yld.pure tab_ok rfl) ?_
                                refine WL.gyes rfl rfl (okb b1) rfl (Yld.pure tab_ok rfl) ?_
                                refine WL.y rfl (Yld.pickF (okb b1) rfl) ?_
                                exact WL.weaken (by repeat (first | exact Sub.nil | refine Sub.cons rfl ?_)) (hQ _ _ ⟨decide (c = (126 : Int)), rfl, by rw [b1] <;> rfl, rfl⟩)
                          · clear H
                            rcases Bool.eq_false_or_eq_true (((((((((((((decide ((97 : Int) ≤ c)) && (decide (c ≤ (122 : Int)))) || ((decide ((65 : Int) ≤ c)) && (decide (c ≤ (90 : Int))))) || ((decide ((48 : Int) ≤ c)) && (decide (c ≤ (57 : Int))))) || (decide (c = (33 : Int)))) || (decide (c = (35 : Int)))) || (decide (c = (37 : Int)))) || (decide (c = (43 : Int)))) || (decide (c = (44 : Int)))) || (decide (c = (45 : Int)))) || (decide (c = (46 : Int)))) || (decide (c = (61 : Int)))) || (decide (c = (64 : Int)))) with b2 | b2
                            · refine WL.gno rfl rfl (okb b2) rfl ?_
                              refine WL.gno rfl rfl (okb b2) rfl ?_
                              refine WL.y rfl (Yld.pickT (okb b2) rfl) ?_
                              exact WL.weaken (by repeat (first | exact Sub.nil | refine Sub.cons rfl ?_)) (hQ _ _ ⟨true, rfl, by rw [b2] <;> rfl, rfl⟩)
                            · refine WL.gyes rfl rfl (okb b2) rfl (Yld.pure tab_ok rfl) ?_
                              refine WL.gyes rfl rfl (okb b2) rfl (Yld.pure tab_ok rfl) ?_
                              refine WL.y rfl (Yld.pickF (okb b2) rfl) ?_
                              exact WL.weaken (by repeat (first | exact Sub.nil | refine Sub.cons rfl ?_)) (hQ _ _ ⟨decide (c = (95 : Int)), rfl, by rw [b2] <;> rfl, rfl⟩)
                        · clear H
                          rcases Bool.eq_false_or_eq_true ((((((((((((decide ((97 : Int) ≤ c)) && (decide (c ≤ (122 : Int)))) || ((decide ((65 : Int) ≤ c)) && (decide (c ≤ (90 : Int))))) || ((decide ((48 : Int) ≤ c)) && (decide (c ≤ (57 : Int))))) || (decide (c = (33 : Int)))) || (decide (c = (35 : Int)))) || (decide (c = (37 : Int)))) || (decide (c = (43 : Int)))) || (decide (c = (44 : Int)))) || (decide (c = (45 : Int)))) || (decide (c = (46 : Int)))) || (decide (c = (61 : Int)))) with b3 | b3
                          · refine WL.gno rfl rfl (okb b3) rfl ?_
                            refine WL.gno rfl rfl (okb b3) rfl ?_
                            refine WL.y rfl (Yld.pickT (okb b3) rfl) ?_
                            exact WL.weaken (by repeat (first | exact Sub.nil | refine Sub.cons rfl ?_)) (hQ _ _ ⟨true, rfl, by rw [b3] <;> rfl, rfl⟩)
                          · refine WL.gyes rfl rfl (okb b3) rfl (Yld.pure tab_ok rfl) ?_
                            refine WL.gyes rfl rfl (okb b3) rfl (Yld.pure tab_ok rfl) ?_
                            refine WL.y rfl (Yld.pickF (okb b3) rfl) ?_
                            exact WL.weaken (by repeat (first | exact Sub.nil | refine Sub.cons rfl ?_)) (hQ _ _ ⟨decide (c = (64 : Int)), rfl, by rw [b3] <;> rfl, rfl⟩)
                      · clear H
                        rcases Bool.eq_false_or_eq_true (((((((((((decide ((97 : Int) ≤ c)) && (decide (c ≤ (122 : Int)))) || ((decide ((65 : Int) ≤ c)) && (decide (c ≤ (90 : Int))))) || ((decide ((48 : Int) ≤ c)) && (decide (c ≤ (57 : Int))))) || (decide (c = (33 : Int)))) || (decide (c = (35 : Int)))) || (decide (c = (37 : Int)))) || (decide (c = (43 : Int)))) || (decide (c = (44 : Int)))) || (decide (c = (45 : Int)))) || (decide (c = (46 : Int)))) with b4 | b4
                        · refine WL.gno rfl rfl (okb b4) rfl ?_
                          refine WL.gno rfl rfl (okb b4) rfl ?_
                          refine WL.y rfl (Yld.pickT (okb b4) rfl) ?_
                          exact WL.weaken (by repeat (first | exact Sub.nil | refine Sub.cons rfl ?_)) (hQ _ _ ⟨true, rfl, by rw [b4] <;> rfl, rfl⟩)
                        · refine WL.gyes rfl rfl (okb b4) rfl (Yld.pure tab_ok rfl) ?_
                          refine WL.gyes rfl rfl (okb b4) rfl (Yld.pure tab_ok rfl) ?_
                          refine WL.y rfl (Yld.pickF (okb b4) rfl) ?_
                          exact WL.weaken (by repeat (first | exact Sub.nil | refine Sub.cons rfl ?_)) (hQ _ _ ⟨decide (c = (61 : Int)), rfl, by rw [b4] <;> rfl, rfl⟩)
                    · clear H
                      rcases Bool.eq_false_or_eq_true ((((((((((decide ((97 : Int) ≤ c)) && (decide (c ≤ (122 : Int)))) || ((decide ((65 : Int) ≤ c)) && (decide (c ≤ (90 : Int))))) || ((decide ((48 : Int) ≤ c)) && (decide (c ≤ (57 : Int))))) || (decide (c = (33 : Int)))) || (decide (c = (35 : Int)))) || (decide (c = (37 : Int)))) || (decide (c = (43 : Int)))) || (decide (c = (44 : Int)))) || (decide (c = (45 : Int)))) with b5 | b5
                      · refine WL.gno rfl rfl (okb b5) rfl ?_
                        refine WL.gno rfl rfl (okb b5) rfl ?_
                        refine WL.y rfl (Yld.pickT (okb b5) rfl) ?_
                        exact WL.weaken (by repeat (first | exact Sub.nil | refine Sub.cons rfl ?_)) (hQ _ _ ⟨true, rfl, by rw [b5] <;> rfl, rfl⟩)
                      · refine WL.gyes rfl rfl (okb b5) rfl (Yld.pure tab_ok rfl) ?_
                        refine WL.gyes rfl rfl (okb b5) rfl (Yld.pure tab_ok rfl) ?_
                        refine WL.y rfl (Yld.pickF (okb b5) rfl) ?_
                        exact WL.weaken (by repeat (first | exact Sub.nil | refine Sub.cons rfl ?_)) (hQ _ _ ⟨decide (c = (46 : Int)), rfl, by rw [b5] <;> rfl, rfl⟩)
                  · clear H
                    rcases Bool.eq_false_or_eq_true (((((((((decide ((97 : Int) ≤ c)) && (decide (c ≤ (122 : Int)))) || ((decide ((65 : Int) ≤ c)) && (decide (c ≤ (90 : Int))))) || ((decide ((48 : Int) ≤ c)) && (decide (c ≤ (57 : Int))))) || (decide (c = (33 : Int)))) || (decide (c = (35 : Int)))) || (decide (c = (37 : Int)))) || (decide (c = (43 : Int)))) || (decide (c = (44 : Int)))) with b6 | b6
                    · refine WL.gno rfl rfl (okb b6) rfl ?_
                      refine WL.gno rfl rfl (okb b6) rfl ?_
                      refine WL.y rfl (Yld.pickT (okb b6) rfl) ?_
                      exact WL.weaken (by repeat (first | exact Sub.nil | refine Sub.cons rfl ?_)) (hQ _ _ ⟨true, rfl, by rw [b6] <;> rfl, rfl⟩)
                    · refine WL.gyes rfl rfl (okb b6) rfl (Yld.pure tab_ok rfl) ?_
                      refine WL.gyes rfl rfl (okb b6) rfl (Yld.pure tab_ok rfl) ?_
                      refine WL.y rfl (Yld.pickF (okb b6) rfl) ?_
                      exact WL.weaken (by repeat (first | exact Sub.nil | refine Sub.cons rfl ?_)) (hQ _ _ ⟨decide (c = (45 : Int)), rfl, by rw [b6] <;> rfl, rfl⟩)
                · clear H
                  rcases Bool.eq_false_or_eq_true ((((((((decide ((97 : Int) ≤ c)) && (decide (c ≤ (122 : Int)))) || ((decide ((65 : Int) ≤ c)) && (decide (c ≤ (90 : Int))))) || ((decide ((48 : Int) ≤ c)) && (decide (c ≤ (57 : Int))))) || (decide (c = (33 : Int)))) || (decide (c = (35 : Int)))) || (decide (c = (37 : Int)))) || (decide (c = (43 : Int)))) with b7 | b7
                  · refine WL.gno rfl rfl (okb b7) rfl ?_
                    refine WL.gno rfl rfl (okb b7) rfl ?_
                    refine WL.y rfl (Yld.pickT (okb b7) rfl) ?_
                    exact WL.weaken (by repeat (first | exact Sub.nil | refine Sub.cons rfl ?_)) (hQ _ _ ⟨true, rfl, by rw [b7] <;> rfl, rfl⟩)
                  · refine WL.gyes rfl rfl (okb b7) rfl (Yld.pure tab_ok rfl) ?_
                    refine WL.gyes rfl rfl (okb b7) rfl (Yld.pure tab_ok rfl) ?_
                    refine WL.y rfl (Yld.pickF (okb b7) rfl) ?_
                    exact WL.weaken (by repeat (first | exact Sub.nil | refine Sub.cons rfl ?_)) (hQ _ _ ⟨decide (c = (44 : Int)), rfl, by rw [b7] <;> rfl, rfl⟩)
              · clear H
                rcases Bool.eq_false_or_eq_true (((((((decide ((97 : Int) ≤ c)) && (decide (c ≤ (122 : Int)))) || ((decide ((65 : Int) ≤ c)) && (decide (c ≤ (90 : Int))))) || ((decide ((48 : Int) ≤ c)) && (decide (c ≤ (57 : Int))))) || (decide (c = (33 : Int)))) || (decide (c = (35 : Int)))) || (decide (c = (37 : Int)))) with b8 | b8
                · refine WL.gno rfl rfl (okb b8) rfl ?_
                  refine WL.gno rfl rfl (okb b8) rfl ?_
                  refine WL.y rfl (Yld.pickT (okb b8) rfl) ?_
                  exact WL.weaken (by repeat (first | exact Sub.nil | refine Sub.cons rfl ?_)) (hQ _ _ ⟨true, rfl, by rw [b8] <;> rfl, rfl⟩)
                · refine WL.gyes rfl rfl (okb b8) rfl (Yld.pure tab_ok rfl) ?_
                  refine WL.gyes rfl rfl (okb b8) rfl (Yld.pure tab_ok rfl) ?_
                  refine WL.y rfl (Yld.pickF (okb b8) rfl) ?_
                  exact WL.weaken (by repeat (first | exact Sub.nil | refine Sub.cons rfl ?_)) (hQ _ _ ⟨decide (c = (43 : Int)), rfl, by rw [b8] <;> rfl, rfl⟩)
            · clear H
              rcases Bool.eq_false_or_eq_true ((((((decide ((97 : Int) ≤ c)) && (decide (c ≤ (122 : Int)))) || ((decide ((65 : Int) ≤ c)) && (decide (c ≤ (90 : Int))))) || ((decide ((48 : Int) ≤ c)) && (decide (c ≤ (57 : Int))))) || (decide (c = (33 : Int)))) || (decide (c = (35 : Int)))) with b9 | b9
              · refine WL.gno rfl rfl (okb b9) rfl ?_
                refine WL.gno rfl rfl (okb b9) rfl ?_
                refine WL.y rfl (Yld.pickT (okb b9) rfl) ?_
                exact WL.weaken (by repeat (first | exact Sub.nil | refine Sub.cons rfl ?_)) (hQ _ _ ⟨true, rfl, by rw [b9] <;> rfl, rfl⟩)
              · refine WL.gyes rfl rfl (okb b9) rfl (Yld.pure tab_ok rfl) ?_
                refine WL.gyes rfl rfl (okb b9) rfl (Yld.pure tab_ok rfl) ?_
                refine WL.y rfl (Yld.pickF (okb b9) rfl) ?_
                exact WL.weaken (by repeat (first | exact Sub.nil | refine Sub.cons rfl ?_)) (hQ _ _ ⟨decide (c = (37 : Int)), rfl, by rw [b9] <;> rfl, rfl⟩)
          · clear H
            rcases Bool.eq_false_or_eq_true (((((decide ((97 : Int) ≤ c)) && (decide (c ≤ (122 : Int)))) || ((decide ((65 : Int) ≤ c)) && (decide (c ≤ (90 : Int))))) || ((decide ((48 : Int) ≤ c)) && (decide (c ≤ (57 : Int))))) || (decide (c = (33 : Int)))) with b10 | b10
            · refine WL.gno rfl rfl (okb b10) rfl ?_
              refine WL.gno rfl rfl (okb b10) rfl ?_
              refine WL.y rfl (Yld.pickT (okb b10) rfl) ?_
              exact WL.weaken (by repeat (first | exact Sub.nil | refine Sub.cons rfl ?_)) (hQ _ _ ⟨true, rfl, by rw [b10] <;> rfl, rfl⟩)
            · refine WL.gyes rfl rfl (okb b10) rfl (Yld.pure tab_ok rfl) ?_
              refine WL.gyes rfl rfl (okb b10) rfl (Yld.pure tab_ok rfl) ?_
              refine WL.y rfl (Yld.pickF (okb b10) rfl) ?_
              exact WL.weaken (by repeat (first | exact Sub.nil | refine Sub.cons rfl ?_)) (hQ _ _ ⟨decide (c = (35 : Int)), rfl, by rw [b10] <;> rfl, rfl⟩)
        · clear H
          rcases Bool.eq_false_or_eq_true ((((decide ((97 : Int) ≤ c)) && (decide (c ≤ (122 : Int)))) || ((decide ((65 : Int) ≤ c)) && (decide (c ≤ (90 : Int))))) || ((decide ((48 : Int) ≤ c)) && (decide (c ≤ (57 : Int))))) with b11 | b11
          · refine WL.gno rfl rfl (okb b11) rfl ?_
            refine WL.gno rfl rfl (okb b11) rfl ?_
            refine WL.y rfl (Yld.pickT (okb b11) rfl) ?_
            exact WL.weaken (by repeat (first | exact Sub.nil | refine Sub.cons rfl ?_)) (hQ _ _ ⟨true, rfl, by rw [b11] <;> rfl, rfl⟩)
          · refine WL.gyes rfl rfl (okb b11) rfl (Yld.pure tab_ok rfl) ?_
            refine WL.gyes rfl rfl (okb b11) rfl (Yld.pure tab_ok rfl) ?_
            refine WL.y rfl (Yld.pickF (okb b11) rfl) ?_
            exact WL.weaken (by repeat (first | exact Sub.nil | refine Sub.cons rfl ?_)) (hQ _ _ ⟨decide (c = (33 : Int)), rfl, by rw [b11] <;> rfl, rfl⟩)
      · clear H
        rcases Bool.eq_false_or_eq_true (((decide ((97 : Int) ≤ c)) && (decide (c ≤ (122 : Int)))) || ((decide ((65 : Int) ≤ c)) && (decide (c ≤ (90 : Int))))) with b12 | b12
        · refine WL.gno rfl rfl (okb b12) rfl ?_
          refine WL.gno rfl rfl (okb b12) rfl ?_
          refine WL.gno rfl rfl (okb b12) rfl ?_
          refine WL.gun rfl rfl rfl rfl ?_
          refine WL.gun rfl rfl rfl rfl ?_
          refine WL.gno rfl rfl (okb b12) rfl ?_
          refine WL.y rfl (Yld.pickT (okb b12) rfl) ?_
          exact WL.weaken (by repeat (first | exact Sub.nil | refine Sub.cons rfl ?_)) (hQ _ _ ⟨true, rfl, by rw [b12] <;> rfl, rfl⟩)
        · refine WL.gyes rfl rfl (okb b12) rfl (Yld.pure tab_ok rfl) ?_
          refine WL.gyes rfl rfl (okb b12) rfl (Yld.pure tab_ok rfl) ?_
          refine WL.gyes rfl rfl (okb b12) rfl (Yld.pure tab_ok rfl) ?_
          rcases Bool.eq_false_or_eq_true (decide ((48 : Int) ≤ c)) with b13 | b13
          · refine WL.gyes rfl rfl (okb b13) rfl (Yld.pure tab_ok rfl) ?_
            refine WL.gyes rfl rfl (okb b13) rfl (Yld.pure tab_ok rfl) ?_
            refine WL.gyes rfl rfl (okb b12) rfl (Yld.pickT (okb b13) rfl) ?_
            refine WL.y rfl (Yld.pickF (okb b12) rfl) ?_
            exact WL.weaken (by repeat (first | exact Sub.nil | refine Sub.cons rfl ?_)) (hQ _ _ ⟨decide (c ≤ (57 : Int)), rfl, by rw [b12, b13] <;> rfl, rfl⟩)
          · refine WL.gno rfl rfl (okb b13) rfl ?_
            refine WL.gno rfl rfl (okb b13) rfl ?_
            refine WL.gyes rfl rfl (okb b12) rfl (Yld.pickF (okb b13) rfl) ?_
            refine WL.y rfl (Yld.pickF (okb b12) rfl) ?_
            exact WL.weaken (by repeat (first | exact Sub.nil | refine Sub.cons rfl ?_)) (hQ _ _ ⟨false, rfl, by rw [b12, b13] <;> rfl, rfl⟩)
    · clear H
      rcases Bool.eq_false_or_eq_true ((decide ((97 : Int) ≤ c)) && (decide (c ≤ (122 : Int)))) with b14 | b14
      · refine WL.gno rfl rfl (okb b14) rfl ?_
        refine WL.gno rfl rfl (okb b14) rfl ?_
        refine WL.gno rfl rfl (okb b14) rfl ?_
        refine WL.gun rfl rfl rfl rfl ?_
        refine WL.gun rfl rfl rfl rfl ?_
        refine WL.gno rfl rfl (okb b14) rfl ?_
        refine WL.y rfl (Yld.pickT (okb b14) rfl) ?_
        exact WL.weaken (by repeat (first | exact Sub.nil | refine Sub.cons rfl ?_)) (hQ _ _ ⟨true, rfl, by rw [b14] <;> rfl, rfl⟩)
      · refine WL.gyes rfl rfl (okb b14) rfl (Yld.pure tab_ok rfl) ?_
        refine WL.gyes rfl rfl (okb b14) rfl (Yld.pure tab_ok rfl) ?_
        refine WL.gyes rfl rfl (okb b14) rfl (Yld.pure tab_ok rfl) ?_
        rcases Bool.eq_false_or_eq_true (decide ((65 : Int) ≤ c)) with b15 | b15
        · refine WL.gyes rfl rfl (okb b15) rfl (Yld.pure tab_ok rfl) ?_
          refine WL.gyes rfl rfl (okb b15) rfl (Yld.pure tab_ok rfl) ?_
          refine WL.gyes rfl rfl (okb b14) rfl (Yld.pickT (okb b15) rfl) ?_
          refine WL.y rfl (Yld.pickF (okb b14) rfl) ?_
          exact WL.weaken (by repeat (first | exact Sub.nil | refine Sub.cons rfl ?_)) (hQ _ _ ⟨decide (c ≤ (90 : Int)), rfl, by rw [b14, b15] <;> rfl, rfl⟩)
        · refine WL.gno rfl rfl (okb b15) rfl ?_
          refine WL.gno rfl rfl (okb b15) rfl ?_
          refine WL.gyes rfl rfl (okb b14) rfl (Yld.pickF (okb b15) rfl) ?_
          refine WL.y rfl (Yld.pickF (okb b14) rfl) ?_
          exact WL.weaken (by repeat (first | exact Sub.nil | refine Sub.cons rfl ?_)) (hQ _ _ ⟨false, rfl, by rw [b14, b15] <;> rfl, rfl⟩)
  · clear H
    rcases Bool.eq_false_or_eq_true (decide ((97 : Int) ≤ c)) with b16 | b16
    · refine WL.gyes rfl rfl (okb b16) rfl (Yld.pure tab_ok rfl) ?_
      refine WL.gyes rfl rfl (okb b16) rfl (Yld.pure tab_ok rfl) ?_
      refine WL.y rfl (Yld.pickT (okb b16) rfl) ?_
      exact WL.weaken (by repeat (first | exact Sub.nil | refine Sub.cons rfl ?_)) (hQ _ _ ⟨decide (c ≤ (122 : Int)), rfl, by rw [b16] <;> rfl, rfl⟩)
    · refine WL.gno rfl rfl (okb b16) rfl ?_
      refine WL.gno rfl rfl (okb b16) rfl ?_
      refine WL.y rfl (Yld.pickF (okb b16) rfl) ?_
      exact WL.weaken (by repeat (first | exact Sub.nil | refine Sub.cons rfl ?_)) (hQ _ _ ⟨false, rfl, by rw [b16] <;> rfl, rfl⟩)

set_option maxHeartbeats 8000000 in
theorem W_smithyref1_Parts {w : World} {p : List UInt8} {K : (List (List UInt8)) → Prop} (H : M_smithyref1_Parts p K) : Fn Tryz.prog 155 ⟨[vs p]⟩ w (fun v w' => w.grownBy w' none ∧ ∃ (r : List (List UInt8)), ∃ (A_r : Option Addr), ∃ (c_r : Nat), v = .slice A_r r.length c_r ∧ Own vs w' w.heap.size 9 A_r c_r r ∧ K r) := by
  unfold M_smithyref1_Parts at H
  refine Fn.enter (by kernel_rfl) Tryz.func155 rfl Tryz.ntmps155 rfl ?_
  refine WC.seq ?_
  refine WC.region ?_
  refine WL.y rfl (Yld.pure tab_ok rfl) ?_
  refine WL.nil (WX.then_normal ?_)
  refine WC.seq ?_
  refine WC.region ?_
  refine WL.y rfl (Yld.pure tab_ok rfl) ?_
  refine WL.nil (WX.then_normal ?_)
  refine WC.seq ?_
  refine WC.region ?_
  refine WL.y rfl (Yld.pure tab_ok rfl) ?_
  refine WL.nil (WX.then_normal ?_)
  refine WC.seq ?_
  refine WC.seq ?_
  refine WC.region ?_
  refine WL.y rfl (Yld.pure tab_ok rfl) ?_
  refine WL.nil (WX.then_normal ?_)
  refine WC.block ?_
  obtain ⟨I1, mu1, h0_1, HR1⟩ := H
  refine WC.loopF (fun n' L' w' => ∃ (out : List (List UInt8)), ∃ (A_out : Option Addr), ∃ (c_out : Nat), ∃ (n_out : Nat), ∃ (from_ : Int), ∃ (i : Int), n' = mu1 out from_ i ∧ L' = [(0, vs p), (3, .slice A_out n_out c_out), (4, .int .i64 from_), (5, .int .i64 i)] ∧ I1 out from_ i ∧ n_out = out.length ∧ w.grownBy w' none ∧ Own vs w' w.heap.size 9 A_out c_out out) _ _ ⟨[], none, 0, 0, (0 : Int), (0 : Int), rfl, rfl, h0_1, rfl, (gr_refl _ _), (Own.nil vs w w.heap.size 9)⟩ (by repeat (first | exact Sub.nil | refine Sub.cons rfl ?_)) ?_
  clear h0_1
  rintro _ _ w1 ⟨out, A_out, c_out, n_out, from_, i, rfl, rfl, hI1, rfl, gr1, k1⟩
  have H := HR1 out from_ i hI1
  refine WC.seq ?_
  refine WC.seq ?_
  refine WC.region ?_
  refine WL.y rfl (Yld.pure tab_ok rfl) ?_
  refine WL.y rfl (Yld.pure tab_ok rfl) ?_
  refine WL.y rfl (Yld.pure tab_ok rfl) ?_
  refine WL.y rfl (Yld.pure tab_ok rfl) ?_
  refine WL.nil (WX.then_normal ?_)
  refine WC.cond rfl (fun b1 => ?_) (fun b1 => ?_)
  · replace H := H.1 (of_decide_eq_true b1)
    refine WC.skip (WX.then_normal ?_)
    refine WC.seq ?_
    obtain ⟨J1, H, hJ1⟩ := H
    refine WC.midF (fun L' w' => ∃ (out2 : List (List UInt8)), ∃ (A_out2 : Option Addr), ∃ (c_out2 : Nat), ∃ (n_out2 : Nat), ∃ (from_2 : Int), L' = [(0, vs p), (3, .slice A_out2 n_out2 c_out2), (4, .int .i64 from_2), (5, .int .i64 i)] ∧ J1 out2 from_2 ∧ n_out2 = out2.length ∧ w.grownBy w' none ∧ Own vs w' w.heap.size 9 A_out2 c_out2 out2) ?_ (fun hQ => ?_)
    · clear H
      rintro _ w2 ⟨out2, A_out2, c_out2, n_out2, from_2, rfl, H, rfl, gr2, k2⟩
      replace H := hJ1 out2 from_2 H
      refine WX.then_normal ?_
      refine WC.region ?_
      refine WL.y rfl (Yld.pure tab_ok rfl) ?_
      obtain ⟨h1, H⟩ := H
      refine WL.y rfl (Yld.add rfl rfl h1) ?_
      refine WL.y rfl (Yld.pure tab_ok rfl) ?_
      refine WL.nil ?_
      exact WX.roundF _ ⟨out2, A_out2, c_out2, out2.length, from_2, i + (1 : Int), rfl, rfl, H.1, rfl, gr2, k2⟩ (by repeat (first | exact Sub.nil | refine Sub.cons rfl ?_)) H.2
    · clear hJ1
      refine WC.block ?_
      refine WC.seq ?_
      refine WC.region ?_
      refine WL.y rfl (Yld.pure tab_ok rfl) ?_
      refine WL.y rfl (Yld.pure tab_ok rfl) ?_
      refine WL.y rfl (Yld.pure tab_ok rfl) ?_
      refine WL.y rfl (Yld.pure tab_ok rfl) ?_
      refine WL.y rfl (Yld.pure tab_ok rfl) ?_
      obtain ⟨h2, H⟩ := H
      refine WL.midF 5 (fun L' w' => ∃ q1 : Bool, L' = [(21, .bool q1), (0, vs p), (3, .slice A_out out.length c_out), (4, .int .i64 from_), (5, .int .i64 i)] ∧ ((decide (i = (p.length : Int))) || (decide (((p.getD i.toNat 0).toNat : Int) = (47 : Int)))) = q1 ∧ w1 = w') ?_ (fun hQ => ?_)
      · rintro _ _ ⟨q1, rfl, rfl, rfl⟩
        refine WL.nil (WX.then_normal ?_)
        refine WC.cond rfl (fun b2 => ?_) (fun b2 => ?_)
        · replace H := H.1 (b2)
          refine WC.seq ?_
          refine WC.region ?_
          refine WL.y rfl (Yld.pure tab_ok rfl) ?_
          refine WL.y rfl (Yld.pure tab_ok rfl) ?_
          refine WL.y rfl (Yld.pure tab_ok rfl) ?_
          refine WL.y rfl (Yld.pure tab_ok rfl) ?_
          obtain ⟨h3, H⟩ := H
          refine WL.y rfl (Yld.scut tab_ok rfl rfl rfl rfl h3.1 h3.2.1 h3.2.2) ?_
          refine WL.lit tab_ok rfl rfl rfl (all1c rfl all1n) rfl (by omega) (fun g1 w3 hB1 hg1 hl1 => ?_)
          have hO1 : Own vs w3 w.heap.size 9 (some ⟨g1, 0, none⟩) 1 ([(p.drop from_.toNat).take (i.toNat - from_.toNat)] : List (List UInt8)) := Own.ofBl hB1 (Nat.le_trans (size_le gr1) hl1) (by simp [maxLen]) rfl
          have gr3 := gr_trans gr1 hg1
          have k3 := k1.grown hg1
          obtain ⟨h4, H⟩ := H
          refine WL.append tab_ok rfl rfl One.s k3 rfl rfl hO1.rd rfl rfl h4 (applen h4) (size_le gr3) (fun A_out3 c_out3 w4 hO2 hg2 hk1 => ?_)
          have gr4 := gr_mod gr3 hg2 k3.ge'
          refine WL.y rfl (Yld.pure tab_ok rfl) ?_
          refine WL.nil (WX.then_normal ?_)
          refine WC.region ?_
          refine WL.y rfl (Yld.pure tab_ok rfl) ?_
          obtain ⟨h5, H⟩ := H
          refine WL.y rfl (Yld.add rfl rfl h5) ?_
          refine WL.y rfl (Yld.pure tab_ok rfl) ?_
          refine WL.nil (WX.block_normal ?_)
          exact WX.weaken (by repeat (first | exact Sub.nil | refine Sub.cons rfl ?_)) (hQ _ _ ⟨out ++ ([(p.drop from_.toNat).take (i.toNat - from_.toNat)] : List (List UInt8)), A_out3, c_out3, (out ++ ([(p.drop from_.toNat).take (i.toNat - from_.toNat)] : List (List UInt8))).length, i + (1 : Int), rfl, H, rfl, gr4, hO2⟩)
        · replace H := H.2 (b2)
          refine WC.skip (WX.block_normal ?_)
          exact WX.weaken (by repeat (first | exact Sub.nil | refine Sub.cons rfl ?_)) (hQ _ _ ⟨out, A_out, c_out, out.length, from_, rfl, H, rfl, gr1, k1⟩)
      · clear H
        rcases Bool.eq_false_or_eq_true (decide (i = (p.length : Int))) with b3 | b3
        · refine WL.gno rfl rfl (okb b3) rfl ?_
          refine WL.gno rfl rfl (okb b3) rfl ?_
          refine WL.gno rfl rfl (okb b3) rfl ?_
          refine WL.gno rfl rfl (okb b3) rfl ?_
          refine WL.y rfl (Yld.pickT (okb b3) rfl) ?_
          exact WL.weaken (by repeat (first | exact Sub.nil | refine Sub.cons rfl ?_)) (hQ _ _ ⟨true, rfl, by rw [b3] <;> rfl, rfl⟩)
        · refine WL.gyes rfl rfl (okb b3) rfl (Yld.pure tab_ok rfl) ?_
          refine WL.gyes rfl rfl (okb b3) rfl (Yld.pure tab_ok rfl) ?_
          refine WL.gyes rfl rfl (okb b3) rfl (Yld.sidx tab_ok rfl rfl rfl (h2 b3).1 (h2 b3).2) ?_
          refine WL.gyes rfl rfl (okb b3) rfl (Yld.pure tab_ok rfl) ?_
          refine WL.y rfl (Yld.pickF (okb b3) rfl) ?_
          exact WL.weaken (by repeat (first | exact Sub.nil | refine Sub.cons rfl ?_)) (hQ _ _ ⟨decide (((p.getD i.toNat 0).toNat : Int) = (47 : Int)), rfl, by rw [b3] <;> rfl, rfl⟩)
  · replace H := H.2 (of_decide_eq_false b1)
    refine WC.exit (WX.then_exit (WX.then_exit (WX.block_same (WX.then_normal ?_))))
    refine WC.seq ?_
    refine WC.region ?_
    refine WL.y rfl (Yld.pure tab_ok rfl) ?_
    refine WL.y rfl (Yld.pure tab_ok rfl) ?_
    refine WL.nil (WX.then_normal ?_)
    refine WC.ret ?_
    exact WX.ret1 rfl rfl ⟨gr1, out, A_out, c_out, rfl, k1, H⟩

set_option maxHeartbeats 8000000 in
theorem W_smithyref1_glue {w : World} {l : List (List UInt8)} {A_l : Option Addr} {c_l : Nat} {n_l : Nat} {K : (List UInt8) → Prop} (hl : Rd vs w A_l c_l l) (hn_l : n_l = l.length) (H : M_smithyref1_glue l K) : Fn Tryz.prog 157 ⟨[.slice A_l n_l c_l]⟩ w (fun v w' => w = w' ∧ ∃ (r : List UInt8), v = vs r ∧ K r) := by
  subst hn_l
  unfold M_smithyref1_glue at H
  refine Fn.enter (by kernel_rfl) Tryz.func157 rfl Tryz.ntmps157 rfl ?_
  replace H := H (Nat.le_trans hl.cap hl.max)
  refine WC.seq ?_
  refine WC.region ?_
  refine WL.y rfl (Yld.pure tab_ok rfl) ?_
  refine WL.nil (WX.then_normal ?_)
  refine WC.seq ?_
  refine WC.region ?_
  refine WL.y rfl (Yld.pure tab_ok rfl) ?_
  refine WL.nil (WX.then_normal ?_)
  refine WC.seq ?_
  refine WC.seq ?_
  refine WC.region ?_
  refine WL.y rfl (Yld.pure tab_ok rfl) ?_
  refine WL.nil (WX.then_normal ?_)
  refine WC.block ?_
  obtain ⟨I1, mu1, h0_1, HR1⟩ := H
  refine WC.loopF (fun n' L' w' => ∃ (s : List UInt8), ∃ (i : Int), n' = mu1 s i ∧ L' = [(0, .slice A_l l.length c_l), (3, vs s), (4, .int .i64 i)] ∧ I1 s i ∧ w = w') _ _ ⟨([] : List UInt8), (0 : Int), rfl, rfl, h0_1, rfl⟩ (by repeat (first | exact Sub.nil | refine Sub.cons rfl ?_)) ?_
  clear h0_1
  rintro _ _ _ ⟨s, i, rfl, rfl, hI1, rfl⟩
  have H := HR1 s i hI1
  refine WC.seq ?_
  refine WC.seq ?_
  refine WC.region ?_
  refine WL.y rfl (Yld.pure tab_ok rfl) ?_
  refine WL.y rfl (Yld.pure tab_ok rfl) ?_
  refine WL.y rfl (Yld.pure tab_ok rfl) ?_
  refine WL.y rfl (Yld.pure tab_ok rfl) ?_
  refine WL.nil (WX.then_normal ?_)
  refine WC.cond rfl (fun b1 => ?_) (fun b1 => ?_)
  · replace H := H.1 (of_decide_eq_true b1)
    refine WC.skip (WX.then_normal ?_)
    refine WC.seq ?_
    refine WC.block ?_
    refine WC.seq ?_
    obtain ⟨J1, H, hJ1⟩ := H
    refine WC.midF (fun L' w' => ∃ (s2 : List UInt8), L' = [(0, .slice A_l l.length c_l), (3, vs s2), (4, .int .i64 i)] ∧ J1 s2 ∧ w = w') ?_ (fun hQ => ?_)
    · clear H
      rintro _ _ ⟨s2, rfl, H, rfl⟩
      replace H := hJ1 s2 H
      refine WX.then_normal ?_
      refine WC.region ?_
      refine WL.y rfl (Yld.pure tab_ok rfl) ?_
      refine WL.y rfl (Yld.pure tab_ok rfl) ?_
      refine WL.y rfl (Yld.pure tab_ok rfl) ?_
      obtain ⟨h1, H⟩ := H
      refine WL.y rfl (Yld.iaddrW tab_ok hl rfl rfl rfl rfl h1.1 h1.2) ?_
      refine WL.y rfl (Yld.iload [] tab_ok hl rfl rfl (iltN h1 rfl)) ?_
      obtain ⟨h2, H⟩ := H
      refine WL.y rfl (Yld.sadd rfl rfl h2) ?_
      refine WL.y rfl (Yld.pure tab_ok rfl) ?_
      refine WL.nil (WX.block_normal (WX.then_normal ?_))
      refine WC.region ?_
      refine WL.y rfl (Yld.pure tab_ok rfl) ?_
      obtain ⟨h3, H⟩ := H
      refine WL.y rfl (Yld.add rfl rfl h3) ?_
      refine WL.y rfl (Yld.pure tab_ok rfl) ?_
      refine WL.nil ?_
      exact WX.roundF _ ⟨s2 ++ (l.getD i.toNat []), i + (1 : Int), rfl, rfl, H.1, rfl⟩ (by repeat (first | exact Sub.nil | refine Sub.cons rfl ?_)) H.2
    · clear hJ1
      refine WC.seq ?_
      refine WC.region ?_
      refine WL.y rfl (Yld.pure tab_ok rfl) ?_
      refine WL.y rfl (Yld.pure tab_ok rfl) ?_
      refine WL.nil (WX.then_normal ?_)
      refine WC.cond rfl (fun b2 => ?_) (fun b2 => ?_)
      · replace H := H.1 (of_decide_eq_true b2)
        refine WC.region ?_
        refine WL.y rfl (Yld.pure tab_ok rfl) ?_
        obtain ⟨h4, H⟩ := H
        refine WL.y rfl (Yld.sadd rfl rfl h4) ?_
        refine WL.y rfl (Yld.pure tab_ok rfl) ?_
        refine WL.nil ?_
        exact WX.weaken (by repeat (first | exact Sub.nil | refine Sub.cons rfl ?_)) (hQ _ _ ⟨s ++ ([47] : List UInt8), rfl, H, rfl⟩)
      · replace H := H.2 (of_decide_eq_false b2)
        refine WC.skip ?_
        exact WX.weaken (by repeat (first | exact Sub.nil | refine Sub.cons rfl ?_)) (hQ _ _ ⟨s, rfl, H, rfl⟩)
  · replace H := H.2 (of_decide_eq_false b1)
    refine WC.exit (WX.then_exit (WX.then_exit (WX.block_same (WX.then_normal ?_))))
    refine WC.seq ?_
    refine WC.region ?_
    refine WL.y rfl (Yld.pure tab_ok rfl) ?_
    refine WL.y rfl (Yld.pure tab_ok rfl) ?_
    refine WL.nil (WX.then_normal ?_)
    refine WC.ret ?_
    exact WX.ret1 rfl rfl ⟨rfl, s, rfl, H⟩

set_option maxHeartbeats 8000000 in
theorem W_smithyref1_part {w : World} {s : List UInt8} {star : Bool} {K : Bool → Prop} (H : M_smithyref1_part s star K) : Fn Tryz.prog 156 ⟨[vs s, .bool star]⟩ w (fun v w' => w = w' ∧ ∃ (r : Bool), v = .bool r ∧ K r) := by
  unfold M_smithyref1_part at H
  refine Fn.enter (by kernel_rfl) Tryz.func156 rfl Tryz.ntmps156 rfl ?_
  refine WC.seq ?_
  refine WC.region ?_
  refine WL.y rfl (Yld.pure tab_ok rfl) ?_
  refine WL.nil (WX.then_normal ?_)
  refine WC.seq ?_
  refine WC.seq ?_
  refine WC.region ?_
  refine WL.y rfl (Yld.pure tab_ok rfl) ?_
  refine WL.nil (WX.then_normal ?_)
  refine WC.block ?_
  obtain ⟨I1, mu1, h0_1, HR1⟩ := H
  refine WC.loopF (fun n' L' w' => ∃ (i : Int), n' = mu1 i ∧ L' = [(0, vs s), (1, .bool star), (5, .int .i64 i)] ∧ I1 i ∧ w = w') _ _ ⟨(0 : Int), rfl, rfl, h0_1, rfl⟩ (by repeat (first | exact Sub.nil | refine Sub.cons rfl ?_)) ?_
  clear h0_1
  rintro _ _ _ ⟨i, rfl, rfl, hI1, rfl⟩
  have H := HR1 i hI1
  refine WC.seq ?_
  refine WC.seq ?_
  refine WC.region ?_
  refine WL.y rfl (Yld.pure tab_ok rfl) ?_
  refine WL.y rfl (Yld.pure tab_ok rfl) ?_
  refine WL.y rfl (Yld.pure tab_ok rfl) ?_
  refine WL.y rfl (Yld.pure tab_ok rfl) ?_
  refine WL.nil (WX.then_normal ?_)
  refine WC.cond rfl (fun b1 => ?_) (fun b1 => ?_)
  · replace H := H.1 (of_decide_eq_true b1)
    refine WC.skip (WX.then_normal ?_)
    refine WC.seq ?_
    refine WC.block ?_
    refine WC.seq ?_
    refine WC.region ?_
    refine WL.y rfl (Yld.pure tab_ok rfl) ?_
    refine WL.y rfl (Yld.pure tab_ok rfl) ?_
    obtain ⟨h1, H⟩ := H
    refine WL.y rfl (Yld.sidx tab_ok rfl rfl rfl h1.1 h1.2) ?_
    refine WL.call rfl rfl (W_smithyref1_letter H) ?_
    rintro _ _ ⟨rfl, t15, rfl, H⟩
    refine WL.y rfl (Yld.pure tab_ok rfl) ?_
    refine WL.y rfl (Yld.pure tab_ok rfl) ?_
    obtain ⟨h2, H⟩ := H
    refine WL.midF 9 (fun L' w' => ∃ q1 : Bool, L' = [(26, .bool q1), (0, vs s), (1, .bool star), (5, .int .i64 i)] ∧ ((!t15) && (!(star && (decide (((s.getD i.toNat 0).toNat : Int) = (42 : Int)))))) = q1 ∧ w = w') ?_ (fun hQ => ?_)
    · rintro _ _ ⟨q1, rfl, rfl, rfl⟩
      refine WL.nil (WX.then_normal ?_)
      refine WC.cond rfl (fun b2 => ?_) (fun b2 => ?_)
      · replace H := H.1 (b2)
        refine WC.seq ?_
        refine WC.region ?_
        refine WL.y rfl (Yld.pure tab_ok rfl) ?_
        refine WL.nil (WX.then_normal ?_)
        refine WC.ret (WX.block_ret (WX.then_ret (WX.then_ret (WX.block_ret (WX.then_ret ?_)))))
        exact WX.ret1 rfl rfl ⟨rfl, false, rfl, H⟩
      · replace H := H.2 (b2)
        refine WC.skip (WX.block_normal (WX.then_normal ?_))
        refine WC.region ?_
        refine WL.y rfl (Yld.pure tab_ok rfl) ?_
        obtain ⟨h3, H⟩ := H
        refine WL.y rfl (Yld.add rfl rfl h3) ?_
        refine WL.y rfl (Yld.pure tab_ok rfl) ?_
        refine WL.nil ?_
        exact WX.roundF _ ⟨i + (1 : Int), rfl, rfl, H.1, rfl⟩ (by repeat (first | exact Sub.nil | refine Sub.cons rfl ?_)) H.2
    · clear H
      rcases Bool.eq_false_or_eq_true (!t15) with b3 | b3
      · refine WL.gyes rfl rfl (okb b3) rfl (Yld.pure tab_ok rfl) ?_
        refine WL.gyes rfl rfl (okb b3) rfl (Yld.pure tab_ok rfl) ?_
        rcases Bool.eq_false_or_eq_true (star) with b4 | b4
        · refine WL.gyes rfl rfl (okb b4) rfl (Yld.pure tab_ok rfl) ?_
          refine WL.gyes rfl rfl (okb b4) rfl (Yld.pure tab_ok rfl) ?_
          refine WL.gyes rfl rfl (okb b4) rfl (Yld.sidx tab_ok rfl rfl rfl (h2 b3 b4).1 (h2 b3 b4).2) ?_
          refine WL.gyes rfl rfl (okb b4) rfl (Yld.pure tab_ok rfl) ?_
          refine WL.gyes rfl rfl (okb b3) rfl (Yld.pickT (okb b4) rfl) ?_
          refine WL.gyes rfl rfl (okb b3) rfl (Yld.pure tab_ok rfl) ?_
          refine WL.y rfl (Yld.pickT (okb b3) rfl) ?_
          exact WL.weaken (by repeat (first | exact Sub.nil | refine Sub.cons rfl ?_)) (hQ _ _ ⟨!decide (((s.getD i.toNat 0).toNat : Int) = (42 : Int)), rfl, by rw [b3, b4] <;> rfl, rfl⟩)
        · refine WL.gno rfl rfl (okb b4) rfl ?_
          refine WL.gno rfl rfl (okb b4) rfl ?_
          refine WL.gno rfl rfl (okb b4) rfl ?_
          refine WL.gno rfl rfl (okb b4) rfl ?_
          refine WL.gyes rfl rfl (okb b3) rfl (Yld.pickF (okb b4) rfl) ?_
          refine WL.gyes rfl rfl (okb b3) rfl (Yld.pure tab_ok rfl) ?_
          refine WL.y rfl (Yld.pickT (okb b3) rfl) ?_
          exact WL.weaken (by repeat (first | exact Sub.nil | refine Sub.cons rfl ?_)) (hQ _ _ ⟨true, rfl, by rw [b3, b4] <;> rfl, rfl⟩)
      · refine WL.gno rfl rfl (okb b3) rfl ?_
        refine WL.gno rfl rfl (okb b3) rfl ?_
        refine WL.gun rfl rfl rfl rfl ?_
        refine WL.gun rfl rfl rfl rfl ?_
        refine WL.gun rfl rfl rfl rfl ?_
        refine WL.gun rfl rfl rfl rfl ?_
        refine WL.gno rfl rfl (okb b3) rfl ?_
        refine WL.gno rfl rfl (okb b3) rfl ?_
        refine WL.y rfl (Yld.pickF (okb b3) rfl) ?_
        exact WL.weaken (by repeat (first | exact Sub.nil | refine Sub.cons rfl ?_)) (hQ _ _ ⟨false, rfl, by rw [b3] <;> rfl, rfl⟩)
  · replace H := H.2 (of_decide_eq_false b1)
    refine WC.exit (WX.then_exit (WX.then_exit (WX.block_same (WX.then_normal ?_))))
    refine WC.seq ?_
    refine WC.region ?_
    refine WL.y rfl (Yld.pure tab_ok rfl) ?_
    refine WL.y rfl (Yld.pure tab_ok rfl) ?_
    refine WL.y rfl (Yld.pure tab_ok rfl) ?_
    refine WL.midF 3 (fun L' w' => ∃ q2 : Bool, L' = [(32, .bool q2), (0, vs s)] ∧ ((!decide (s = ([] : List UInt8))) && (!decide (s = ([46] : List UInt8)))) = q2 ∧ w = w') ?_ (fun hQ => ?_)
    · rintro _ _ ⟨q2, rfl, rfl, rfl⟩
      refine WL.y rfl (Yld.pure tab_ok rfl) ?_
      refine WL.midF 3 (fun L' w' => ∃ q3 : Bool, L' = [(36, .bool q3)] ∧ (((!decide (s = ([] : List UInt8))) && (!decide (s = ([46] : List UInt8)))) && (!decide (s = ([46, 46] : List UInt8)))) = q3 ∧ w = w') ?_ (fun hQ => ?_)
      · rintro _ _ ⟨q3, rfl, rfl, rfl⟩
        refine WL.y rfl (Yld.pure tab_ok rfl) ?_
        refine WL.nil (WX.then_normal ?_)
        refine WC.ret ?_
        exact WX.ret1 rfl rfl ⟨rfl, ((!decide (s = ([] : List UInt8))) && (!decide (s = ([46] : List UInt8)))) && (!decide (s = ([46, 46] : List UInt8))), rfl, H⟩
      · clear H
        rcases Bool.eq_false_or_eq_true ((!decide (s = ([] : List UInt8))) && (!decide (s = ([46] : List UInt8)))) with b5 | b5
        · refine WL.gyes rfl rfl (okb b5) rfl (Yld.pure tab_ok rfl) ?_
          refine WL.gyes rfl rfl (okb b5) rfl (Yld.pure tab_ok rfl) ?_
          refine WL.y rfl (Yld.pickT (okb b5) rfl) ?_
          exact WL.weaken (by repeat (first | exact Sub.nil | refine Sub.cons rfl ?_)) (hQ _ _ ⟨!decide (s = ([46, 46] : List UInt8)), rfl, by rw [b5] <;> rfl, rfl⟩)
        · refine WL.gno rfl rfl (okb b5) rfl ?_
          refine WL.gno rfl rfl (okb b5) rfl ?_
          refine WL.y rfl (Yld.pickF (okb b5) rfl) ?_
          exact WL.weaken (by repeat (first | exact Sub.nil | refine Sub.cons rfl ?_)) (hQ _ _ ⟨false, rfl, by rw [b5] <;> rfl, rfl⟩)
    · clear H
      rcases Bool.eq_false_or_eq_true (!decide (s = ([] : List UInt8))) with b6 | b6
      · refine WL.gyes rfl rfl (okb b6) rfl (Yld.pure tab_ok rfl) ?_
        refine WL.gyes rfl rfl (okb b6) rfl (Yld.pure tab_ok rfl) ?_
        refine WL.y rfl (Yld.pickT (okb b6) rfl) ?_
        exact WL.weaken (by repeat (first | exact Sub.nil | refine Sub.cons rfl ?_)) (hQ _ _ ⟨!decide (s = ([46] : List UInt8)), rfl, by rw [b6] <;> rfl, rfl⟩)
      · refine WL.gno rfl rfl (okb b6) rfl ?_
        refine WL.gno rfl rfl (okb b6) rfl ?_
        refine WL.y rfl (Yld.pickF (okb b6) rfl) ?_
        exact WL.weaken (by repeat (first | exact Sub.nil | refine Sub.cons rfl ?_)) (hQ _ _ ⟨false, rfl, by rw [b6] <;> rfl, rfl⟩)

set_option maxHeartbeats 8000000 in
theorem W_smithyref1_Clean {w : World} {p : List UInt8} {K : (List UInt8) → Bool → Prop} (H : M_smithyref1_Clean p K) : Fn Tryz.prog 124 ⟨[vs p]⟩ w (fun v w' => w.grownBy w' none ∧ ∃ (r0 : List UInt8), ∃ (r1 : Bool), v = .tuple #[vs r0, .bool r1] ∧ K r0 r1) := by
  unfold M_smithyref1_Clean at H
  refine Fn.enter (by kernel_rfl) Tryz.func124 rfl Tryz.ntmps124 rfl ?_
  refine WC.seq ?_
  refine WC.region ?_
  refine WL.y rfl (Yld.pure tab_ok rfl) ?_
  refine WL.y rfl (Yld.pure tab_ok rfl) ?_
  refine WL.nil (WX.then_normal ?_)
  refine WC.seq ?_
  refine WC.region ?_
  refine WL.y rfl (Yld.pure tab_ok rfl) ?_
  refine WL.nil (WX.then_normal ?_)
  refine WC.seq ?_
  refine WC.region ?_
  refine WL.y rfl (Yld.pure tab_ok rfl) ?_
  refine WL.call rfl rfl (W_smithyref1_Parts H) ?_
  rintro _ w1 ⟨hg1, parts, A_parts, c_parts, rfl, hparts, H⟩
  have hb1 := hparts.ge'
  have k1 := hparts.base (fun g hg => Nat.le_trans (Nat.le_refl _) (hb1 g hg))
  have gr1 := hg1
  refine WL.y rfl (Yld.pure tab_ok rfl) ?_
  refine WL.nil (WX.then_normal ?_)
  refine WC.seq ?_
  refine WC.seq ?_
  refine WC.region ?_
  refine WL.y rfl (Yld.pure tab_ok rfl) ?_
  refine WL.nil (WX.then_normal ?_)
  refine WC.block ?_
  obtain ⟨I1, mu1, h0_1, HR1⟩ := H
  refine WC.loopF (fun n' L' w' => ∃ (l : List (List UInt8)), ∃ (A_l : Option Addr), ∃ (c_l : Nat), ∃ (n_l : Nat), ∃ (i : Int), n' = mu1 l i ∧ L' = [(4, .slice A_l n_l c_l), (5, .slice A_parts parts.length c_parts), (6, .int .i64 i)] ∧ I1 l i ∧ n_l = l.length ∧ w.grownBy w' none ∧ Own vs w' w.heap.size 9 A_parts c_parts parts ∧ Own vs w' w.heap.size 9 A_l c_l l ∧ Dj (blk A_parts) (blk A_l)) _ _ ⟨[], none, 0, 0, (0 : Int), rfl, rfl, h0_1, rfl, gr1, k1, (Own.nil vs w1 w.heap.size 9), Dj.nr⟩ (by repeat (first | exact Sub.nil | refine Sub.cons rfl ?_)) ?_
  clear h0_1
  rintro _ _ w2 ⟨l, A_l, c_l, n_l, i, rfl, rfl, hI1, rfl, gr2, k2, k3, dj1⟩
  have H := HR1 l i hI1
  refine WC.seq ?_
  refine WC.seq ?_
  refine WC.region ?_
  refine WL.y rfl (Yld.pure tab_ok rfl) ?_
  refine WL.y rfl (Yld.pure tab_ok rfl) ?_
  refine WL.y rfl (Yld.pure tab_ok rfl) ?_
  refine WL.y rfl (Yld.pure tab_ok rfl) ?_
  refine WL.nil (WX.then_normal ?_)
  refine WC.cond rfl (fun b1 => ?_) (fun b1 => ?_)
  · replace H := H.1 (of_decide_eq_true b1)
    refine WC.skip (WX.then_normal ?_)
    refine WC.seq ?_
    obtain ⟨J1, H, hJ1⟩ := H
    refine WC.midF (fun L' w' => ∃ (l2 : List (List UInt8)), ∃ (A_l2 : Option Addr), ∃ (c_l2 : Nat), ∃ (n_l2 : Nat), L' = [(4, .slice A_l2 n_l2 c_l2), (5, .slice A_parts parts.length c_parts), (6, .int .i64 i)] ∧ J1 l2 ∧ n_l2 = l2.length ∧ w.grownBy w' none ∧ Own vs w' w.heap.size 9 A_parts c_parts parts ∧ Own vs w' w.heap.size 9 A_l2 c_l2 l2 ∧ Dj (blk A_parts) (blk A_l2)) ?_ (fun hQ => ?_)
    · clear H
      rintro _ w3 ⟨l2, A_l2, c_l2, n_l2, rfl, H, rfl, gr3, k4, k5, dj2⟩
      replace H := hJ1 l2 H
      refine WX.then_normal ?_
      refine WC.region ?_
      refine WL.y rfl (Yld.pure tab_ok rfl) ?_
      obtain ⟨h1, H⟩ := H
      refine WL.y rfl (Yld.add rfl rfl h1) ?_
      refine WL.y rfl (Yld.pure tab_ok rfl) ?_
      refine WL.nil ?_
      exact WX.roundF _ ⟨l2, A_l2, c_l2, l2.length, i + (1 : Int), rfl, rfl, H.1, rfl, gr3, k4, k5, dj2⟩ (by repeat (first | exact Sub.nil | refine Sub.cons rfl ?_)) H.2
    · clear hJ1
      refine WC.block ?_
      refine WC.block ?_
      refine WC.seq ?_
      refine WC.region ?_
      refine WL.y rfl (Yld.pure tab_ok rfl) ?_
      refine WL.y rfl (Yld.pure tab_ok rfl) ?_
      obtain ⟨h2, H⟩ := H
      refine WL.y rfl (Yld.iaddrW tab_ok k2.rd rfl rfl rfl rfl h2.1 h2.2) ?_
      refine WL.y rfl (Yld.iload [] tab_ok k2.rd rfl rfl (iltN h2 rfl)) ?_
      refine WL.y rfl (Yld.pure tab_ok rfl) ?_
      refine WL.y rfl (Yld.pure tab_ok rfl) ?_
      obtain ⟨h3, H⟩ := H
      refine WL.midF 6 (fun L' w' => ∃ q1 : Bool, L' = [(35, .bool q1), (4, .slice A_l l.length c_l), (5, .slice A_parts parts.length c_parts), (6, .int .i64 i)] ∧ ((decide ((parts.getD i.toNat []) = ([] : List UInt8))) || (decide ((parts.getD i.toNat []) = ([46] : List UInt8)))) = q1 ∧ w2 = w') ?_ (fun hQ => ?_)
      · rintro _ _ ⟨q1, rfl, rfl, rfl⟩
        refine WL.y rfl (Yld.pure tab_ok rfl) ?_
        refine WL.nil (WX.then_normal ?_)
        refine WC.cond rfl (fun b2 => ?_) (fun b2 => ?_)
        · replace H := H.1 (b2)
          refine WC.skip (WX.block_normal (WX.block_normal ?_))
          exact WX.weaken (by repeat (first | exact Sub.nil | refine Sub.cons rfl ?_)) (hQ _ _ ⟨l, A_l, c_l, l.length, rfl, H, rfl, gr2, k2, k3, dj1⟩)
        · replace H := H.2 (b2)
          refine WC.seq ?_
          refine WC.region ?_
          refine WL.y rfl (Yld.pure tab_ok rfl) ?_
          refine WL.y rfl (Yld.pure tab_ok rfl) ?_
          obtain ⟨h4, H⟩ := H
          refine WL.y rfl (Yld.iaddrW tab_ok k2.rd rfl rfl rfl rfl h4.1 h4.2) ?_
          refine WL.y rfl (Yld.iload [] tab_ok k2.rd rfl rfl (iltN h4 rfl)) ?_
          refine WL.y rfl (Yld.pure tab_ok rfl) ?_
          refine WL.y rfl (Yld.pure tab_ok rfl) ?_
          refine WL.nil (WX.then_normal ?_)
          refine WC.cond rfl (fun b3 => ?_) (fun b3 => ?_)
          · replace H := H.1 (of_decide_eq_true b3)
            refine WC.seq ?_
            refine WC.seq ?_
            refine WC.region ?_
            refine WL.y rfl (Yld.pure tab_ok rfl) ?_
            refine WL.y rfl (Yld.pure tab_ok rfl) ?_
            refine WL.y rfl (Yld.pure tab_ok rfl) ?_
            refine WL.nil (WX.then_normal ?_)
            refine WC.cond rfl (fun b4 => ?_) (fun b4 => ?_)
            · replace H := H.1 (of_decide_eq_true b4)
              refine WC.seq ?_
              refine WC.region ?_
              refine WL.y rfl (Yld.pure tab_ok rfl) ?_
              refine WL.y rfl (Yld.pure tab_ok rfl) ?_
              refine WL.nil (WX.then_normal ?_)
              refine WC.ret (WX.then_ret (WX.block_ret (WX.block_ret (WX.then_ret (WX.then_ret (WX.block_ret (WX.then_ret ?_)))))))
              exact WX.ret2 rfl rfl rfl ⟨gr2, ([] : List UInt8), false, rfl, H⟩
            · replace H := H.2 (of_decide_eq_false b4)
              refine WC.skip (WX.then_normal ?_)
              refine WC.region ?_
              refine WL.y rfl (Yld.pure tab_ok rfl) ?_
              refine WL.y rfl (Yld.pure tab_ok rfl) ?_
              refine WL.y rfl (Yld.pure tab_ok rfl) ?_
              obtain ⟨h5, H⟩ := H
              refine WL.y rfl (Yld.sub rfl rfl h5) ?_
              obtain ⟨h6, H⟩ := H
              refine WL.ocut tab_ok rfl rfl k3 rfl rfl rfl rfl h6.1 h6.2 (fun hO1 => ?_)
              refine WL.y rfl (Yld.pure tab_ok rfl) ?_
              refine WL.nil (WX.block_normal (WX.block_normal ?_))
              exact WX.weaken (by repeat (first | exact Sub.nil | refine Sub.cons rfl ?_)) (hQ _ _ ⟨l.take ((l.length : Int) - (1 : Int)).toNat, A_l, c_l, (l.take ((l.length : Int) - (1 : Int)).toNat).length, rfl, H, rfl, gr2, k2, hO1, dj1⟩)
          · replace H := H.2 (of_decide_eq_false b3)
            refine WC.seq ?_
            refine WC.region ?_
            refine WL.y rfl (Yld.pure tab_ok rfl) ?_
            refine WL.y rfl (Yld.pure tab_ok rfl) ?_
            obtain ⟨h7, H⟩ := H
            refine WL.y rfl (Yld.iaddrW tab_ok k2.rd rfl rfl rfl rfl h7.1 h7.2) ?_
            refine WL.y rfl (Yld.iload [] tab_ok k2.rd rfl rfl (iltN h7 rfl)) ?_
            refine WL.call rfl rfl (W_smithyref1_part H) ?_
            rintro _ _ ⟨rfl, t55, rfl, H⟩
            refine WL.y rfl (Yld.pure tab_ok rfl) ?_
            refine WL.y rfl (Yld.pure tab_ok rfl) ?_
            refine WL.nil (WX.then_normal ?_)
            refine WC.cond rfl (fun b5 => ?_) (fun b5 => ?_)
            · replace H := H.1 (b5)
              refine WC.seq ?_
              refine WC.region ?_
              refine WL.y rfl (Yld.pure tab_ok rfl) ?_
              refine WL.y rfl (Yld.pure tab_ok rfl) ?_
              refine WL.nil (WX.then_normal ?_)
              refine WC.ret (WX.block_ret (WX.block_ret (WX.then_ret (WX.then_ret (WX.block_ret (WX.then_ret ?_))))))
              exact WX.ret2 rfl rfl rfl ⟨gr2, ([] : List UInt8), false, rfl, H⟩
            · replace H := H.2 (b5)
              refine WC.region ?_
              refine WL.y rfl (Yld.pure tab_ok rfl) ?_
              refine WL.y rfl (Yld.pure tab_ok rfl) ?_
              refine WL.y rfl (Yld.pure tab_ok rfl) ?_
              obtain ⟨h8, H⟩ := H
              refine WL.y rfl (Yld.iaddrW tab_ok k2.rd rfl rfl rfl rfl h8.1 h8.2) ?_
              refine WL.y rfl (Yld.iload [] tab_ok k2.rd rfl rfl (iltN h8 rfl)) ?_
              refine WL.lit tab_ok rfl rfl rfl (all1c rfl all1n) rfl (by omega) (fun g1 w4 hB1 hg2 hl1 => ?_)
              have hO2 : Own vs w4 w.heap.size 9 (some ⟨g1, 0, none⟩) 1 ([parts.getD i.toNat []] : List (List UInt8)) := Own.ofBl hB1 (Nat.le_trans (size_le gr2) hl1) (by simp [maxLen]) rfl
              have gr4 := gr_trans gr2 hg2
              have k6 := k2.grown hg2
              have k7 := k3.grown hg2
              obtain ⟨h9, H⟩ := H
              refine WL.append tab_ok rfl rfl One.s k7 rfl rfl hO2.rd rfl rfl h9 (applen h9) (size_le gr4) (fun A_l3 c_l3 w5 hO3 hg3 hk1 => ?_)
              have gr5 := gr_mod gr4 hg3 k7.ge'
              have k8 := k6.go hg3 dj1
              refine WL.y rfl (Yld.pure tab_ok rfl) ?_
              refine WL.nil (WX.block_normal (WX.block_normal ?_))
              exact WX.weaken (by repeat (first | exact Sub.nil | refine Sub.cons rfl ?_)) (hQ _ _ ⟨l ++ ([parts.getD i.toNat []] : List (List UInt8)), A_l3, c_l3, (l ++ ([parts.getD i.toNat []] : List (List UInt8))).length, rfl, H, rfl, gr5, k8, hO3, (Dj.app dj1.symm k6.lt' hk1).symm⟩)
      · clear H
        rcases Bool.eq_false_or_eq_true (decide ((parts.getD i.toNat []) = ([] : List UInt8))) with b6 | b6
        · refine WL.gno rfl rfl (okb b6) rfl ?_
          refine WL.gno rfl rfl (okb b6) rfl ?_
          refine WL.gno rfl rfl (okb b6) rfl ?_
          refine WL.gno rfl rfl (okb b6) rfl ?_
          refine WL.gno rfl rfl (okb b6) rfl ?_
          refine WL.y rfl (Yld.pickT (okb b6) rfl) ?_
          exact WL.weaken (by repeat (first | exact Sub.nil | refine Sub.cons rfl ?_)) (hQ _ _ ⟨true, rfl, by rw [b6] <;> rfl, rfl⟩)
        · refine WL.gyes rfl rfl (okb b6) rfl (Yld.pure tab_ok rfl) ?_
          refine WL.gyes rfl rfl (okb b6) rfl (Yld.pure tab_ok rfl) ?_
          refine WL.gyes rfl rfl (okb b6) rfl (Yld.iaddrW tab_ok k2.rd rfl rfl rfl rfl (h3 b6).1 (h3 b6).2) ?_
          refine WL.gyes rfl rfl (okb b6) rfl (Yld.iload [] tab_ok k2.rd rfl rfl (iltN (h3 b6) rfl)) ?_
          refine WL.gyes rfl rfl (okb b6) rfl (Yld.pure tab_ok rfl) ?_
          refine WL.y rfl (Yld.pickF (okb b6) rfl) ?_
          exact WL.weaken (by repeat (first | exact Sub.nil | refine Sub.cons rfl ?_)) (hQ _ _ ⟨decide ((parts.getD i.toNat []) = ([46] : List UInt8)), rfl, by rw [b6] <;> rfl, rfl⟩)
  · replace H := H.2 (of_decide_eq_false b1)
    refine WC.exit (WX.then_exit (WX.then_exit (WX.block_same (WX.then_normal ?_))))
    refine WC.seq ?_
    refine WC.region ?_
    refine WL.y rfl (Yld.pure tab_ok rfl) ?_
    refine WL.call rfl rfl (W_smithyref1_glue k3.rd rfl H) ?_
    rintro _ _ ⟨rfl, s, rfl, H⟩
    refine WL.y rfl (Yld.pure tab_ok rfl) ?_
    refine WL.nil (WX.then_normal ?_)
    refine WC.seq ?_
    refine WC.seq ?_
    refine WC.region ?_
    refine WL.y rfl (Yld.pure tab_ok rfl) ?_
    refine WL.y rfl (Yld.pure tab_ok rfl) ?_
    refine WL.y rfl (Yld.pure tab_ok rfl) ?_
    refine WL.nil (WX.then_normal ?_)
    refine WC.cond rfl (fun b7 => ?_) (fun b7 => ?_)
    · replace H := H.1 (of_decide_eq_true b7)
      refine WC.seq ?_
      refine WC.region ?_
      refine WL.y rfl (Yld.pure tab_ok rfl) ?_
      refine WL.y rfl (Yld.pure tab_ok rfl) ?_
      refine WL.nil (WX.then_normal ?_)
      refine WC.ret (WX.then_ret ?_)
      exact WX.ret2 rfl rfl rfl ⟨gr2, ([] : List UInt8), false, rfl, H⟩
    · replace H := H.2 (of_decide_eq_false b7)
      refine WC.skip (WX.then_normal ?_)
      refine WC.seq ?_
      refine WC.region ?_
      refine WL.y rfl (Yld.pure tab_ok rfl) ?_
      refine WL.y rfl (Yld.pure tab_ok rfl) ?_
      refine WL.y rfl (Yld.pure tab_ok rfl) ?_
      refine WL.nil (WX.then_normal ?_)
      refine WC.ret ?_
      exact WX.ret2 rfl rfl rfl ⟨gr2, s, true, rfl, H⟩

set_option maxHeartbeats 8000000 in
theorem W_smithyref1_Valid {w : World} {p : List UInt8} {K : Bool → Prop} (H : M_smithyref1_Valid p K) : Fn Tryz.prog 69 ⟨[vs p]⟩ w (fun v w' => w.grownBy w' none ∧ ∃ (r : Bool), v = .bool r ∧ K r) := by
  unfold M_smithyref1_Valid at H
  refine Fn.enter (by kernel_rfl) Tryz.func69 rfl Tryz.ntmps69 rfl ?_
  refine WC.seq ?_
  refine WC.region ?_
  refine WL.y rfl (Yld.pure tab_ok rfl) ?_
  refine WL.nil (WX.then_normal ?_)
  refine WC.seq ?_
  refine WC.region ?_
  refine WL.y rfl (Yld.pure tab_ok rfl) ?_
  refine WL.call rfl rfl (W_smithyref1_Clean H) ?_
  rintro _ w1 ⟨hg1, t70, t71, rfl, H⟩
  have gr1 := hg1
  refine WL.y rfl (Yld.pure tab_ok rfl) ?_
  refine WL.y rfl (Yld.pure tab_ok rfl) ?_
  refine WL.y rfl (Yld.pure tab_ok rfl) ?_
  refine WL.y rfl (Yld.pure tab_ok rfl) ?_
  refine WL.y rfl (Yld.pure tab_ok rfl) ?_
  refine WL.nil (WX.then_normal ?_)
  refine WC.seq ?_
  refine WC.region ?_
  refine WL.y rfl (Yld.pure tab_ok rfl) ?_
  refine WL.y rfl (Yld.pure tab_ok rfl) ?_
  refine WL.midF 4 (fun L' w' => ∃ q1 : Bool, L' = [(15, .bool q1), (0, vs p)] ∧ (t71 && (decide (t70 = p))) = q1 ∧ w1 = w') ?_ (fun hQ => ?_)
  · rintro _ _ ⟨q1, rfl, rfl, rfl⟩
    refine WL.y rfl (Yld.pure tab_ok rfl) ?_
    refine WL.midF 3 (fun L' w' => ∃ q2 : Bool, L' = [(19, .bool q2)] ∧ ((t71 && (decide (t70 = p))) && (!decide (p = ([] : List UInt8)))) = q2 ∧ w1 = w') ?_ (fun hQ => ?_)
    · rintro _ _ ⟨q2, rfl, rfl, rfl⟩
      refine WL.y rfl (Yld.pure tab_ok rfl) ?_
      refine WL.nil (WX.then_normal ?_)
      refine WC.ret ?_
      exact WX.ret1 rfl rfl ⟨gr1, (t71 && (decide (t70 = p))) && (!decide (p = ([] : List UInt8))), rfl, H⟩
    · clear H
      rcases Bool.eq_false_or_eq_true (t71 && (decide (t70 = p))) with b1 | b1
      · refine WL.gyes rfl rfl (okb b1) rfl (Yld.pure tab_ok rfl) ?_
        refine WL.gyes rfl rfl (okb b1) rfl (Yld.pure tab_ok rfl) ?_
        refine WL.y rfl (Yld.pickT (okb b1) rfl) ?_
        exact WL.weaken (by repeat (first | exact Sub.nil | refine Sub.cons rfl ?_)) (hQ _ _ ⟨!decide (p = ([] : List UInt8)), rfl, by rw [b1] <;> rfl, rfl⟩)
      · refine WL.gno rfl rfl (okb b1) rfl ?_
        refine WL.gno rfl rfl (okb b1) rfl ?_
        refine WL.y rfl (Yld.pickF (okb b1) rfl) ?_
        exact WL.weaken (by repeat (first | exact Sub.nil | refine Sub.cons rfl ?_)) (hQ _ _ ⟨false, rfl, by rw [b1] <;> rfl, rfl⟩)
  · clear H
    rcases Bool.eq_false_or_eq_true (t71) with b2 | b2
    · refine WL.gyes rfl rfl (okb b2) rfl (Yld.pure tab_ok rfl) ?_
      refine WL.gyes rfl rfl (okb b2) rfl (Yld.pure tab_ok rfl) ?_
      refine WL.gyes rfl rfl (okb b2) rfl (Yld.pure tab_ok rfl) ?_
      refine WL.y rfl (Yld.pickT (okb b2) rfl) ?_
      exact WL.weaken (by repeat (first | exact Sub.nil | refine Sub.cons rfl ?_)) (hQ _ _ ⟨decide (t70 = p), rfl, by rw [b2] <;> rfl, rfl⟩)
    · refine WL.gno rfl rfl (okb b2) rfl ?_
      refine WL.gno rfl rfl (okb b2) rfl ?_
      refine WL.gno rfl rfl (okb b2) rfl ?_
      refine WL.y rfl (Yld.pickF (okb b2) rfl) ?_
      exact WL.weaken (by repeat (first | exact Sub.nil | refine Sub.cons rfl ?_)) (hQ _ _ ⟨false, rfl, by rw [b2] <;> rfl, rfl⟩)

end Go.Proofs.YtlonpmajnglmoaaGreatDoor

 /- smithysee.Is, plainly. -/
namespace Go.Proofs.YtlonpmajnglmoaaGreatDoor
open Go Go.RowKit
end Go.Proofs.YtlonpmajnglmoaaGreatDoor


 /- The chapter's own words for paths (smithyref1), and PathSays. -/
namespace Go.Proofs.YtlonpmajnglmoaaGreatDoor
open Go Go.RowKit
theorem letNat (c : UInt8) : letB c = ((((((((((((((decide (97 ≤ c.toNat) && decide (c.toNat ≤ 122)) || (decide (65 ≤ c.toNat) && decide (c.toNat ≤ 90))) || (decide (48 ≤ c.toNat) && decide (c.toNat ≤ 57))) || decide (c.toNat = 33)) || decide (c.toNat = 35)) || decide (c.toNat = 37)) || decide (c.toNat = 43)) || decide (c.toNat = 44)) || decide (c.toNat = 45)) || decide (c.toNat = 46)) || decide (c.toNat = 61)) || decide (c.toNat = 64)) || decide (c.toNat = 95)) || decide (c.toNat = 126)) := by
  have h : ∀ n : Fin 256, letB (UInt8.ofNat n.val) = ((((((((((((((decide (97 ≤ n.val) && decide (n.val ≤ 122)) || (decide (65 ≤ n.val) && decide (n.val ≤ 90))) || (decide (48 ≤ n.val) && decide (n.val ≤ 57))) || decide (n.val = 33)) || decide (n.val = 35)) || decide (n.val = 37)) || decide (n.val = 43)) || decide (n.val = 44)) || decide (n.val = 45)) || decide (n.val = 46)) || decide (n.val = 61)) || decide (n.val = 64)) || decide (n.val = 95)) || decide (n.val = 126)) := by decide +kernel
  have := h ⟨c.toNat, c.toNat_lt⟩
  simpa using this
theorem rletter_M {c : UInt8} {K : Bool → Prop} (h : K (letB c)) : M_smithyref1_letter (c.toNat : Int) K := by
  unfold M_smithyref1_letter
  rw [letNat] at h
  have d : ∀ a b : Nat, decide ((a : Int) ≤ (b : Int)) = decide (a ≤ b) := fun a b => by rw [decide_eq_decide]; omega
  have e : ∀ a b : Nat, decide ((a : Int) = (b : Int)) = decide (a = b) := fun a b => by rw [decide_eq_decide]; omega
  have d1 : decide ((97 : Int) ≤ (c.toNat : Int)) = decide (97 ≤ c.toNat) := d 97 c.toNat
  have d2 : decide ((c.toNat : Int) ≤ (122 : Int)) = decide (c.toNat ≤ 122) := d c.toNat 122
  have d3 : decide ((65 : Int) ≤ (c.toNat : Int)) = decide (65 ≤ c.toNat) := d 65 c.toNat
  have d4 : decide ((c.toNat : Int) ≤ (90 : Int)) = decide (c.toNat ≤ 90) := d c.toNat 90
  have d5 : decide ((48 : Int) ≤ (c.toNat : Int)) = decide (48 ≤ c.toNat) := d 48 c.toNat
  have d6 : decide ((c.toNat : Int) ≤ (57 : Int)) = decide (c.toNat ≤ 57) := d c.toNat 57
  have e1 : decide ((c.toNat : Int) = (33 : Int)) = decide (c.toNat = 33) := e c.toNat 33
  have e2 : decide ((c.toNat : Int) = (35 : Int)) = decide (c.toNat = 35) := e c.toNat 35
  have e3 : decide ((c.toNat : Int) = (37 : Int)) = decide (c.toNat = 37) := e c.toNat 37
  have e4 : decide ((c.toNat : Int) = (43 : Int)) = decide (c.toNat = 43) := e c.toNat 43
  have e5 : decide ((c.toNat : Int) = (44 : Int)) = decide (c.toNat = 44) := e c.toNat 44
  have e6 : decide ((c.toNat : Int) = (45 : Int)) = decide (c.toNat = 45) := e c.toNat 45
  have e7 : decide ((c.toNat : Int) = (46 : Int)) = decide (c.toNat = 46) := e c.toNat 46
  have e8 : decide ((c.toNat : Int) = (61 : Int)) = decide (c.toNat = 61) := e c.toNat 61
  have e9 : decide ((c.toNat : Int) = (64 : Int)) = decide (c.toNat = 64) := e c.toNat 64
  have e10 : decide ((c.toNat : Int) = (95 : Int)) = decide (c.toNat = 95) := e c.toNat 95
  have e11 : decide ((c.toNat : Int) = (126 : Int)) = decide (c.toNat = 126) := e c.toNat 126
  rw [d1, d2, d3, d4, d5, d6, e1, e2, e3, e4, e5, e6, e7, e8, e9, e10, e11]
  exact h
theorem rpart_M {s : List UInt8} {K : Bool → Prop} (hs : s.length ≤ 4000000000) (h : K (fairB s)) : M_smithyref1_part s false K := by
  unfold M_smithyref1_part
  refine ⟨fun i => ∃ k : Nat, i = k ∧ k ≤ s.length ∧ (s.take k).all letB = true, fun i => (s.length - i.toNat), ⟨0, rfl, by omega, by simp⟩, ?_⟩
  rintro _ ⟨k, rfl, hk, hall⟩
  refine ⟨fun hlt => ⟨by omega, rletter_M ?_⟩, fun hge => ?_⟩
  · have hk' : k < s.length := by omega
    rw [Int.toNat_natCast]
    cases hl : letB (s.getD k 0) with
    | false =>
      refine ⟨fun _ h => (by cases h), fun _ => ?_, fun h1 => by simp at h1⟩
      have : s.all letB = false := by
        rw [List.all_eq_false]
        exact ⟨s.getD k 0, getD_mem hk', by rw [hl]; simp⟩
      unfold fairB at h
      rw [this] at h
      exact h
    | true => exact ⟨fun h1 => by simp at h1, fun h1 => by simp at h1, fun _ => ⟨by simp only [In]; omega, ⟨k + 1, by omega, by omega, take_all_succ hall hk' hl⟩, by dsimp only; omega⟩⟩
  · obtain rfl : k = s.length := by omega
    rw [List.take_length] at hall
    unfold fairB dotsB at h
    rw [hall, Bool.true_and, Bool.not_or, Bool.not_or] at h
    exact h
theorem rparts_M {p : List UInt8} {K : List (List UInt8) → Prop} (hp : p.length ≤ 4000000000) (h : K (cuts p)) : M_smithyref1_Parts p K := by
  unfold M_smithyref1_Parts
  have hn := cuts_length p
  refine ⟨fun out f i => ∃ (a k : Nat), f = a ∧ i = k ∧ ((a ≤ k ∧ k ≤ p.length ∧ out ++ cuts (p.drop a) = cuts p ∧ ∀ j, a ≤ j → j < k → p.getD j 0 ≠ 47) ∨ (k = p.length + 1 ∧ out = cuts p)), fun _ _ i => p.length + 1 - i.toNat, ⟨0, 0, rfl, rfl, .inl ⟨by omega, by omega, by simp, fun j _ h => by omega⟩⟩, ?_⟩
  rintro out _ _ ⟨a, k, rfl, rfl, hI⟩
  refine ⟨fun hlt => ?_, fun hge => ?_⟩
  · rcases hI with ⟨hak, hk, hc, hno⟩ | ⟨hk, _⟩
    · have ho : out.length ≤ (cuts p).length := by rw [← hc, List.length_append]; omega
      have hpiece : cuts ((p.drop a).take (k - a)) = [(p.drop a).take (k - a)] := cuts_none fun c hcm => by
        obtain ⟨j, hj, rfl⟩ := List.getElem_of_mem hcm
        rw [List.length_take, List.length_drop] at hj
        have := hno (a + j) (by omega) (by omega)
        rw [List.getElem_take, List.getElem_drop]
        simpa [List.getD, show a + j < p.length by omega] using this
      refine ⟨fun out' f' => ∃ a' : Nat, f' = a' ∧ ((a' ≤ k + 1 ∧ k + 1 ≤ p.length ∧ out' ++ cuts (p.drop a') = cuts p ∧ ∀ j, a' ≤ j → j < k + 1 → p.getD j 0 ≠ 47) ∨ (k = p.length ∧ out' = cuts p)), ⟨fun h1 => ?_, fun h1 => ?_, fun h1 => ?_⟩, ?_⟩
      · have := of_decide_eq_false h1; omega
      · rw [Int.toNat_natCast] at h1
        simp only [Int.toNat_natCast]
        refine ⟨by omega, by simp only [List.length_cons, List.length_nil]; omega, by simp only [In]; omega, k + 1, by omega, ?_⟩
        by_cases e : k = p.length
        · refine .inr ⟨e, ?_⟩
          rw [← hc]
          have : (p.drop a).take (k - a) = p.drop a := List.take_of_length_le (by rw [List.length_drop]; omega)
          rw [this] at hpiece ⊢
          rw [hpiece]
        · have hk' : k < p.length := by omega
          have h47 : p.getD k 0 = 47 := by
            rw [decide_eq_false (by omega : ¬ (k : Int) = (p.length : Int)), Bool.false_or] at h1
            exact UInt8.toNat_inj.mp (show (p.getD k 0).toNat = 47 by have := of_decide_eq_true h1; omega)
          refine .inl ⟨by omega, by omega, ?_, fun j h2 h3 => by omega⟩
          rw [← hc, List.append_assoc]
          congr 1
          have h2 : p[k] = 47 := by simpa [List.getD, hk'] using h47
          have : p.drop a = (p.drop a).take (k - a) ++ 47 :: p.drop (k + 1) := by
            conv => lhs; rw [← List.take_append_drop (k - a) (p.drop a)]
            congr 1
            rw [List.drop_drop, show a + (k - a) = k by omega, List.drop_eq_getElem_cons hk', h2]
          conv => rhs; rw [this]
          rw [cuts_append, hpiece]
      · rw [Int.toNat_natCast, Bool.or_eq_false_iff] at h1
        have h2 := of_decide_eq_false h1.1
        have h3 := of_decide_eq_false h1.2
        refine ⟨a, rfl, .inl ⟨by omega, by omega, hc, fun j h4 h5 => ?_⟩⟩
        by_cases e : j = k
        · rw [e]; exact fun h6 => h3 (by rw [h6]; rfl)
        · exact hno j h4 (by omega)
      · rintro out' _ ⟨a', rfl, hI'⟩
        refine ⟨by simp only [In]; omega, ⟨a', k + 1, rfl, by omega, ?_⟩, by dsimp only; omega⟩
        rcases hI' with h1 | ⟨h1, h2⟩
        · exact .inl h1
        · exact .inr ⟨by omega, h2⟩
    · omega
  · rcases hI with ⟨_, hk, _⟩ | ⟨_, rfl⟩
    · omega
    · exact h
theorem glue_snoc {l : List (List UInt8)} {x : List UInt8} (h : l ≠ []) : glue (l ++ [x]) = glue l ++ 47 :: x := by
  induction l with
  | nil => exact absurd rfl h
  | cons y l ih =>
    cases l with
    | nil => simp [glue]
    | cons z l =>
      have := ih (by simp)
      simp only [List.cons_append] at this ⊢
      simp only [glue]
      rw [this]
      simp
theorem rglue_M {l : List (List UInt8)} {K : List UInt8 → Prop} (hw : wt l ≤ 4000000000) (h : K (glue l)) : M_smithyref1_glue l K := by
  intro _
  have hl := length_wt l
  refine ⟨fun s i => ∃ k : Nat, i = k ∧ k ≤ l.length ∧ s = glue (l.take k), fun _ i => l.length - i.toNat, ⟨0, rfl, by omega, by simp [glue]⟩, ?_⟩
  rintro _ _ ⟨k, rfl, hk, rfl⟩
  have hg := glue_length (l.take k)
  have ht := wt_take l k
  refine ⟨fun hlt => ⟨fun s => s = if k = 0 then [] else glue (l.take k) ++ [47], ⟨fun h1 => ⟨by simp only [List.length_cons, List.length_nil]; omega, ?_⟩, fun h1 => ?_⟩, ?_⟩, fun hge => ?_⟩
  · dsimp only
    rw [if_neg (by omega)]
  · dsimp only
    rw [if_pos (by omega)]
    obtain rfl : k = 0 := by omega
    simp [glue]
  · rintro _ rfl
    have hk' : k < l.length := by omega
    rw [Int.toNat_natCast]
    have hx : (l.getD k []).length ≤ wt l := by
      have h1 : wt (l.drop k) ≤ wt l := by
        conv => rhs; rw [← List.take_append_drop k l]
        rw [wt_append]; omega
      rw [List.drop_eq_getElem_cons hk'] at h1
      simp only [wt] at h1
      have : l.getD k [] = l[k] := by simp [List.getD, hk']
      rw [this]; omega
    have hs : l.take (k + 1) = l.take k ++ [l.getD k []] := by
      rw [List.take_succ_eq_append_getElem hk']
      simp [List.getD, hk']
    refine ⟨by omega, ?_, by simp only [In]; omega, ⟨k + 1, by omega, by omega, ?_⟩, by dsimp only; omega⟩
    · split
      · simp only [List.length_nil]; omega
      · rw [List.length_append]; simp only [List.length_cons, List.length_nil]; omega
    · rw [hs]
      split
      · rename_i e
        subst e
        simp [glue]
      · rename_i e
        rw [glue_snoc (fun h1 => by have := congrArg List.length h1; rw [List.length_take, List.length_nil] at this; omega)]
        simp
  · obtain rfl : k = l.length := by omega
    rw [List.take_length]
    exact h
def KR (K : List UInt8 → Bool → Prop) : Option (List UInt8) → Prop
  | none => K [] false
  | some o => K o true
theorem rclean_M {p : List UInt8} {K : List UInt8 → Bool → Prop} (hp : p.length ≤ 4000000000 - 1) (h : KR K (cleanP p)) : M_smithyref1_Clean p K := by
  unfold M_smithyref1_Clean
  refine rparts_M (by omega) ?_
  have hw := wt_cuts p
  have hn := length_wt (cuts p)
  refine ⟨fun l i => ∃ k : Nat, i = k ∧ k ≤ (cuts p).length ∧ wt l + wt ((cuts p).drop k) ≤ p.length + 1 ∧ cl l ((cuts p).drop k) = cl [] (cuts p), fun l i => (cuts p).length - i.toNat, ⟨0, rfl, by omega, by simp [wt, hw], by simp⟩, ?_⟩
  rintro l _ ⟨k, rfl, hk, hb, hc⟩
  have hl := length_wt l
  refine ⟨fun hlt => ?_, fun hge => ?_⟩
  · have hk' : k < (cuts p).length := by omega
    have hd : (cuts p).drop k = (cuts p).getD k [] :: (cuts p).drop (k + 1) := by
      rw [List.drop_eq_getElem_cons hk']
      simp [List.getD, hk']
    have hm : (cuts p).getD k [] ∈ cuts p := getD_mem hk'
    have hx := cuts_part hm
    rw [hd] at hb hc
    rw [Int.toNat_natCast]
    generalize (cuts p).getD k [] = x at hb hc hx hm
    simp only [wt, cl] at hb hc
    refine ⟨fun l' => wt l' + wt ((cuts p).drop (k + 1)) ≤ p.length + 1 ∧ cl l' ((cuts p).drop (k + 1)) = cl [] (cuts p), ⟨by omega, fun _ => by omega, fun h1 => ?_, fun h1 => ⟨by omega, fun h2 => ⟨fun h3 => ?_, fun h3 => ?_⟩, fun h2 => ⟨by omega, ?_⟩⟩⟩, ?_⟩
    · rw [if_pos h1] at hc
      exact ⟨by omega, hc⟩
    · rw [if_neg (by rw [h1]; simp), if_neg (by rw [decide_eq_false (by omega : ¬ 0 < l.length)]; simp), if_neg (by rw [h2]; decide)] at hc
      unfold cleanP at h
      rw [← hc] at h
      exact h
    · rw [if_neg (by rw [h1]; simp), if_pos (by rw [decide_eq_true h2, decide_eq_true (by omega : 0 < l.length)]; rfl)] at hc
      have ht := wt_take l (l.length - 1)
      rw [show ((l.length : Int) - 1).toNat = l.length - 1 by omega]
      exact ⟨by simp only [In]; omega, by omega, by omega, hc⟩
    · rw [if_neg (by rw [h1]; simp), if_neg (by rw [decide_eq_false h2]; simp)] at hc
      refine rpart_M (by omega) ⟨fun h3 => ?_, fun h3 => ?_⟩
      · have h4 : fairB x = false := by simpa using h3
        rw [if_neg (by rw [h4]; simp)] at hc
        unfold cleanP at h
        rw [← hc] at h
        exact h
      · have h4 : fairB x = true := by simpa using h3
        rw [if_pos h4] at hc
        refine ⟨by omega, by simp only [List.length_cons, List.length_nil]; omega, ?_, hc⟩
        rw [wt_append]
        simp only [wt]
        omega
    · intro l' h'
      exact ⟨by simp only [In]; omega, ⟨k + 1, by omega, by omega, h'.1, h'.2⟩, by dsimp only; omega⟩
  · obtain rfl : k = (cuts p).length := by omega
    rw [List.drop_length] at hb hc
    simp only [cl, wt] at hb hc
    refine rglue_M (by omega) ?_
    unfold cleanP at h
    rw [← hc] at h
    dsimp only at h
    refine ⟨fun h1 => ?_, fun h1 => ?_⟩
    · rw [if_neg (by omega)] at h
      exact h
    · rw [if_pos (by omega)] at h
      exact h
def oS : Option (List UInt8) → List UInt8
  | none => []
  | some o => o
theorem kr {K : List UInt8 → Bool → Prop} {x : Option (List UInt8)} (h : K (oS x) x.isSome) : KR K x := by cases x <;> exact h
theorem valid_is (p : List UInt8) : ((cleanP p).isSome && decide (oS (cleanP p) = p) && !decide (p = [])) = validB p := by
  cases hv : validB p with
  | true =>
    have hl : p.length ≤ 200 := by
      unfold validB at hv
      rw [Bool.and_eq_true] at hv
      exact of_decide_eq_true hv.1
    rw [clean_fairs hl (valid_parts hv)]
    simp [oS, (valid_head hv).1]
  | false =>
    cases hc : cleanP p with
    | none => rfl
    | some o =>
      by_cases e : o = p
      · subst e
        have ho := cln_of hc
        rcases ho.2 with rfl | ⟨_, h4⟩
        · simp
        · rw [valid_of ho.1 h4] at hv; cases hv
      · simp [oS, e]
end Go.Proofs.YtlonpmajnglmoaaGreatDoor


 /- Texts in order, each once: plain, no program. -/
namespace Go.Proofs.YtlonpmajnglmoaaGreatDoor
open Go
abbrev Bs := List UInt8
theorem bs_lt_or (a b : Bs) : a < b ∨ a = b ∨ b < a := by
  by_cases h : a < b
  · exact .inl h
  · by_cases k : b < a
    · exact .inr (.inr k)
    · exact .inr (.inl (List.le_antisymm (List.not_lt.1 k) (List.not_lt.1 h)))
theorem bs_lt_of {a b : Bs} (h : a ≤ b) (hne : a ≠ b) : a < b := by
  rcases bs_lt_or a b with h1 | h1 | h1
  · exact h1
  · exact absurd h1 hne
  · exact absurd h1 (List.not_lt.2 h)
theorem bs_le_lt {a b c : Bs} (h : a ≤ b) (k : b < c) : a < c := by
  by_cases e : a = b
  · rw [e]; exact k
  · exact List.lt_trans (bs_lt_of h e) k
def Strict (l : List Bs) : Prop := l.Pairwise (· < ·)
theorem Strict.nodup {l : List Bs} (h : Strict l) : l.Nodup := List.Pairwise.imp (fun {a b} (hab : a < b) (e : a = b) => List.lt_irrefl b (e ▸ hab)) h
theorem strict_uniq : ∀ {a b : List Bs}, Strict a → Strict b → (∀ x, x ∈ a ↔ x ∈ b) → a = b
  | [], [], _, _, _ => rfl
  | [], y :: b, _, _, h => by have := (h y).2 (by simp); simp at this
  | x :: a, [], _, _, h => by have := (h x).1 (by simp); simp at this
  | x :: a, y :: b, ha, hb, h => by
    have ha' := List.pairwise_cons.1 ha
    have hb' := List.pairwise_cons.1 hb
    have hxy : x = y := by
      rcases List.mem_cons.1 ((h x).1 (by simp)) with e | hx
      · exact e
      · rcases List.mem_cons.1 ((h y).2 (by simp)) with e | hy
        · exact e.symm
        · exact absurd (ha'.1 y hy) (List.lt_asymm (hb'.1 x hx))
    subst hxy
    rw [strict_uniq ha'.2 hb'.2 (fun z => ?_)]
    constructor
    · intro hz
      rcases List.mem_cons.1 ((h z).1 (by simp [hz])) with e | hz'
      · subst e; exact absurd (ha'.1 z hz) (List.lt_irrefl z)
      · exact hz'
    · intro hz
      rcases List.mem_cons.1 ((h z).2 (by simp [hz])) with e | hz'
      · subst e; exact absurd (hb'.1 z hz) (List.lt_irrefl z)
      · exact hz'
def sortB (l : List Bs) : List Bs := l.mergeSort fun x y => decide (x ≤ y)
theorem sortB_le (l : List Bs) : (sortB l).Pairwise (· ≤ ·) := by
  have h := List.pairwise_mergeSort (le := fun (x y : Bs) => decide (x ≤ y)) (fun a b c h k => by
    simp only [decide_eq_true_eq] at h k ⊢
    exact List.le_trans h k) (fun a b => by
    simp only [Bool.or_eq_true, decide_eq_true_eq]
    exact List.le_total a b) l
  exact h.imp fun h => by simpa using h
theorem sortB_mem (l : List Bs) (x : Bs) : x ∈ sortB l ↔ x ∈ l := (List.mergeSort_perm l _).mem_iff
theorem compactUpTo_strict {ys : List Bs} (h : ys.Pairwise (· ≤ ·)) : ∀ m, m ≤ ys.length → Strict (Lib.compactUpTo ys.toArray m) ∧ ∀ x, x ∈ Lib.compactUpTo ys.toArray m ↔ x ∈ ys.take m
  | 0, _ => ⟨List.Pairwise.nil, fun x => by simp [Lib.compactUpTo]⟩
  | m + 1, hm => by
    obtain ⟨h1, h2⟩ := compactUpTo_strict h m (by omega)
    have hget : ∀ i, i < ys.length → ys.toArray[i]! = ys.getD i [] := fun i hi => by simp [List.getD, hi]
    have hlast : ys.take (m + 1) = ys.take m ++ [ys.getD m []] := by rw [List.take_succ_eq_append_getElem (by omega)]; simp [List.getD, show m < ys.length by omega]
    rw [Lib.compactUpTo_succ, hlast, hget m (by omega)]
    cases hk : Lib.keeps ys.toArray m with
    | true =>
      simp only [if_true]
      refine ⟨List.pairwise_append.2 ⟨h1, List.pairwise_singleton _ _, fun x hx y hy => ?_⟩, fun x => by rw [List.mem_append, List.mem_append, h2]⟩
      simp only [List.mem_singleton] at hy
      subst hy
      have hx' := (h2 x).1 hx
      obtain ⟨i, hi, he⟩ := List.getElem_of_mem hx'
      simp only [List.length_take] at hi
      simp only [List.getElem_take] at he
      have hpw := List.pairwise_iff_getElem.1 h
      have h0 : m ≠ 0 := by omega
      simp only [Lib.keeps, h0, false_or, decide_eq_true_eq, ne_eq] at hk
      rw [hget m (by omega), hget (m - 1) (by omega)] at hk
      have hle : x ≤ ys.getD (m - 1) [] := by
        have e1 : ys.getD (m - 1) [] = ys[m - 1]'(by omega) := by simp [List.getD, show m - 1 < ys.length by omega]
        rw [e1, ← he]
        by_cases e : i = m - 1
        · subst e; exact List.le_refl _
        · exact hpw i (m - 1) (by omega) (by omega) (by omega)
      refine bs_le_lt hle (bs_lt_of ?_ (fun e => hk e.symm))
      have e1 : ys.getD (m - 1) [] = ys[m - 1]'(by omega) := by simp [List.getD, show m - 1 < ys.length by omega]
      have e2 : ys.getD m [] = ys[m]'(by omega) := by simp [List.getD, show m < ys.length by omega]
      rw [e1, e2]
      exact hpw (m - 1) m (by omega) (by omega) (by omega)
    | false =>
      simp only [Bool.false_eq_true, if_false, List.append_nil]
      refine ⟨h1, fun x => ?_⟩
      rw [h2, List.mem_append]
      refine ⟨.inl, fun hx => hx.elim id fun hx => ?_⟩
      simp only [List.mem_singleton] at hx
      subst hx
      simp only [Lib.keeps, decide_eq_false_iff_not, not_or, ne_eq, Classical.not_not] at hk
      have h0 : m ≠ 0 := hk.1
      have he := hk.2
      rw [hget m (by omega), hget (m - 1) (by omega)] at he
      rw [he]
      have : ys.getD (m - 1) [] = (ys.take m)[m - 1]'(by simp; omega) := by simp [List.getD, show m - 1 < ys.length by omega]
      rw [this]
      exact List.getElem_mem _
/-- sorted, each once -/
def sortU (l : List Bs) : List Bs := Lib.compact (sortB l)
theorem sortU_strict (l : List Bs) : Strict (sortU l) := (compactUpTo_strict (sortB_le l) _ (Nat.le_refl _)).1
theorem sortU_mem (l : List Bs) (x : Bs) : x ∈ sortU l ↔ x ∈ l := by
  have := (compactUpTo_strict (sortB_le l) _ (Nat.le_refl _)).2 x
  rw [List.take_length, sortB_mem] at this
  exact this
theorem sortU_of {a l : List Bs} (h : Strict a) (k : ∀ x, x ∈ a ↔ x ∈ l) : a = sortU l := strict_uniq h (sortU_strict l) fun x => (k x).trans (sortU_mem l x).symm
theorem compactUpTo_len {α : Type} [Inhabited α] [DecidableEq α] (d : Array α) (m : Nat) : (Lib.compactUpTo d m).length ≤ m := by
  unfold Lib.compactUpTo
  rw [List.length_map]
  exact Nat.le_trans (List.length_filter_le _ _) (by simp)
theorem sortU_length (l : List Bs) : (sortU l).length ≤ l.length := by
  have h := compactUpTo_len (sortB l).toArray (sortB l).length
  have h2 : (sortB l).length = l.length := List.length_mergeSort l
  unfold sortU Lib.compact
  omega
/-- laid in where it belongs -/
theorem strict_insert {out : List Bs} {x : Bs} {k : Nat} (h : Strict out) (hk : k ≤ out.length) (h1 : ∀ j, j < k → out.getD j [] < x) (h2 : k < out.length → x < out.getD k []) : Strict (out.take k ++ ([x] ++ out.drop k)) := by
  have hp := List.pairwise_iff_getElem.1 h
  refine List.pairwise_append.2 ⟨List.Pairwise.take h, List.pairwise_append.2 ⟨List.pairwise_singleton _ _, List.Pairwise.drop h, fun a ha b hb => ?_⟩, fun a ha b hb => ?_⟩
  · simp only [List.mem_singleton] at ha
    subst ha
    obtain ⟨i, hi, rfl⟩ := List.getElem_of_mem hb
    simp only [List.length_drop] at hi
    rw [List.getElem_drop]
    have hk' : k < out.length := by omega
    have e : out.getD k [] = out[k] := by simp [List.getD, hk']
    have h3 := h2 hk'
    rw [e] at h3
    by_cases h0 : i = 0
    · subst h0; exact h3
    · exact List.lt_trans h3 (hp k (k + i) hk' (by omega) (by omega))
  · obtain ⟨i, hi, rfl⟩ := List.getElem_of_mem ha
    simp only [List.length_take] at hi
    rw [List.getElem_take]
    have h3 : out[i]'(by omega) < x := by
      have := h1 i (by omega)
      rwa [show out.getD i [] = out[i]'(by omega) by simp [List.getD, show i < out.length by omega]] at this
    rcases List.mem_append.1 hb with hb | hb
    · simp only [List.mem_singleton] at hb
      subst hb; exact h3
    · obtain ⟨j, hj, rfl⟩ := List.getElem_of_mem hb
      simp only [List.length_drop] at hj
      rw [List.getElem_drop]
      exact hp i (k + j) (by omega) (by omega) (by omega)
end Go.Proofs.YtlonpmajnglmoaaGreatDoor


 /- Globs: the plain side. -/
namespace Go.Proofs.YtlonpmajnglmoaaGreatDoor
open Go Go.RowKit
theorem sameTexts_M {a b : List Bs} {K : Bool → Prop} (ha : a.length ≤ 1000000000) (h : K (decide (a = b))) : M_smithyref_SameTexts a b K := by
  intro _ _
  refine ⟨fun hne => ?_, fun he => ?_⟩
  · rw [decide_eq_false (fun e => hne (by rw [e]))] at h
    exact h
  · refine ⟨fun i => 0 ≤ i ∧ i ≤ a.length ∧ ∀ j, j < i.toNat → a.getD j [] = b.getD j [], fun i => a.length - i.toNat, ⟨by omega, by omega, by intro j hj; simp at hj⟩, fun i ⟨h0, h1, h2⟩ => ⟨fun hlt => ⟨by omega, by omega, fun hne => ?_, fun hee => ⟨by simp only [In]; omega, ⟨by omega, by omega, fun j hj => ?_⟩, by (try dsimp only); omega⟩⟩, fun hge => ?_⟩⟩
    · rw [decide_eq_false (fun e => hne (by rw [e]))] at h
      exact h
    · by_cases e : j = i.toNat
      · rw [e]; exact hee
      · exact h2 j (by omega)
    · have e : a = b := List.ext_getElem (by omega) fun j h3 h4 => by
        have := h2 j (by omega)
        simpa [List.getD, h3, h4] using this
      rw [decide_eq_true e] at h
      exact h
theorem bytesLess_lt (a b : Bs) : Op.bytesLess a b = decide (a < b) := bytesLess_eq a b
theorem sortedTexts_M {l : List Bs} {K : List Bs → Prop} (hl : l.length ≤ 1000000) (h : K (sortU l)) : M_smithyref_SortedTexts l K := by
  intro _
  refine ⟨fun out i => 0 ≤ i ∧ i ≤ l.length ∧ Strict out ∧ (∀ x, x ∈ out ↔ x ∈ l.take i.toNat) ∧ out.length ≤ i.toNat, fun _ i => l.length - i.toNat, ⟨by omega, by omega, List.Pairwise.nil, by simp, by simp⟩, fun out i ⟨a0, a1, a2, a3, a4⟩ => ⟨fun hlt => ?_, fun hge => ?_⟩⟩
  · generalize hx : l.getD i.toNat [] = x
    have htk : ∀ y, y ∈ l.take (i + 1).toNat ↔ y ∈ l.take i.toNat ∨ y = x := fun y => by
      rw [show (i + 1).toNat = i.toNat + 1 by omega, List.take_succ_eq_append_getElem (by omega), List.mem_append, List.mem_singleton, ← hx]
      simp [List.getD, show i.toNat < l.length by omega]
    refine ⟨fun o => Strict o ∧ (∀ y, y ∈ o ↔ y ∈ l.take (i + 1).toNat) ∧ o.length ≤ i.toNat + 1, ?_, fun o ⟨h1, h2, h3⟩ => ⟨by simp only [In]; omega, ⟨by omega, by omega, h1, h2, by omega⟩, by (try dsimp only); omega⟩⟩
    refine ⟨fun k => 0 ≤ k ∧ k ≤ out.length ∧ ∀ j, j < k.toNat → out.getD j [] < x, fun k => out.length - k.toNat, ⟨by omega, by omega, by intro j hj; simp at hj⟩, fun k ⟨b0, b1, b2⟩ => ⟨fun hd => ?_, fun hd => ?_, fun hc => ?_, fun hc => ⟨fun hd => ?_, fun hd => ?_, fun he => ?_, fun he => ?_⟩⟩⟩
    · simp only [decide_eq_true_eq] at hd; omega
    · omega
    · rw [Bool.and_eq_true, bytesLess_lt, decide_eq_true_eq, decide_eq_true_eq] at hc
      refine ⟨by simp only [In]; omega, ⟨by omega, by omega, fun j hj => ?_⟩, by (try dsimp only); omega⟩
      by_cases e : j = k.toNat
      · rw [e]; exact hc.2
      · exact b2 j (by omega)
    · simp only [decide_eq_true_eq] at hd; omega
    · omega
    · rw [Bool.and_eq_true, decide_eq_true_eq, decide_eq_true_eq] at he
      refine ⟨a2, fun y => ?_, by omega⟩
      rw [htk, a3]
      refine ⟨.inl, fun h => h.elim id fun h => ?_⟩
      rw [h, ← a3, ← he.2]
      exact getD_mem (by omega)
    · have hlen : (out.take k.toNat).length = k.toNat := by simp; omega
      refine ⟨by simp only [In]; omega, by omega, by omega, ?_, by omega, ?_, by omega, ?_, ?_⟩
      · simp only [List.length_nil, hlen]; omega
      · simp only [List.nil_append, List.length_cons, List.length_nil, hlen]; omega
      · simp only [List.nil_append, List.length_append, List.length_cons, List.length_nil, List.length_drop, hlen]; omega
      · rw [List.nil_append, List.append_assoc]
        refine ⟨strict_insert a2 (by omega) b2 fun hk => ?_, fun y => ?_, ?_⟩
        · have hk' : k < out.length := by omega
          rw [bytesLess_lt, decide_eq_true hk', Bool.true_and, decide_eq_false_iff_not] at hc
          rw [decide_eq_true hk', Bool.true_and, decide_eq_false_iff_not] at he
          rcases bs_lt_or (out.getD k.toNat []) x with h1 | h1 | h1
          · exact absurd h1 hc
          · exact absurd h1 he
          · exact h1
        · rw [htk, ← a3, List.mem_append, List.mem_append, List.mem_singleton]
          conv => rhs; lhs; rw [← List.take_append_drop k.toNat out, List.mem_append]
          constructor
          · rintro (h | h | h)
            · exact .inl (.inl h)
            · exact .inr h
            · exact .inl (.inr h)
          · rintro ((h | h) | h)
            · exact .inl h
            · exact .inr (.inr h)
            · exact .inr (.inl h)
        · simp only [List.length_append, List.length_cons, List.length_nil, List.length_drop, hlen]; omega
  · have e : i.toNat = l.length := by omega
    rw [e, List.take_length] at a3
    rw [sortU_of a2 a3]
    exact h
end Go.Proofs.YtlonpmajnglmoaaGreatDoor


 /- What is in order, each once, by any order that parts what is not one: plain, no program. -/
namespace Go.Proofs.YtlonpmajnglmoaaGreatDoor
open Go
/-- an order that parts whatever two things that are not one -/
structure LtT {α : Type} (lt : α → α → Bool) : Prop where
  irrefl : ∀ x, lt x x = false
  trans : ∀ x y z, lt x y = true → lt y z = true → lt x z = true
  tot : ∀ x y, lt x y = false → lt y x = false → x = y
section
variable {α : Type} {lt : α → α → Bool}
theorem LtT.asymm (T : LtT lt) {x y : α} (h : lt x y = true) : lt y x = false := by
  cases k : lt y x with
  | false => rfl
  | true => have := T.trans x y x h k; rw [T.irrefl] at this; cases this
theorem LtT.ntrans (T : LtT lt) (x y z : α) (h : lt x y = false) (k : lt y z = false) : lt x z = false := by
  cases e : lt x z with
  | false => rfl
  | true =>
    cases f : lt z y with
    | true => rw [T.trans x z y e f] at h; cases h
    | false => have := T.tot y z k f; subst this; rw [e] at h; cases h
theorem LtT.le_lt (T : LtT lt) {x y z : α} (h : lt y x = false) (k : lt y z = true) : lt x z = true := by
  cases e : lt x y with
  | true => exact T.trans x y z e k
  | false => have := T.tot x y e h; subst this; exact k
def StrictG (lt : α → α → Bool) (l : List α) : Prop := l.Pairwise fun a b => lt a b = true
theorem StrictG.nodup (T : LtT lt) {l : List α} (h : StrictG lt l) : l.Nodup := List.Pairwise.imp (fun {a b} (hab : lt a b = true) (e : a = b) => by rw [e, T.irrefl] at hab; cases hab) h
theorem strictG_uniq (T : LtT lt) : ∀ {a b : List α}, StrictG lt a → StrictG lt b → (∀ x, x ∈ a ↔ x ∈ b) → a = b
  | [], [], _, _, _ => rfl
  | [], y :: b, _, _, h => by have := (h y).2 (by simp); simp at this
  | x :: a, [], _, _, h => by have := (h x).1 (by simp); simp at this
  | x :: a, y :: b, ha, hb, h => by
    have ha' := List.pairwise_cons.1 ha
    have hb' := List.pairwise_cons.1 hb
    have hxy : x = y := by
      rcases List.mem_cons.1 ((h x).1 (by simp)) with e | hx
      · exact e
      · rcases List.mem_cons.1 ((h y).2 (by simp)) with e | hy
        · exact e.symm
        · have h1 := T.asymm (hb'.1 x hx); rw [ha'.1 y hy] at h1; cases h1
    subst hxy
    rw [strictG_uniq T ha'.2 hb'.2 (fun z => ?_)]
    constructor
    · intro hz
      rcases List.mem_cons.1 ((h z).1 (by simp [hz])) with e | hz'
      · subst e; have := ha'.1 z hz; rw [T.irrefl] at this; cases this
      · exact hz'
    · intro hz
      rcases List.mem_cons.1 ((h z).2 (by simp [hz])) with e | hz'
      · subst e; have := hb'.1 z hz; rw [T.irrefl] at this; cases this
      · exact hz'
def sortG (lt : α → α → Bool) (l : List α) : List α := l.mergeSort fun x y => !(lt y x)
theorem sortG_le (T : LtT lt) (l : List α) : (sortG lt l).Pairwise fun a b => lt b a = false := by
  have h := List.pairwise_mergeSort (le := fun (x y : α) => !(lt y x)) (fun a b c h k => by
    simp only [Bool.not_eq_true'] at h k ⊢
    exact T.ntrans c b a k h) (fun a b => by
    cases e : lt b a with
    | false => simp
    | true => simp [T.asymm e]) l
  exact h.imp fun h => by simpa using h
theorem sortG_perm (l : List α) : (sortG lt l).Perm l := List.mergeSort_perm l _
theorem sortG_mem (l : List α) (x : α) : x ∈ sortG lt l ↔ x ∈ l := (sortG_perm l).mem_iff
theorem sortG_length (l : List α) : (sortG lt l).length = l.length := List.length_mergeSort l
theorem compactUpTo_strictG [Inhabited α] [DecidableEq α] (T : LtT lt) {ys : List α} (h : ys.Pairwise fun a b => lt b a = false) : ∀ m, m ≤ ys.length → StrictG lt (Lib.compactUpTo ys.toArray m) ∧ ∀ x, x ∈ Lib.compactUpTo ys.toArray m ↔ x ∈ ys.take m
  | 0, _ => ⟨List.Pairwise.nil, fun x => by simp [Lib.compactUpTo]⟩
  | m + 1, hm => by
    obtain ⟨h1, h2⟩ := compactUpTo_strictG T h m (by omega)
    have hget : ∀ i, (hi : i < ys.length) → ys.toArray[i]! = ys[i] := fun i hi => by simp [hi]
    have hlast : ys.take (m + 1) = ys.take m ++ [ys[m]'(by omega)] := by rw [List.take_succ_eq_append_getElem (by omega)]
    rw [Lib.compactUpTo_succ, hlast, hget m (by omega)]
    have hpw := List.pairwise_iff_getElem.1 h
    cases hk : Lib.keeps ys.toArray m with
    | true =>
      simp only [if_true]
      refine ⟨List.pairwise_append.2 ⟨h1, List.pairwise_singleton _ _, fun x hx y hy => ?_⟩, fun x => by rw [List.mem_append, List.mem_append, h2]⟩
      simp only [List.mem_singleton] at hy
      subst hy
      have hx' := (h2 x).1 hx
      obtain ⟨i, hi, he⟩ := List.getElem_of_mem hx'
      simp only [List.length_take] at hi
      simp only [List.getElem_take] at he
      have h0 : m ≠ 0 := by omega
      simp only [Lib.keeps, h0, false_or, decide_eq_true_eq, ne_eq] at hk
      rw [hget m (by omega), hget (m - 1) (by omega)] at hk
      have hle : lt (ys[m - 1]'(by omega)) x = false := by
        rw [← he]
        by_cases e : i = m - 1
        · subst e; exact T.irrefl _
        · exact hpw i (m - 1) (by omega) (by omega) (by omega)
      have h3 := hpw (m - 1) m (by omega) (by omega) (by omega)
      have h4 : lt (ys[m - 1]'(by omega)) (ys[m]'(by omega)) = true := by
        cases e : lt (ys[m - 1]'(by omega)) (ys[m]'(by omega)) with
        | true => rfl
        | false => exact absurd (T.tot _ _ h3 e) hk
      exact T.le_lt hle h4
    | false =>
      simp only [Bool.false_eq_true, if_false, List.append_nil]
      refine ⟨h1, fun x => ?_⟩
      rw [h2, List.mem_append]
      refine ⟨.inl, fun hx => hx.elim id fun hx => ?_⟩
      simp only [List.mem_singleton] at hx
      subst hx
      simp only [Lib.keeps, decide_eq_false_iff_not, not_or, ne_eq, Classical.not_not] at hk
      have h0 : m ≠ 0 := hk.1
      have he := hk.2
      rw [hget m (by omega), hget (m - 1) (by omega)] at he
      rw [he]
      have : ys[m - 1]'(by omega) = (ys.take m)[m - 1]'(by simp; omega) := by simp
      rw [this]
      exact List.getElem_mem _
/-- sorted, each once -/
def uniqG [Inhabited α] [DecidableEq α] (lt : α → α → Bool) (l : List α) : List α := Lib.compact (sortG lt l)
theorem uniqG_strict [Inhabited α] [DecidableEq α] (T : LtT lt) (l : List α) : StrictG lt (uniqG lt l) := (compactUpTo_strictG T (sortG_le T l) _ (Nat.le_refl _)).1
theorem uniqG_mem [Inhabited α] [DecidableEq α] (T : LtT lt) (l : List α) (x : α) : x ∈ uniqG lt l ↔ x ∈ l := by
  have := (compactUpTo_strictG T (sortG_le T l) _ (Nat.le_refl _)).2 x
  rw [List.take_length, sortG_mem] at this
  exact this
end
end Go.Proofs.YtlonpmajnglmoaaGreatDoor


 /- A graph of actions, plainly. -/
namespace Go.Proofs.YtlonpmajnglmoaaGreatDoor
open Go Go.RowKit
abbrev TL := List (List UInt8)
abbrev GAct := Int × TL × TL × List UInt8
abbrev MK := List (List UInt8 × Int)
def az : GAct := (0, [], [], [])
theorem clone_M {s : TL} {K : TL → Prop} (hs : s.length ≤ 1000000000) (h : K s) : M_slices_Clone_string_string s K := by
  intro _
  exact ⟨fun e => e ▸ h, by simp only [List.length_nil]; omega, by rw [List.nil_append]; exact h⟩
theorem cloneI_M {s : List Int} {K : List Int → Prop} (hs : s.length ≤ 1000000000) (h : K s) : M_slices_Clone_int_int s K := by
  intro _
  exact ⟨fun e => e ▸ h, by simp only [List.length_nil]; omega, by rw [List.nil_append]; exact h⟩
theorem gtexts_M {l : TL} {K : TL → Prop} (hl : l.length ≤ 1000000000) (h : K l) : M_smithyref_Texts l K := by
  intro _
  refine ⟨by omega, fun out i => 0 ≤ i ∧ i ≤ l.length ∧ out = l.take i.toNat, fun _ i => l.length - i.toNat, ⟨by omega, by omega, by simp⟩, fun out i ⟨h0, h1, h2⟩ => ⟨fun hlt => ⟨by omega, ?_, by simp only [In]; omega, ⟨by omega, by omega, ?_⟩, by (try dsimp only); omega⟩, fun hge => ?_⟩⟩
  · subst h2
    simp only [List.length_take, List.length_cons, List.length_nil]
    omega
  · subst h2
    rw [show (i + 1).toNat = i.toNat + 1 by omega, List.take_succ_eq_append_getElem (by omega)]
    simp [List.getD, show i.toNat < l.length by omega]
  · have : i.toNat = l.length := by omega
    rw [h2, this, List.take_length]
    exact h
theorem sameInts_M {a b : List Int} {K : Bool → Prop} (ha : a.length ≤ 1000000000) (h : K (decide (a = b))) : M_smithyref_SameInts a b K := by
  intro _ _
  refine ⟨fun hne => ?_, fun he => ?_⟩
  · have : a ≠ b := fun e => hne (by rw [e])
    rwa [decide_eq_false this] at h
  · refine ⟨fun i => 0 ≤ i ∧ i ≤ a.length ∧ ∀ j, j < i.toNat → a.getD j 0 = b.getD j 0, fun i => a.length - i.toNat, ⟨by omega, by omega, by intro j hj; simp at hj⟩, fun i ⟨h0, h1, h2⟩ => ⟨fun hlt => ⟨by omega, by omega, fun hne => ?_, fun heq => ⟨by simp only [In]; omega, ⟨by omega, by omega, fun j hj => ?_⟩, by (try dsimp only); omega⟩⟩, fun hge => ?_⟩⟩
    · have : a ≠ b := fun e => hne (by rw [e])
      rwa [decide_eq_false this] at h
    · by_cases e : j = i.toNat
      · rw [e]; exact heq
      · exact h2 j (by omega)
    · have e : a = b := List.ext_getElem (by omega) fun j h3 h4 => by
        have := h2 j (by omega)
        simpa [List.getD, h3, h4] using this
      rw [decide_eq_true e] at h
      exact h
theorem copied_M {t : Int} {a i : TL} {o : List UInt8} {K : Int → TL → TL → List UInt8 → Prop} (ha : a.length ≤ 1000000) (hi : i.length ≤ 1000000) (h : K t a i o) : M_graph_copied t a i o K := by
  intro _ _
  exact clone_M (by omega) (clone_M (by omega) h)
/-! ### fits -/
def inval (xs : TL) : Bool := xs.any fun s => !validB s
theorem any_take {α : Type} {p : α → Bool} {xs : List α} {d : α} (h : ∀ j, j < xs.length → p (xs.getD j d) = false) : xs.any p = false := by
  rw [List.any_eq_false]
  intro x hx
  obtain ⟨j, hj, rfl⟩ := List.getElem_of_mem hx
  have := h j hj
  simp only [List.getD, List.getElem?_eq_getElem hj, Option.getD_some] at this
  simp [this]
theorem getD_mem2 {α : Type} {l : List α} {k : Nat} {d : α} (h : k < l.length) : l.getD k d ∈ l := by simp [List.getD, h]
theorem contF_M {xs : TL} {K : Bool → Prop} (hl : xs.length ≤ 1000000) (hx : ∀ s ∈ xs, s.length ≤ 4000000000) (h : K (inval xs)) : M_slices_ContainsFunc_string_string_pgraph_Graph_fits_1 xs K := by
  intro _ _
  refine ⟨fun i => 0 ≤ i ∧ i ≤ xs.length ∧ ∀ j, j < i.toNat → (!validB (xs.getD j [])) = false, fun i => xs.length - i.toNat, ⟨by omega, by omega, by intro j hj; simp at hj⟩, fun i ⟨a0, a1, a2⟩ => ⟨fun hlt => ⟨⟨a0, hlt⟩, valid_M (hx _ (getD_mem2 (by omega))) ⟨fun ht => ?_, fun hf => ⟨by simp only [In]; omega, ⟨by omega, by omega, fun j hj => ?_⟩, by (try dsimp only); omega⟩⟩⟩, fun hge => ?_⟩⟩
  · have : inval xs = true := List.any_eq_true.2 ⟨_, getD_mem2 (by omega), ht⟩
    rw [this] at h
    show K (decide (0 ≤ i))
    rw [decide_eq_true a0]; exact h
  · by_cases e : j = i.toNat
    · rw [e]; exact hf
    · exact a2 j (by omega)
  · have : inval xs = false := any_take (d := []) fun j hj => a2 j (by omega)
    rw [this] at h
    exact h
def fitsP (mk : MK) (a : GAct) : Er :=
  if a.1 < 1 ∨ 5 < a.1 then .e 10 else if validB a.2.2.2 = false ∨ inval a.2.2.1 = true then .e 11 else if (mget mk a.2.2.2).isSome = true then .e 6 else .ok
theorem fits_M {gl : List GAct} {mk : MK} {gb ga : List (List Int)} {a : GAct} {K : Er → Prop} (hi : a.2.2.1.length ≤ 1000000) (hx : ∀ s ∈ a.2.2.1, s.length ≤ 4000000000) (ho : a.2.2.2.length ≤ 4000000000) (h : K (fitsP mk a)) : M_pgraph_Graph_fits gl mk gb ga a.1 a.2.1 a.2.2.1 a.2.2.2 K := by
  intro _ _ _ _ _
  unfold fitsP at h
  refine ⟨fun hb => ?_, fun hb => ?_⟩
  · have : a.1 < 1 ∨ 5 < a.1 := by simpa using hb
    rwa [if_pos this] at h
  · have : ¬ (a.1 < 1 ∨ 5 < a.1) := fun hn => by
      rw [Bool.or_eq_false_iff, decide_eq_false_iff_not, decide_eq_false_iff_not] at hb
      exact hn.elim hb.1 hb.2
    rw [if_neg this] at h
    refine valid_M ho ⟨fun b => b = decide (validB a.2.2.2 = false ∨ inval a.2.2.1 = true), ⟨fun hv => ?_, fun hv => contF_M hi hx ?_⟩, fun q hq => ⟨fun ht => ?_, fun hf => ⟨by unfold maxLen; omega, fun hs => ?_, fun hs => ?_⟩⟩⟩
    · have : validB a.2.2.2 = false := by simpa using hv
      rw [decide_eq_true (.inl this)]
    · have hv' : validB a.2.2.2 = true := by simpa using hv
      cases hin : inval a.2.2.1 <;> simp [hv']
    · rw [hq, decide_eq_true_eq] at ht
      rwa [if_pos ht] at h
    · rw [hq, decide_eq_false_iff_not] at hf
      rwa [if_neg hf, if_pos hs] at h
    · rw [hq, decide_eq_false_iff_not] at hf
      rwa [if_neg hf, if_neg (by rw [hs]; simp)] at h
def manyA (a : GAct) : Bool := decide ((1000 : Int) < (a.2.2.1.length : Int)) || decide ((1000 : Int) < (a.2.1.length : Int))
theorem contA_M {l : List GAct} {K : Bool → Prop} (hl : l.length ≤ 1000000) (h : K (l.any manyA)) : M_slices_ContainsFunc_api_Action_api_Action_graph_New_1 l K := by
  intro _ _
  refine ⟨fun i => 0 ≤ i ∧ i ≤ l.length ∧ ∀ j, j < i.toNat → manyA (l.getD j az) = false, fun i => l.length - i.toNat, ⟨by omega, by omega, by intro j hj; simp at hj⟩, fun i ⟨a0, a1, a2⟩ => ⟨fun hlt => ⟨⟨a0, hlt⟩, fun _ _ => ⟨fun ht => ?_, fun hf => ⟨by simp only [In]; omega, ⟨by omega, by omega, fun j hj => ?_⟩, by (try dsimp only); omega⟩⟩⟩, fun hge => ?_⟩⟩
  · have : l.any manyA = true := List.any_eq_true.2 ⟨_, getD_mem2 (d := az) (by omega), ht⟩
    rw [this] at h
    show K (decide (0 ≤ i))
    rw [decide_eq_true a0]; exact h
  · by_cases e : j = i.toNat
    · rw [e]; exact hf
    · exact a2 j (by omega)
  · have : l.any manyA = false := any_take (d := az) fun j hj => a2 j (by omega)
    rw [this] at h
    exact h
/-! ### what is reached -/
theorem getD_setG {α : Type} {l : List α} {i j : Nat} {x d : α} (hi : i < l.length) : (l.set i x).getD j d = if i = j then x else l.getD j d := by
  simp only [List.getD, List.getElem?_set]
  by_cases e : i = j
  · subst e; simp [hi]
  · simp [e]
inductive Rch (bef : List (List Int)) (fr : List Int) : Int → Prop
  | base {k : Int} : k ∈ fr → Rch bef fr k
  | step {j k : Int} : Rch bef fr j → k ∈ bef.getD j.toNat [] → Rch bef fr k
def unm (bef : List (List Int)) (met : List Bool) : Nat → Nat
  | 0 => 0
  | m + 1 => unm bef met m + if met.getD m false = true then 0 else (bef.getD m []).length
def tot (bef : List (List Int)) : Nat → Nat
  | 0 => 0
  | m + 1 => tot bef m + (bef.getD m []).length
theorem unm_le (bef : List (List Int)) (met : List Bool) : ∀ m, unm bef met m ≤ tot bef m
  | 0 => Nat.le_refl _
  | m + 1 => by
    have := unm_le bef met m
    unfold unm tot
    split <;> omega
theorem unm_set (bef : List (List Int)) {met : List Bool} {k : Nat} (hk : k < met.length) (hf : met.getD k false = false) : ∀ m, m ≤ met.length → unm bef (met.set k true) m + (if k < m then (bef.getD k []).length else 0) = unm bef met m
  | 0, _ => by rw [if_neg (Nat.not_lt_zero _)]; rfl
  | m + 1, h => by
    have ih := unm_set bef hk hf m (by omega)
    unfold unm
    rw [getD_setG hk]
    by_cases e : k = m
    · subst e
      rw [if_neg (Nat.lt_irrefl _)] at ih
      rw [if_pos rfl, if_pos rfl, if_pos (by omega), hf]
      simp only [Bool.false_eq_true, if_false]
      omega
    · rw [if_neg e]
      generalize (if met.getD m false = true then 0 else (bef.getD m []).length) = z
      by_cases h2 : k < m
      · have h3 : k < m + 1 := by omega
        rw [if_pos h2] at ih
        rw [if_pos h3]; omega
      · have h3 : ¬ k < m + 1 := by omega
        rw [if_neg h2] at ih
        rw [if_neg h3]; omega
theorem reach_M {gl : List GAct} {mk : MK} {bef ga : List (List Int)} {fr : List Int} {K : List Bool → Prop} (hn : gl.length ≤ 1000000) (hb : bef.length = gl.length) (hr : ∀ j, j < bef.length → ∀ k ∈ bef.getD j [], 0 ≤ k ∧ k < gl.length) (hf : ∀ k ∈ fr, 0 ≤ k ∧ k < (gl.length : Int)) (hs : fr.length + tot bef gl.length ≤ 100000000)
    (h : ∀ met : List Bool, met.length = gl.length → (∀ k : Nat, k < gl.length → (met.getD k false = true ↔ Rch bef fr k)) → K met) : M_pgraph_Graph_reach gl mk bef ga fr K := by
  intro _ _ _ _
  refine ⟨⟨by omega, by omega, by omega⟩, cloneI_M (by omega) ?_⟩
  refine ⟨fun work met => met.length = gl.length ∧ (∀ k ∈ work, Rch bef fr k ∧ 0 ≤ k ∧ k < (gl.length : Int)) ∧ (∀ k : Nat, k < gl.length → met.getD k false = true → Rch bef fr k) ∧ (∀ f ∈ fr, f ∈ work ∨ met.getD f.toNat false = true) ∧ (∀ k : Nat, k < gl.length → met.getD k false = true → ∀ j ∈ bef.getD k [], j ∈ work ∨ met.getD j.toNat false = true) ∧ work.length + unm bef met gl.length ≤ fr.length + tot bef gl.length, fun work met => work.length + unm bef met gl.length, ⟨by simp, fun k hk => ⟨.base hk, hf k hk⟩, fun k hk hm => ?_, fun f hf => .inl hf, fun k hk hm => ?_, ?_⟩, fun work met ⟨a0, a1, a2, a3, a4, a5⟩ _ => ⟨fun hpos => ?_, fun hz => ?_⟩⟩
  · simp [List.getD, List.getElem?_replicate, hk] at hm
  · simp [List.getD, List.getElem?_replicate, hk] at hm
  · have := unm_le bef (List.replicate (gl.length : Int).toNat false) gl.length
    omega
  · have hne : work ≠ [] := fun e => by rw [e] at hpos; simp at hpos
    obtain ⟨w', k, rfl⟩ : ∃ w' k, work = w' ++ [k] := ⟨work.dropLast, work.getLast hne, (List.dropLast_concat_getLast hne).symm⟩
    have hwl : (w' ++ [k]).length = w'.length + 1 := by simp
    have ht : (((w' ++ [k]).length : Int) - 1).toNat = w'.length := by omega
    have hg : (w' ++ [k]).getD w'.length 0 = k := by simp [List.getD]
    have htk : (w' ++ [k]).take w'.length = w' := List.take_left' rfl
    obtain ⟨k1, k2, k3⟩ := a1 k (by simp)
    have hkn : k.toNat < gl.length := by omega
    have hkk : ((k.toNat : Nat) : Int) = k := by omega
    have hnn : ((gl.length : Int).toNat : Int) = gl.length := by omega
    rw [ht, hg, htk]
    refine ⟨by simp only [In]; omega, ⟨by omega, by omega⟩, by simp only [In]; omega, ⟨by omega, by omega⟩, ⟨k2, by omega⟩, fun hm => ?_, fun hm => ?_⟩
    · have hm' : met.getD k.toNat false = false := by simpa using hm
      have hu := unm_set bef (met := met) (by omega) hm' gl.length (by omega)
      rw [if_pos hkn] at hu
      refine ⟨⟨k2, by omega⟩, ⟨k2, by omega⟩, by omega, ⟨by rw [List.length_set, a0], fun j hj => ?_, fun j hj hmj => ?_, fun f hf => ?_, fun j hj hmj x hx => ?_, by rw [List.length_append]; omega⟩, by (try dsimp only); rw [List.length_append]; omega⟩
      · rcases List.mem_append.1 hj with hj | hj
        · exact a1 j (List.mem_append_left _ hj)
        · exact ⟨.step k1 hj, hr _ (by omega) j hj⟩
      · rw [getD_setG (by omega)] at hmj
        by_cases e : k.toNat = j
        · rw [← e, hkk]; exact k1
        · rw [if_neg e] at hmj; exact a2 j hj hmj
      · rcases a3 f hf with hf' | hf'
        · rcases List.mem_append.1 hf' with hf' | hf'
          · exact .inl (List.mem_append_left _ hf')
          · right
            rw [List.mem_singleton.1 hf', getD_setG (by omega), if_pos rfl]
        · right
          rw [getD_setG (by omega)]
          split
          · rfl
          · exact hf'
      · rw [getD_setG (by omega)] at hmj
        by_cases e : k.toNat = j
        · rw [← e] at hx
          exact .inl (List.mem_append_right _ hx)
        · rw [if_neg e] at hmj
          rcases a4 j hj hmj x hx with hx' | hx'
          · rcases List.mem_append.1 hx' with hx' | hx'
            · exact .inl (List.mem_append_left _ hx')
            · right
              rw [List.mem_singleton.1 hx', getD_setG (by omega), if_pos rfl]
          · right
            rw [getD_setG (by omega)]
            split
            · rfl
            · exact hx'
    · have hm' : met.getD k.toNat false = true := by simpa using hm
      refine ⟨⟨a0, fun j hj => a1 j (List.mem_append_left _ hj), a2, fun f hf => ?_, fun j hj hmj x hx => ?_, by omega⟩, by (try dsimp only); omega⟩
      · rcases a3 f hf with hf' | hf'
        · rcases List.mem_append.1 hf' with hf' | hf'
          · exact .inl hf'
          · right; rw [List.mem_singleton.1 hf']; exact hm'
        · exact .inr hf'
      · rcases a4 j hj hmj x hx with hx' | hx'
        · rcases List.mem_append.1 hx' with hx' | hx'
          · exact .inl hx'
          · right; rw [List.mem_singleton.1 hx']; exact hm'
        · exact .inr hx'
  · have hw : work = [] := List.eq_nil_of_length_eq_zero (by omega)
    subst hw
    have hin : ∀ k, Rch bef fr k → 0 ≤ k ∧ k < (gl.length : Int) ∧ met.getD k.toNat false = true := fun k hk => by
      induction hk with
      | base hf' => 
        obtain ⟨h1, h2⟩ := hf _ hf'
        exact ⟨h1, h2, (a3 _ hf').resolve_left (by simp)⟩
      | step _ hj ih =>
        obtain ⟨i1, i2, i3⟩ := ih
        obtain ⟨h1, h2⟩ := hr _ (by omega) _ hj
        exact ⟨h1, h2, (a4 _ (by omega) i3 _ hj).resolve_left (by simp)⟩
    exact h met a0 fun k hk => ⟨fun hm => a2 k hk hm, fun hR => by have := (hin _ hR).2.2; simpa using this⟩
end Go.Proofs.YtlonpmajnglmoaaGreatDoor


 /- A graph of actions, plainly: made, and asked. -/
namespace Go.Proofs.YtlonpmajnglmoaaGreatDoor
open Go Go.RowKit
def ltI (a b : Int) : Bool := decide (a < b)
theorem ltI_T : LtT ltI := ⟨fun x => by simp [ltI], fun x y z h k => by simp [ltI] at *; omega, fun x y h k => by simp [ltI] at *; omega⟩
theorem sortI_eq (xs : List Int) : (xs.mergeSort fun x y => decide (x ≤ y)) = sortG ltI xs := by
  unfold sortG ltI
  congr 1
  funext x y
  rw [Bool.eq_iff_iff]
  simp
theorem uniqG_len {xs : List Int} : (uniqG ltI xs).length ≤ xs.length := by
  unfold uniqG Lib.compact
  have h := compactUpTo_len (sortG ltI xs).toArray (sortG ltI xs).length
  have h2 := sortG_length (lt := ltI) xs
  omega
def mkP (l : List GAct) : Nat → MK
  | 0 => []
  | i + 1 => mput (mkP l i) (l.getD i az).2.2.2 (i : Int)
def fitsAt (l : List GAct) (i : Nat) : Er := fitsP (mkP l i) (l.getD i az)
def befA (mk : MK) (inp : TL) : List Int := uniqG ltI (inp.filterMap (mget mk))
def bsP (l : List GAct) (i : Nat) : List Int := befA (mkP l l.length) (l.getD i az).2.2.1
def befL (l : List GAct) (m : Nat) : List (List Int) := (List.range m).map (bsP l)
def aftK (l : List GAct) (i k : Nat) : List Int := ((List.range i).filter fun j => decide ((k : Int) ∈ bsP l j)).map fun (j : Nat) => (j : Int)
def aftL (l : List GAct) (i : Nat) : List (List Int) := (List.range l.length).map (aftK l i)
theorem rng_getD {β : Type} {f : Nat → β} {n k : Nat} {d : β} (h : k < n) : ((List.range n).map f).getD k d = f k := by simp [List.getD, h]
theorem rng_set {β : Type} {f : Nat → β} {n k : Nat} {v : β} : ((List.range n).map f).set k v = (List.range n).map fun j => if k = j then v else f j := by
  refine List.ext_getElem (by simp) fun i h1 h2 => ?_
  simp only [List.getElem_set, List.getElem_map, List.getElem_range]
theorem mkP_succ (l : List GAct) (i : Nat) : mkP l (i + 1) = mput (mkP l i) (l.getD i az).2.2.2 (i : Int) := rfl
theorem mkP_len (l : List GAct) : ∀ i, (mkP l i).length ≤ i
  | 0 => Nat.le_refl _
  | i + 1 => by
    have := mkP_len l i
    unfold mkP
    rw [mput_len]; split <;> omega
theorem mkP_val {l : List GAct} {s : List UInt8} {v : Int} : ∀ {i : Nat}, mget (mkP l i) s = some v → ∃ j, j < i ∧ v = (j : Int) ∧ (l.getD j az).2.2.2 = s
  | 0, h => by simp [mkP, mget] at h
  | i + 1, h => by
    unfold mkP at h
    rw [mget_mput] at h
    split at h
    · rename_i e
      simp only [Option.some.injEq] at h
      exact ⟨i, by omega, h.symm, e⟩
    · obtain ⟨j, h1, h2, h3⟩ := mkP_val h
      exact ⟨j, by omega, h2, h3⟩
theorem bsP_mem {l : List GAct} {i : Nat} {k : Int} : k ∈ bsP l i ↔ ∃ s ∈ (l.getD i az).2.2.1, mget (mkP l l.length) s = some k := by
  unfold bsP befA
  rw [uniqG_mem ltI_T, List.mem_filterMap]
theorem bsP_in {l : List GAct} {i : Nat} {k : Int} (h : k ∈ bsP l i) : 0 ≤ k ∧ k < (l.length : Int) := by
  obtain ⟨s, _, hs⟩ := bsP_mem.1 h
  obtain ⟨j, h1, h2, _⟩ := mkP_val hs
  omega
theorem bsP_nodup (l : List GAct) (i : Nat) : (bsP l i).Nodup := StrictG.nodup ltI_T (uniqG_strict ltI_T _)
theorem bsP_len (l : List GAct) (i : Nat) : (bsP l i).length ≤ (l.getD i az).2.2.1.length := Nat.le_trans uniqG_len (List.length_filterMap_le _ _)
theorem tot_le {bef : List (List Int)} {c : Nat} (h : ∀ j, (bef.getD j []).length ≤ c) : ∀ m, tot bef m ≤ c * m
  | 0 => by simp [tot]
  | m + 1 => by
    have h1 := tot_le h m
    have h2 := h m
    unfold tot
    rw [Nat.mul_succ]; omega
theorem befL_getD {l : List GAct} {m j : Nat} : (befL l m).getD j [] = if j < m then bsP l j else [] := by
  unfold befL
  split
  · rename_i h; exact rng_getD h
  · rename_i h
    simp [List.getD, h]
theorem aftK_succ (l : List GAct) (i k : Nat) : aftK l (i + 1) k = aftK l i k ++ if (k : Int) ∈ bsP l i then [(i : Int)] else [] := by
  unfold aftK
  rw [List.range_succ, List.filter_append, List.map_append]
  congr 1
  rw [List.filter_cons, List.filter_nil]
  by_cases h : (k : Int) ∈ bsP l i
  · rw [if_pos h, if_pos (decide_eq_true h)]; rfl
  · rw [if_neg h, if_neg (by simpa using h)]; rfl
theorem aftK_len (l : List GAct) (i k : Nat) : (aftK l i k).length ≤ i := by
  unfold aftK
  rw [List.length_map]
  exact Nat.le_trans (List.length_filter_le _ _) (by simp)
theorem fitsP_cases (mk : MK) (a : GAct) : fitsP mk a = .ok ∨ ∃ n, fitsP mk a = .e n := by
  unfold fitsP
  split
  · exact .inr ⟨_, rfl⟩
  · split
    · exact .inr ⟨_, rfl⟩
    · split
      · exact .inr ⟨_, rfl⟩
      · exact .inl rfl
theorem take_succ_getD {α : Type} {xs : List α} {t : Nat} (d : α) (h : t < xs.length) : xs.take (t + 1) = xs.take t ++ [xs.getD t d] := by
  rw [List.take_succ_eq_append_getElem h]
  simp [List.getD, h]
theorem new_M {l : List GAct} {K0 : Er → Prop} {K : List GAct → MK → List (List Int) → List (List Int) → Er → Prop} (hl : l.length ≤ 1000000) (hsz : ∀ a ∈ l, (∀ s ∈ a.2.2.1, s.length ≤ 4000000000) ∧ a.2.2.2.length ≤ 4000000000)
    (hmany : 1000 < l.length ∨ l.any manyA = true → K0 (.e 9))
    (hfit : l.length ≤ 1000 → l.any manyA = false → ∀ i n, i < l.length → (∀ j, j < i → fitsAt l j = .ok) → fitsAt l i = .e n → K0 (.at_ i n))
    (hcyc : l.length ≤ 1000 → l.any manyA = false → (∀ j, j < l.length → fitsAt l j = .ok) → ∀ i, i < l.length → (∀ j, j < i → ¬ Rch (befL l l.length) (bsP l j) (j : Int)) → Rch (befL l l.length) (bsP l i) (i : Int) → K0 (.at_ i 4))
    (hok : l.length ≤ 1000 → l.any manyA = false → (∀ j, j < l.length → fitsAt l j = .ok) → (∀ j, j < l.length → ¬ Rch (befL l l.length) (bsP l j) (j : Int)) → K l (mkP l l.length) (befL l l.length) (aftL l l.length) .ok) : M_graph_New l K0 K := by
  intro _
  refine ⟨fun b => b = (decide ((1000 : Int) < (l.length : Int)) || l.any manyA), ⟨fun h => by rw [h]; rfl, fun h => contA_M (by omega) (by rw [h]; rfl)⟩, fun q hq => ⟨fun ht => hmany ?_, fun hf => ?_⟩⟩
  · rw [hq, Bool.or_eq_true, decide_eq_true_eq] at ht
    exact ht.imp (fun h => by omega) id
  rw [hq, Bool.or_eq_false_iff, decide_eq_false_iff_not] at hf
  have hl1 : l.length ≤ 1000 := by omega
  have hm := hf.2
  have hfit := hfit hl1 hm
  have hcyc := hcyc hl1 hm
  have hok := hok hl1 hm
  have hge : ∀ i, i < l.length → (∀ s ∈ (l.getD i az).2.2.1, s.length ≤ 4000000000) ∧ (l.getD i az).2.2.2.length ≤ 4000000000 ∧ (l.getD i az).2.2.1.length ≤ 1000 ∧ (l.getD i az).2.1.length ≤ 1000 := fun i hi => by
    have h1 := hsz _ (getD_mem2 (d := az) hi)
    have h2 := List.any_eq_false.1 hm _ (getD_mem2 (d := az) hi)
    have h3 : manyA (l.getD i az) = false := by simpa using h2
    unfold manyA at h3
    rw [Bool.or_eq_false_iff, decide_eq_false_iff_not, decide_eq_false_iff_not] at h3
    exact ⟨h1.1, h1.2, by omega, by omega⟩
  clear hf hm hmany hq
  refine ⟨fun i l' mk => 0 ≤ i ∧ i ≤ l.length ∧ l' = l.take i.toNat ∧ mk = mkP l i.toNat ∧ ∀ j, j < i.toNat → fitsAt l j = .ok, fun i _ _ => l.length - i.toNat, ⟨by omega, by omega, rfl, rfl, fun j hj => by simp at hj⟩, fun i l' mk ⟨a0, a1, a2, a3, a4⟩ => ⟨fun hlt => ?_, fun hge2 => ?_⟩⟩
  · have hi : i.toNat < l.length := by omega
    obtain ⟨g1, g2, g3, g4⟩ := hge _ hi
    have hii : (i.toNat : Int) = i := by omega
    have hml := mkP_len l i.toNat
    refine ⟨⟨a0, hlt⟩, fits_M (a := l.getD i.toNat az) (by omega) g1 g2 ⟨fun hne => ?_, fun he => ⟨⟨by unfold maxLen; exact Nat.le_trans g2 (by omega), by unfold maxLen; rw [a3]; omega⟩, copied_M (by show (l.getD i.toNat az).2.1.length ≤ _; omega) (by show (l.getD i.toNat az).2.2.1.length ≤ _; omega) ⟨?_, by simp only [In]; omega, ⟨by omega, by omega, ?_, ?_, fun j hj => ?_⟩, by (try dsimp only); omega⟩⟩⟩⟩
    · rw [a3] at hne
      rcases fitsP_cases (mkP l i.toNat) (l.getD i.toNat az) with h | ⟨n, h⟩
      · exact absurd h hne
      · refine ⟨n, by rw [a3]; exact h, ?_⟩
        have := hfit i.toNat n hi a4 h
        rwa [hii] at this
    · rw [a2, List.length_take, List.length_singleton]; omega
    · rw [show (i + 1).toNat = i.toNat + 1 by omega, List.take_succ_eq_append_getElem hi, a2]
      have : l.getD i.toNat az = l[i.toNat] := by simp [List.getD, hi]
      show l.take i.toNat ++ [l.getD i.toNat az] = _
      rw [this]
    · rw [show (i + 1).toNat = i.toNat + 1 by omega, a3]
      rw [mkP_succ, hii]; rfl
    · by_cases e : j = i.toNat
      · rw [e]; rw [a3] at he; exact he
      · exact a4 j (by omega)
  · obtain rfl : i = l.length := by omega
    have e1 : l' = l := by rw [a2]; simp
    have e2 : mk = mkP l l.length := by rw [a3]; simp
    have hfits : ∀ j, j < l.length → fitsAt l j = .ok := fun j hj => a4 j (by omega)
    rw [e1, e2]
    clear a0 a1 a2 a3 a4 e1 e2 hge2 hfit
    have hnn : ((l.length : Nat) : Int).toNat = l.length := by omega
    have hbin : ∀ i, i < l.length → (bsP l i).length ≤ 1000 := fun i hi => Nat.le_trans (bsP_len l i) (hge i hi).2.2.1
    rw [hnn]
    refine ⟨⟨by omega, by omega, by omega⟩, fun i bef aft => 0 ≤ i ∧ i ≤ l.length ∧ bef = befL l i.toNat ∧ aft = aftL l i.toNat, fun i _ _ => l.length - i.toNat, ⟨by omega, by omega, rfl, ?_⟩, fun i bef aft ⟨a0, a1, a2, a3⟩ => ⟨fun hlt => ?_, fun hge2 => ?_⟩⟩
    · unfold aftL
      refine List.ext_getElem (by simp) fun k h1 h2 => ?_
      simp [aftK]
    · have hi : i.toNat < l.length := by omega
      have hii : (i.toNat : Int) = i := by omega
      obtain ⟨g1, g2, g3, g4⟩ := hge _ hi
      refine ⟨⟨a0, hlt⟩, ?_⟩
      show Lp2 (fun before t84 kont3 => ((t84 < ((l.getD i.toNat az).2.2.1.length : Int) → _) ∧ _)) _ _
      refine ⟨fun before t => 0 ≤ t ∧ t ≤ (l.getD i.toNat az).2.2.1.length ∧ before = ((l.getD i.toNat az).2.2.1.take t.toNat).filterMap (mget (mkP l l.length)), fun _ t => (l.getD i.toNat az).2.2.1.length - t.toNat, ⟨by omega, by omega, rfl⟩, fun before t ⟨b0, b1, b2⟩ => ⟨fun hlt2 => ?_, fun hge3 => ?_⟩⟩
      · have ht : t.toNat < (l.getD i.toNat az).2.2.1.length := by omega
        have hsl := g1 _ (getD_mem2 (d := []) ht)
        have hbl : before.length ≤ 1000 := by
          rw [b2]
          exact Nat.le_trans (List.length_filterMap_le _ _) (by rw [List.length_take]; omega)
        have htk : (l.getD i.toNat az).2.2.1.take (t + 1).toNat = (l.getD i.toNat az).2.2.1.take t.toNat ++ [(l.getD i.toNat az).2.2.1.getD t.toNat []] := by
          rw [show (t + 1).toNat = t.toNat + 1 by omega]
          exact take_succ_getD [] ht
        refine ⟨fun b2' => b2' = ((l.getD i.toNat az).2.2.1.take (t + 1).toNat).filterMap (mget (mkP l l.length)), ⟨⟨b0, hlt2⟩, by unfold maxLen; exact Nat.le_trans hsl (by omega), fun hs => ⟨by rw [List.length_singleton]; omega, ?_⟩, fun hs => ?_⟩, fun b2' hb => ⟨by simp only [In]; omega, ⟨by omega, by omega, hb⟩, by (try dsimp only); omega⟩⟩
        · obtain ⟨v, hv⟩ := Option.isSome_iff_exists.1 hs
          rw [htk, List.filterMap_append, ← b2]
          show _ = before ++ [(l.getD i.toNat az).2.2.1.getD t.toNat []].filterMap (mget (mkP l l.length))
          have hv' : mget (mkP l l.length) ((l.getD i.toNat az).2.2.1.getD t.toNat []) = some v := hv
          rw [List.filterMap_cons, hv']
          show before ++ [(mget (mkP l l.length) ((l.getD i.toNat az).2.2.1.getD t.toNat [])).getD 0] = _
          rw [hv']; rfl
        · have hn : mget (mkP l l.length) ((l.getD i.toNat az).2.2.1.getD t.toNat []) = none := by
            have : (mget (mkP l l.length) ((l.getD i.toNat az).2.2.1.getD t.toNat [])).isSome = false := hs
            simpa using this
          rw [htk, List.filterMap_append, ← b2, List.filterMap_cons, hn]
          simp
      · have hge3' : ¬ t < ((l.getD i.toNat az).2.2.1.length : Int) := hge3
        have ht : t.toNat = (l.getD i.toNat az).2.2.1.length := by omega
        rw [ht, List.take_length] at b2
        have hbl : before.length ≤ 1000 := by
          rw [b2]
          exact Nat.le_trans (List.length_filterMap_le _ _) g3
        refine ⟨by omega, ?_⟩
        rw [sortI_eq]
        have hbs : Lib.compact (sortG ltI before) = bsP l i.toNat := by rw [b2]; rfl
        have hbsl := hbin _ hi
        show _ ∧ _
        rw [hbs]
        refine ⟨by rw [a2]; unfold befL; rw [List.length_map, List.length_range, List.length_singleton]; omega, ?_⟩
        refine ⟨fun t aft2 => 0 ≤ t ∧ t ≤ (bsP l i.toNat).length ∧ aft2 = (List.range l.length).map fun k => aftK l i.toNat k ++ (if (k : Int) ∈ (bsP l i.toNat).take t.toNat then [i] else []), fun t _ => (bsP l i.toNat).length - t.toNat, ⟨by omega, by omega, ?_⟩, fun t aft2 ⟨c0, c1, c2⟩ => ⟨fun hlt3 => ?_, fun hge4 => ?_⟩⟩
        · rw [a3]; unfold aftL; simp
        · have ht2 : t.toNat < (bsP l i.toNat).length := by omega
          have he := bsP_in (getD_mem2 (d := 0) ht2)
          have hel : (bsP l i.toNat).getD t.toNat 0 = (bsP l i.toNat)[t.toNat] := by simp [List.getD, ht2]
          generalize hx : (bsP l i.toNat).getD t.toNat 0 = x at he
          have hxk : x.toNat < l.length := by omega
          have hxx : ((x.toNat : Nat) : Int) = x := by omega
          have hnd := bsP_nodup l i.toNat
          have htk : (bsP l i.toNat).take (t + 1).toNat = (bsP l i.toNat).take t.toNat ++ [x] := by
            rw [show (t + 1).toNat = t.toNat + 1 by omega, List.take_succ_eq_append_getElem ht2, ← hel, hx]
          have hnot : x ∉ (bsP l i.toNat).take t.toNat := fun hm => by
            have : ((bsP l i.toNat).take (t + 1).toNat).Nodup := hnd.sublist (List.take_sublist _ _)
            rw [htk, List.nodup_append] at this
            exact this.2.2 x hm x (by simp) rfl
          have hal : aft2.length = l.length := by rw [c2, List.length_map, List.length_range]
          have hgx : aft2.getD x.toNat [] = aftK l i.toNat x.toNat := by
            rw [c2, rng_getD hxk, hxx, if_neg hnot, List.append_nil]
          have hkl := aftK_len l i.toNat x.toNat
          rw [hgx]
          refine ⟨⟨c0, hlt3⟩, ⟨he.1, by omega⟩, by rw [List.length_singleton]; omega, ⟨he.1, by omega⟩, by simp only [In]; omega, ⟨by omega, by omega, ?_⟩, by (try dsimp only); omega⟩
          rw [c2, rng_set, htk]
          refine List.map_congr_left fun k _ => ?_
          by_cases e : x.toNat = k
          · subst e
            rw [if_pos rfl, hxx, if_pos (by simp)]
          · rw [if_neg e]
            have : ((k : Int) ∈ (bsP l i.toNat).take t.toNat ++ [x]) ↔ (k : Int) ∈ (bsP l i.toNat).take t.toNat := by
              rw [List.mem_append, List.mem_singleton]
              exact ⟨fun h => h.resolve_right (fun e2 => e (by omega)), .inl⟩
            simp only [this]
        · have ht2 : t.toNat = (bsP l i.toNat).length := by omega
          rw [ht2, List.take_length] at c2
          refine ⟨by simp only [In]; omega, ⟨by omega, by omega, ?_, ?_⟩, by (try dsimp only); omega⟩
          · rw [show (i + 1).toNat = i.toNat + 1 by omega, a2]
            unfold befL
            rw [List.range_succ, List.map_append]; rfl
          · rw [show (i + 1).toNat = i.toNat + 1 by omega, c2]
            unfold aftL
            refine List.map_congr_left fun k _ => ?_
            rw [aftK_succ, hii]
    · obtain rfl : i = l.length := by omega
      rw [hnn] at a2 a3
      subst a2; subst a3
      have hbl : (befL l l.length).length = l.length := by unfold befL; rw [List.length_map, List.length_range]
      have htot : tot (befL l l.length) l.length ≤ 1000 * l.length := tot_le (fun j => by
        rw [befL_getD]
        split
        · exact hbin _ (by assumption)
        · simp) _
      refine ⟨fun i => 0 ≤ i ∧ i ≤ l.length ∧ ∀ j, j < i.toNat → ¬ Rch (befL l l.length) (bsP l j) (j : Int), fun i => l.length - i.toNat, ⟨by omega, by omega, fun j hj => by simp at hj⟩, fun i ⟨a0, a1, a2⟩ => ⟨fun hlt => ?_, fun hge2 => hok hfits fun j hj => a2 j (by omega)⟩⟩
      have hi : i.toNat < l.length := by omega
      have hii : (i.toNat : Int) = i := by omega
      have hgi : (befL l l.length).getD i.toNat [] = bsP l i.toNat := by rw [befL_getD, if_pos hi]
      have := hbin _ hi
      rw [hgi]
      refine ⟨⟨a0, by omega⟩, reach_M (by omega) hbl (fun j hj k hk => ?_) (fun k hk => bsP_in hk) (by omega) fun met m1 m2 => ⟨⟨a0, by omega⟩, fun ht => ⟨4, rfl, ?_⟩, fun hf => ⟨by simp only [In]; omega, ⟨by omega, by omega, fun j hj => ?_⟩, by (try dsimp only); omega⟩⟩⟩
      · rw [befL_getD] at hk
        split at hk
        · exact bsP_in hk
        · simp at hk
      · have := hcyc hfits i.toNat hi a2 ((m2 _ hi).1 ht)
        rwa [hii] at this
      · by_cases e : j = i.toNat
        · rw [e]
          exact fun hR => by rw [(m2 _ hi).2 hR] at hf; cases hf
        · exact a2 j (by omega)
end Go.Proofs.YtlonpmajnglmoaaGreatDoor


 /- A graph of actions, plainly: what is needed, the sources, what hangs on an action. -/
namespace Go.Proofs.YtlonpmajnglmoaaGreatDoor
open Go Go.RowKit
section
variable {gl : List GAct} {mk : MK} {bef aft : List (List Int)}
def onesN (met : List Bool) (n : Nat) : List Int := ((List.range n).filter fun k => met.getD k false).map fun (k : Nat) => (k : Int)
theorem onesN_succ (met : List Bool) (n : Nat) : onesN met (n + 1) = onesN met n ++ if met.getD n false = true then [(n : Int)] else [] := by
  unfold onesN
  rw [List.range_succ, List.filter_append, List.map_append]
  congr 1
  rw [List.filter_cons, List.filter_nil]
  split <;> rfl
theorem onesN_len (met : List Bool) (n : Nat) : (onesN met n).length ≤ n := by
  unfold onesN
  rw [List.length_map]
  exact Nat.le_trans (List.length_filter_le _ _) (by simp)
theorem needs_M {outs : TL} {K : List Int → Prop} (hn : gl.length ≤ 1000000) (hb : bef.length = gl.length) (hr : ∀ j, j < bef.length → ∀ k ∈ bef.getD j [], 0 ≤ k ∧ k < (gl.length : Int)) (ho : outs.length ≤ 1000000) (hol : ∀ s ∈ outs, s.length ≤ 4000000000) (hmk : ∀ s v, mget mk s = some v → 0 ≤ v ∧ v < (gl.length : Int)) (hs : tot bef gl.length ≤ 10000000)
    (h : ∀ met : List Bool, met.length = gl.length → (∀ k : Nat, k < gl.length → (met.getD k false = true ↔ Rch bef (outs.filterMap (mget mk)) k)) → K (onesN met gl.length)) : M_pgraph_Graph_Needs gl mk bef aft outs K := by
  intro _ _ _ _
  refine ⟨fun fr t => 0 ≤ t ∧ t ≤ outs.length ∧ fr = (outs.take t.toNat).filterMap (mget mk), fun _ t => outs.length - t.toNat, ⟨by omega, by omega, rfl⟩, fun fr t ⟨a0, a1, a2⟩ => ⟨fun hlt => ?_, fun hge => ?_⟩⟩
  · have ht : t.toNat < outs.length := by omega
    have hsl := hol _ (getD_mem2 (d := []) ht)
    have hfl : fr.length ≤ outs.length := by
      rw [a2]
      exact Nat.le_trans (List.length_filterMap_le _ _) (by rw [List.length_take]; omega)
    have htk : outs.take (t + 1).toNat = outs.take t.toNat ++ [outs.getD t.toNat []] := by
      rw [show (t + 1).toNat = t.toNat + 1 by omega]
      exact take_succ_getD [] ht
    refine ⟨fun fr2 => fr2 = (outs.take (t + 1).toNat).filterMap (mget mk), ⟨⟨a0, hlt⟩, by unfold maxLen; exact Nat.le_trans hsl (by omega), fun hs => ⟨by rw [List.length_singleton]; omega, ?_⟩, fun hs => ?_⟩, fun fr2 hb2 => ⟨by simp only [In]; omega, ⟨by omega, by omega, hb2⟩, by (try dsimp only); omega⟩⟩
    · obtain ⟨v, hv⟩ := Option.isSome_iff_exists.1 hs
      rw [htk, List.filterMap_append, ← a2, List.filterMap_cons, hv]
      rfl
    · have hn : mget mk (outs.getD t.toNat []) = none := by simpa using hs
      rw [htk, List.filterMap_append, ← a2, List.filterMap_cons, hn]
      simp
  · have ht : t.toNat = outs.length := by omega
    rw [ht, List.take_length] at a2
    subst a2
    have hfl : (outs.filterMap (mget mk)).length ≤ outs.length := List.length_filterMap_le _ _
    refine reach_M hn hb hr (fun k hk => ?_) (by omega) fun met m1 m2 => ?_
    · obtain ⟨s, _, hs⟩ := List.mem_filterMap.1 hk
      exact hmk s k hs
    · have hK := h met m1 m2
      refine ⟨fun out i => 0 ≤ i ∧ i ≤ met.length ∧ out = onesN met i.toNat, fun _ i => met.length - i.toNat, ⟨by omega, by omega, rfl⟩, fun out i ⟨b0, b1, b2⟩ => ⟨fun hlt => ?_, fun hge => ?_⟩⟩
      · have hii : (i.toNat : Int) = i := by omega
        have hol := onesN_len met i.toNat
        refine ⟨fun o2 => o2 = onesN met (i + 1).toNat, ⟨⟨b0, hlt⟩, fun hm => ⟨by rw [b2, List.length_singleton]; omega, ?_⟩, fun hm => ?_⟩, fun o2 hb2 => ⟨by simp only [In]; omega, ⟨by omega, by omega, hb2⟩, by (try dsimp only); omega⟩⟩
        · rw [show (i + 1).toNat = i.toNat + 1 by omega, onesN_succ, if_pos hm, b2, hii]
        · rw [show (i + 1).toNat = i.toNat + 1 by omega, onesN_succ, if_neg (by rw [hm]; simp), b2, List.append_nil]
      · have : i.toNat = met.length := by omega
        rw [this, m1] at b2
        rw [b2]; exact hK
def srcA (mk : MK) (inp : TL) : TL := inp.filter fun s => !(mget mk s).isSome
theorem srcA_len (mk : MK) (inp : TL) : (srcA mk inp).length ≤ inp.length := List.length_filter_le _ _
theorem sources_M {K : TL → Prop} (hn : gl.length ≤ 1000) (hi : ∀ a ∈ gl, a.2.2.1.length ≤ 1000 ∧ ∀ s ∈ a.2.2.1, s.length ≤ 4000000000) (h : K (sortU (gl.flatMap fun a => srcA mk a.2.2.1))) : M_pgraph_Graph_Sources gl mk bef aft K := by
  intro _ _ _
  refine ⟨fun l t => 0 ≤ t ∧ t ≤ gl.length ∧ l = (gl.take t.toNat).flatMap (fun a => srcA mk a.2.2.1) ∧ l.length ≤ 1000 * t.toNat, fun _ t => gl.length - t.toNat, ⟨by omega, by omega, rfl, by simp⟩, fun l t ⟨a0, a1, a2, a3⟩ => ⟨fun hlt => ⟨⟨a0, hlt⟩, ?_⟩, fun hge => ?_⟩⟩
  · have ht : t.toNat < gl.length := by omega
    obtain ⟨g1, g2⟩ := hi _ (getD_mem2 (d := az) ht)
    show Lp2 (fun l2 t22 kont2 => ((t22 < ((gl.getD t.toNat az).2.2.1.length : Int) → _) ∧ (¬ (t22 < ((gl.getD t.toNat az).2.2.1.length : Int)) → _))) _ _
    generalize hinp : (gl.getD t.toNat az).2.2.1 = inp at g1 g2 ⊢
    have hz : (gl.getD t.toNat (0, [], [], [])).2.2.1 = inp := hinp
    rw [hz]
    refine ⟨fun l2 j => 0 ≤ j ∧ j ≤ inp.length ∧ l2 = l ++ srcA mk (inp.take j.toNat), fun _ j => inp.length - j.toNat, ⟨by omega, by omega, by simp [srcA]⟩, fun l2 j ⟨b0, b1, b2⟩ => ⟨fun hlt2 => ?_, fun hge2 => ?_⟩⟩
    · have hj : j.toNat < inp.length := by omega
      have hsl := g2 _ (getD_mem2 (d := []) hj)
      have hl2 := srcA_len mk (inp.take j.toNat)
      rw [List.length_take] at hl2
      have htk : srcA mk (inp.take (j + 1).toNat) = srcA mk (inp.take j.toNat) ++ if (!(mget mk (inp.getD j.toNat [])).isSome) = true then [inp.getD j.toNat []] else [] := by
        unfold srcA
        rw [show (j + 1).toNat = j.toNat + 1 by omega, take_succ_getD [] hj, List.filter_append]
        congr 1
        rw [List.filter_cons, List.filter_nil]
      refine ⟨fun l3 => l3 = l ++ srcA mk (inp.take (j + 1).toNat), ⟨⟨b0, hlt2⟩, by unfold maxLen; exact Nat.le_trans hsl (by omega), fun hs => ⟨by rw [b2, List.length_append, List.length_singleton]; omega, ?_⟩, fun hs => ?_⟩, fun l3 hb3 => ⟨by simp only [In]; omega, ⟨by omega, by omega, hb3⟩, by (try dsimp only); omega⟩⟩
      · rw [htk, if_pos hs, b2, List.append_assoc]
      · rw [htk, if_neg (by rw [hs]; simp), b2, List.append_nil]
    · have hj : j.toNat = inp.length := by omega
      rw [hj, List.take_length] at b2
      have hl2 := srcA_len mk inp
      refine ⟨by simp only [In]; omega, ⟨by omega, by omega, ?_, ?_⟩, by (try dsimp only); omega⟩
      · rw [show (t + 1).toNat = t.toNat + 1 by omega, take_succ_getD az ht, List.flatMap_append, ← a2, b2, List.flatMap_cons, List.flatMap_nil, List.append_nil, hinp]
      · rw [b2, List.length_append]; omega
  · have ht : t.toNat = gl.length := by omega
    rw [ht, List.take_length] at a2
    refine ⟨by omega, ?_⟩
    show K (Lib.compact (sortB l))
    rw [a2]; exact h
theorem index_M {xs : List Int} {v : Int} {i : Nat} {K : Int → Prop} (hl : xs.length ≤ 1000000) (hi : i < xs.length) (h1 : xs.getD i 0 = v) (h0 : ∀ j, j < i → xs.getD j 0 ≠ v) (h : K (i : Int)) : M_slices_Index_int_int xs v K := by
  intro _
  refine ⟨fun t => 0 ≤ t ∧ t ≤ i, fun t => i - t.toNat, ⟨by omega, by omega⟩, fun t ⟨a0, a1⟩ => ⟨fun hlt => ⟨⟨a0, hlt⟩, fun he => ?_, fun hne => ⟨by simp only [In]; omega, ⟨by omega, ?_⟩, ?_⟩⟩, fun hge => by omega⟩⟩
  · have : t.toNat = i := by
      rcases Nat.lt_or_ge t.toNat i with hlt2 | hge2
      · exact absurd he.symm (h0 _ hlt2)
      · omega
    have e : t = (i : Int) := by omega
    rw [e]; exact h
  · have : t.toNat ≠ i := fun e => hne (by rw [e]; exact h1.symm)
    omega
  · have : t.toNat ≠ i := fun e => hne (by rw [e]; exact h1.symm)
    (try dsimp only); omega
end
end Go.Proofs.YtlonpmajnglmoaaGreatDoor


 /- A graph of actions, plainly: the order. -/
namespace Go.Proofs.YtlonpmajnglmoaaGreatDoor
open Go Go.RowKit
section
variable {bef : List (List Int)} {n : Nat}
/-- the first that is not out yet, and all ahead of which are -/
def freeB (bef : List (List Int)) (out : List Int) (i : Nat) : Bool := !out.contains (i : Int) && (bef.getD i []).all fun b => out.contains b
def pickF (bef : List (List Int)) (out : List Int) (n : Nat) : Option Nat := (List.range n).find? (freeB bef out)
def ordR (bef : List (List Int)) (n : Nat) : Nat → List Int
  | 0 => []
  | m + 1 => match pickF bef (ordR bef n m) n with | some i => ordR bef n m ++ [(i : Int)] | none => ordR bef n m
def AcyB (bef : List (List Int)) (n : Nat) : Prop := (∀ j, j < n → ∀ k ∈ bef.getD j [], 0 ≤ k ∧ k < (n : Int)) ∧ ∀ j, j < n → ¬ Rch bef (bef.getD j []) (j : Int)
theorem rch_sub {fr fr' : List Int} (h : ∀ f ∈ fr, Rch bef fr' f) {k : Int} (hk : Rch bef fr k) : Rch bef fr' k := by
  induction hk with
  | base hm => exact h _ hm
  | step _ hm ih => exact .step ih hm
theorem countP_lt {α : Type} {p q : α → Bool} : ∀ {l : List α}, (∀ x ∈ l, p x = true → q x = true) → (∃ x ∈ l, p x = false ∧ q x = true) → l.countP p < l.countP q
  | [], _, h => by obtain ⟨x, hx, _⟩ := h; cases hx
  | a :: l, h1, h2 => by
    have hle : l.countP p ≤ l.countP q := List.countP_mono_left fun x hx => h1 x (List.mem_cons_of_mem _ hx)
    rw [List.countP_cons, List.countP_cons]
    obtain ⟨x, hx, px, qx⟩ := h2
    rcases List.mem_cons.1 hx with rfl | hx
    · rw [px, qx]; simp; omega
    · have := countP_lt (l := l) (fun x hx => h1 x (List.mem_cons_of_mem _ hx)) ⟨x, hx, px, qx⟩
      have ha := h1 a (List.mem_cons_self ..)
      by_cases e : p a = true
      · rw [e, ha e]; simp; omega
      · simp only [Bool.not_eq_true] at e
        rw [e]; simp; omega
open Classical in
/-- in what has no ring, if something is not out yet, then something that may be taken is not -/
theorem acy_pick (ha : AcyB bef n) {out : List Int} (h : ∃ i, i < n ∧ (i : Int) ∉ out) : ∃ i, pickF bef out n = some i := by
  have key : ∀ c j, j < n → (j : Int) ∉ out → ((List.range n).countP fun (k : Nat) => decide (Rch bef (bef.getD j []) (k : Int))) = c → ∃ i, i < n ∧ freeB bef out i = true := by
    intro c
    induction c using Nat.strongRecOn with
    | _ c ih =>
      intro j hj hjo hc
      by_cases hf : (bef.getD j []).all fun b => out.contains b
      · refine ⟨j, hj, ?_⟩
        unfold freeB
        rw [hf]
        simpa using hjo
      · simp only [Bool.not_eq_true, List.all_eq_false] at hf
        obtain ⟨b, hb, hbo⟩ := hf
        obtain ⟨b0, b1⟩ := ha.1 j hj b hb
        have hbb : ((b.toNat : Nat) : Int) = b := by omega
        have hbn : b.toNat < n := by omega
        refine ih _ ?_ b.toNat hbn (by rw [hbb]; simpa using hbo) rfl
        rw [← hc]
        refine countP_lt (fun k _ hk => ?_) ⟨b.toNat, List.mem_range.2 hbn, ?_, ?_⟩
        · simp only [decide_eq_true_eq] at hk ⊢
          refine rch_sub (fun f hf => ?_) hk
          exact .step (.base hb) hf
        · simpa using ha.2 _ hbn
        · rw [hbb]
          simpa using Rch.base hb
  obtain ⟨i, hi, ho⟩ := h
  obtain ⟨k, hk, hf⟩ := key _ i hi ho rfl
  unfold pickF
  cases hp : (List.range n).find? (freeB bef out) with
  | some q => exact ⟨q, rfl⟩
  | none => rw [List.find?_eq_none] at hp; exact absurd hf (hp k (List.mem_range.2 hk))
theorem pickF_some {out : List Int} {i : Nat} (h : pickF bef out n = some i) : i < n ∧ freeB bef out i = true ∧ ∀ j, j < i → freeB bef out j = false := by
  unfold pickF at h
  have h1 := List.find?_some h
  have h2 := List.mem_range.1 (List.mem_of_find?_eq_some h)
  refine ⟨h2, h1, fun j hj => ?_⟩
  obtain ⟨_, xa, xb, hab, hn⟩ := List.find?_eq_some_iff_append.1 h
  have hi : xa.length = i := by
    have : (List.range n)[xa.length]? = some i := by rw [hab]; simp
    rw [List.getElem?_range (by
      have := congrArg List.length hab; simp at this; omega)] at this
    simpa using this
  have hm : j ∈ xa := by
    have hg : (List.range n)[j]? = some j := List.getElem?_range (by omega)
    rw [hab, List.getElem?_append_left (by omega)] at hg
    exact List.mem_of_getElem? hg
  simpa using hn j hm
theorem ordR_props (ha : AcyB bef n) : ∀ m, m ≤ n → (ordR bef n m).length = m ∧ (ordR bef n m).Nodup ∧ (∀ x ∈ ordR bef n m, 0 ≤ x ∧ x < (n : Int))
  | 0, _ => ⟨rfl, List.Pairwise.nil, fun x hx => by cases hx⟩
  | m + 1, h => by
    obtain ⟨a, b, c⟩ := ordR_props ha m (by omega)
    have hex : ∃ i, i < n ∧ (i : Int) ∉ ordR bef n m := by
      refine Classical.byContradiction fun hne => ?_
      have hall : ∀ i, i < n → (i : Int) ∈ ordR bef n m := fun i hi => Classical.byContradiction fun hx => hne ⟨i, hi, hx⟩
      have this := List.Nodup.length_le_of_subset (l₁ := (List.range n).map fun (k : Nat) => (k : Int)) (l₂ := ordR bef n m) (List.Pairwise.map _ (fun a b (hab : a ≠ b) (e : (a : Int) = (b : Int)) => hab (by omega)) List.nodup_range) (fun x hx => by
        obtain ⟨k, hk, rfl⟩ := List.mem_map.1 hx
        exact hall k (List.mem_range.1 hk))
      rw [List.length_map, List.length_range, a] at this
      omega
    obtain ⟨i, hi⟩ := acy_pick ha hex
    obtain ⟨i1, i2, _⟩ := pickF_some hi
    unfold freeB at i2
    rw [Bool.and_eq_true] at i2
    have hno : (i : Int) ∉ ordR bef n m := by simpa using i2.1
    unfold ordR
    rw [hi]
    refine ⟨by rw [List.length_append, a]; rfl, ?_, fun x hx => ?_⟩
    · rw [List.nodup_append]
      refine ⟨b, List.pairwise_singleton _ _, fun x hx y hy e => ?_⟩
      rw [List.mem_singleton.1 hy] at e
      exact hno (e ▸ hx)
    · rcases List.mem_append.1 hx with hx | hx
      · exact c x hx
      · rw [List.mem_singleton.1 hx]; omega
theorem ordR_step (ha : AcyB bef n) {m : Nat} (h : m < n) : ∃ i, pickF bef (ordR bef n m) n = some i ∧ ordR bef n (m + 1) = ordR bef n m ++ [(i : Int)] := by
  obtain ⟨a, b, c⟩ := ordR_props ha m (by omega)
  have h1 := (ordR_props ha (m + 1) h).1
  cases hp : pickF bef (ordR bef n m) n with
  | some i => exact ⟨i, rfl, by show (match pickF bef (ordR bef n m) n with | some i => ordR bef n m ++ [(i : Int)] | none => ordR bef n m) = _; rw [hp]⟩
  | none =>
    have : ordR bef n (m + 1) = ordR bef n m := by show (match pickF bef (ordR bef n m) n with | some i => ordR bef n m ++ [(i : Int)] | none => ordR bef n m) = _; rw [hp]
    rw [this] at h1; omega
/-- how many ahead of one are not out yet -/
def cntL (out : List Int) (xs : List Int) : Nat := xs.countP fun b => !out.contains b
theorem cntL_zero {out xs : List Int} : cntL out xs = 0 ↔ (xs.all fun b => out.contains b) = true := by
  unfold cntL
  rw [List.countP_eq_zero, List.all_eq_true]
  refine forall_congr' fun x => forall_congr' fun _ => ?_
  simp
theorem cntL_snoc {out : List Int} {i : Int} (ho : i ∉ out) : ∀ {xs : List Int}, xs.Nodup → cntL (out ++ [i]) xs + (if i ∈ xs then 1 else 0) = cntL out xs
  | [], _ => rfl
  | a :: xs, h => by
    have ih := cntL_snoc ho (xs := xs) (List.nodup_cons.1 h).2
    have hna := (List.nodup_cons.1 h).1
    unfold cntL at ih ⊢
    rw [List.countP_cons, List.countP_cons]
    by_cases e : i = a
    · subst e
      rw [if_neg hna] at ih
      rw [if_pos (List.mem_cons_self ..)]
      have h1 : (out ++ [i]).contains i = true := by simp
      have h2 : out.contains i = false := by simpa using ho
      rw [h1, h2]
      simp only [Bool.not_true, Bool.not_false, if_true, if_false, Bool.false_eq_true]
      omega
    · have h1 : (out ++ [i]).contains a = out.contains a := by
        rw [Bool.eq_iff_iff, List.contains_iff_mem, List.contains_iff_mem, List.mem_append, List.mem_singleton]
        exact ⟨fun h => h.resolve_right fun h2 => e h2.symm, .inl⟩
      have h2 : (i ∈ a :: xs) ↔ i ∈ xs := by
        rw [List.mem_cons]; exact ⟨fun h => h.resolve_left e, .inr⟩
      rw [h1]
      by_cases h3 : i ∈ xs
      · rw [if_pos h3] at ih; rw [if_pos (h2.2 h3)]; omega
      · rw [if_neg h3] at ih; rw [if_neg (fun h => h3 (h2.1 h))]; omega
theorem ordR_closed (ha : AcyB bef n) : ∀ m, m ≤ n → ∀ x ∈ ordR bef n m, ∀ b ∈ bef.getD x.toNat [], b ∈ ordR bef n m
  | 0, _, x, hx, _, _ => by cases hx
  | m + 1, h, x, hx, b, hb => by
    obtain ⟨i, hi, he⟩ := ordR_step ha (m := m) (by omega)
    obtain ⟨i1, i2, _⟩ := pickF_some hi
    rw [he] at hx ⊢
    rcases List.mem_append.1 hx with hx | hx
    · exact List.mem_append_left _ (ordR_closed ha m (by omega) x hx b hb)
    · rw [List.mem_singleton.1 hx, Int.toNat_natCast] at hb
      unfold freeB at i2
      rw [Bool.and_eq_true, List.all_eq_true] at i2
      exact List.mem_append_left _ (by simpa using i2.2 b hb)
end
theorem befL_len (l : List GAct) (m : Nat) : (befL l m).length = m := by unfold befL; rw [List.length_map, List.length_range]
theorem aftL_len (l : List GAct) (i : Nat) : (aftL l i).length = l.length := by unfold aftL; rw [List.length_map, List.length_range]
theorem aftK_mem {l : List GAct} {i k : Nat} {j : Int} : j ∈ aftK l i k ↔ ∃ q : Nat, q < i ∧ j = (q : Int) ∧ (k : Int) ∈ bsP l q := by
  unfold aftK
  rw [List.mem_map]
  constructor
  · rintro ⟨q, hq, rfl⟩
    rw [List.mem_filter, List.mem_range, decide_eq_true_eq] at hq
    exact ⟨q, hq.1, rfl, hq.2⟩
  · rintro ⟨q, h1, rfl, h2⟩
    exact ⟨q, List.mem_filter.2 ⟨List.mem_range.2 h1, by simpa using h2⟩, rfl⟩
theorem aftK_nodup (l : List GAct) (i k : Nat) : (aftK l i k).Nodup := by
  unfold aftK
  exact List.Pairwise.map _ (fun a b (hab : a ≠ b) (e : (a : Int) = (b : Int)) => hab (by omega)) (List.Pairwise.filter _ List.nodup_range)
theorem map_set_eq {f g : Nat → Int} {n k : Nat} {v : Int} (h1 : k < n → g k = v) (h2 : ∀ j, j < n → j ≠ k → g j = f j) : ((List.range n).map f).set k v = (List.range n).map g := by
  rw [rng_set]
  refine List.map_congr_left fun j hj => ?_
  have hj := List.mem_range.1 hj
  by_cases e : k = j
  · subst e; rw [if_pos rfl, h1 hj]
  · rw [if_neg e, h2 j hj fun h => e h.symm]
theorem order_M {l : List GAct} {mk : MK} {K : List Int → Prop} (hl : l.length ≤ 1000) (hbl : ∀ j, (bsP l j).length ≤ 1000) (ha : AcyB (befL l l.length) l.length) (h : K (ordR (befL l l.length) l.length l.length)) : M_pgraph_Graph_Order l mk (befL l l.length) (aftL l l.length) K := by
  have hbn := befL_len l l.length
  have hal := aftL_len l l.length
  have hB : ∀ j, j < l.length → (befL l l.length).getD j [] = bsP l j := fun j hj => by rw [befL_getD, if_pos hj]
  have hA : ∀ j, j < l.length → (aftL l l.length).getD j [] = aftK l l.length j := fun j hj => by unfold aftL; rw [rng_getD hj]
  intro _ _ _
  obtain ⟨n, hn⟩ : ∃ n, l.length = n := ⟨_, rfl⟩
  have hnn : ((n : Nat) : Int).toNat = n := by omega
  rw [hn] at hl ha h hbn hal hB hA ⊢
  rw [hnn]
  refine ⟨⟨by omega, by omega, by omega⟩, fun t left => 0 ≤ t ∧ t ≤ n ∧ left = (List.range n).map fun j => if j < t.toNat then ((bsP l j).length : Int) else 0, fun t _ => n - t.toNat, ⟨by omega, by omega, ?_⟩, fun t left ⟨a0, a1, a2⟩ _ => ⟨fun hlt => ?_, fun hge => ?_⟩⟩
  · refine List.ext_getElem (by simp) fun k h1 h2 => ?_
    simp
  · have ht : t.toNat < n := by omega
    refine ⟨⟨a0, by omega⟩, ⟨a0, by omega⟩, by simp only [In]; omega, ⟨by omega, by omega, ?_⟩, by (try dsimp only); omega⟩
    rw [hB _ ht, a2]
    refine map_set_eq (fun _ => by rw [if_pos (by omega)]) fun j _ hj => ?_
    by_cases h1 : j < t.toNat
    · rw [if_pos (by omega), if_pos h1]
    · rw [if_neg (by omega), if_neg h1]
  · have ht : t.toNat = n := by omega
    refine ⟨fun out t left => 0 ≤ t ∧ t ≤ n ∧ out = ordR (befL l n) n t.toNat ∧ left = (List.range n).map fun (j : Nat) => if (j : Int) ∈ out then (-1 : Int) else (cntL out (bsP l j) : Int), fun _ t _ => n - t.toNat, ⟨by omega, by omega, rfl, ?_⟩, fun out t left ⟨b0, b1, b2, b3⟩ _ => ⟨fun hlt => ?_, fun hge2 => ?_⟩⟩
    · rw [a2, ht]
      refine List.map_congr_left fun k hk => ?_
      have := List.mem_range.1 hk
      rw [if_pos this, if_neg (by simp)]
      unfold cntL
      simp
    · have ht2 : t.toNat < n := by omega
      have htt : (t.toNat : Int) = t := by omega
      have hll : left.length = n := by rw [b3, List.length_map, List.length_range]
      obtain ⟨i, hi, he⟩ := ordR_step ha ht2
      rw [← b2] at hi he
      obtain ⟨i1, i2, i3⟩ := pickF_some hi
      obtain ⟨o1, o2, o3⟩ := ordR_props ha t.toNat (by omega)
      rw [← b2] at o1 o2 o3
      have hcl := ordR_closed ha t.toNat (by omega)
      rw [← b2] at hcl
      unfold freeB at i2
      rw [Bool.and_eq_true, hB i i1] at i2
      have hio : (i : Int) ∉ out := by simpa using i2.1
      have hall := i2.2
      have hc0 : cntL out (bsP l i) = 0 := cntL_zero.2 hall
      have hcle : ∀ j, cntL out (bsP l j) ≤ 1000 := fun j => Nat.le_trans List.countP_le_length (hbl j)
      refine index_M (i := i) (by omega) (by omega) (by rw [b3, rng_getD i1, if_neg hio, hc0]; rfl) (fun j hj => ?_) ?_
      · rw [b3, rng_getD (by omega)]
        split
        · decide
        · rename_i hjo
          have hf := i3 j hj
          unfold freeB at hf
          rw [hB j (by omega), Bool.and_eq_false_iff] at hf
          rcases hf with hf | hf
          · exact absurd (by simpa using hf) hjo
          · intro e
            have : cntL out (bsP l j) = 0 := by omega
            rw [cntL_zero.1 this] at hf
            cases hf
      have hAi := hA i i1
      have hAn := aftK_nodup l n i
      have hAm : ∀ j : Int, j ∈ aftK l n i ↔ ∃ q : Nat, q < n ∧ j = (q : Int) ∧ (i : Int) ∈ bsP l q := fun j => aftK_mem
      rw [Int.toNat_natCast, hAi]
      generalize aftK l n i = A at hAn hAm
      have hAl : A.length ≤ n := by
        have := List.Nodup.length_le_of_subset (l₁ := A) (l₂ := (List.range n).map fun (k : Nat) => (k : Int)) hAn fun x hx => by
          obtain ⟨q, h1, h2, _⟩ := (hAm x).1 hx
          exact List.mem_map.2 ⟨q, List.mem_range.2 h1, h2.symm⟩
        rwa [List.length_map, List.length_range] at this
      have hAo : ∀ x ∈ A, x ∉ out ++ [(i : Int)] := fun x hx hxo => by
        obtain ⟨q, h1, h2, h3⟩ := (hAm x).1 hx
        rcases List.mem_append.1 hxo with hxo | hxo
        · have h4 := hcl x hxo (i : Int)
          rw [h2, Int.toNat_natCast, hB q h1] at h4
          exact hio (h4 h3)
        · have : q = i := by have := List.mem_singleton.1 hxo; omega
          subst this
          rw [List.all_eq_true] at hall
          exact hio (by simpa using hall _ h3)
      refine ⟨⟨by omega, by omega⟩, by rw [o1, List.length_singleton]; omega, ⟨by omega, by omega⟩, fun q left3 => 0 ≤ q ∧ q ≤ A.length ∧ left3 = (List.range n).map fun (j : Nat) => if (j : Int) ∈ out ++ [(i : Int)] then (-1 : Int) else (cntL out (bsP l j) : Int) - (if (j : Int) ∈ A.take q.toNat then 1 else 0), fun q _ => A.length - q.toNat, ⟨by omega, by omega, ?_⟩, fun q left3 ⟨c0, c1, c2⟩ _ => ⟨fun hlt3 => ?_, fun hge3 => ?_⟩⟩
      · rw [b3]
        refine map_set_eq (fun _ => by rw [if_pos (by simp)]) fun j _ hj => ?_
        have e : ((j : Int) ∈ out ++ [(i : Int)]) ↔ (j : Int) ∈ out := by
          rw [List.mem_append, List.mem_singleton]
          exact ⟨fun h => h.resolve_right fun h2 => hj (by omega), .inl⟩
        by_cases h1 : (j : Int) ∈ out
        · rw [if_pos (e.2 h1), if_pos h1]
        · rw [if_neg fun h => h1 (e.1 h), if_neg h1]
          simp
      · have hq : q.toNat < A.length := by omega
        obtain ⟨k, k1, k2, k3⟩ := (hAm _).1 (getD_mem2 (d := 0) hq)
        have hkx : ((A.getD q.toNat 0).toNat) = k := by omega
        have hko := hAo _ (getD_mem2 (d := 0) hq)
        have hnt : (k : Int) ∉ A.take q.toNat := fun hm => by
          obtain ⟨r, hr, hre⟩ := List.getElem_of_mem hm
          have hr2 : r < q.toNat := by rw [List.length_take] at hr; omega
          rw [List.getElem_take] at hre
          have h1 : A[r]'(by omega) = A[q.toNat] := by
            rw [hre, ← k2]; simp [List.getD, hq]
          have := (List.nodup_iff_pairwise_ne.1 hAn)
          have h2 := List.pairwise_iff_getElem.1 hAn r q.toNat (by omega) hq hr2
          exact h2 h1
        have hst : A.take (q + 1).toNat = A.take q.toNat ++ [A.getD q.toNat 0] := by
          rw [show (q + 1).toNat = q.toNat + 1 by omega]
          exact take_succ_getD 0 hq
        have hg : left3.getD k 0 = (cntL out (bsP l k) : Int) := by
          rw [c2, rng_getD k1, if_neg (by rw [← k2]; exact hko), if_neg hnt]; omega
        have hck := hcle k
        rw [hkx, hg]
        refine ⟨⟨by omega, by omega⟩, ⟨by omega, by omega⟩, by simp only [In]; omega, ⟨by omega, by omega⟩, by simp only [In]; omega, ⟨by omega, by omega, ?_⟩, by (try dsimp only); omega⟩
        rw [c2]
        refine map_set_eq (fun _ => ?_) fun j _ hj => ?_
        · rw [if_neg (by rw [← k2]; exact hko), hst, if_pos (List.mem_append_right _ (List.mem_singleton.2 k2.symm))]
        · have e : ((j : Int) ∈ A.take (q + 1).toNat) ↔ (j : Int) ∈ A.take q.toNat := by
            rw [hst, List.mem_append, List.mem_singleton]
            exact ⟨fun h => h.resolve_right fun h2 => hj (by omega), .inl⟩
          by_cases h1 : (j : Int) ∈ A.take q.toNat
          · rw [if_pos (e.2 h1), if_pos h1]
          · rw [if_neg fun h => h1 (e.1 h), if_neg h1]
      · refine ⟨by simp only [In]; omega, ⟨by omega, by omega, ?_, ?_⟩, by (try dsimp only); omega⟩
        · rw [show (t + 1).toNat = t.toNat + 1 by omega, he]
        · have hqA : q.toNat = A.length := by omega
          rw [c2, hqA, List.take_length]
          refine List.map_congr_left fun j hj => ?_
          have hj := List.mem_range.1 hj
          by_cases h1 : (j : Int) ∈ out ++ [(i : Int)]
          · rw [if_pos h1, if_pos h1]
          · rw [if_neg h1, if_neg h1]
            have h2 := cntL_snoc hio (bsP_nodup l j)
            have h3 : (j : Int) ∈ A ↔ (i : Int) ∈ bsP l j := by
              rw [hAm]
              exact ⟨fun ⟨q, _, e, m⟩ => by have : q = j := by omega
                                            subst this; exact m, fun m => ⟨j, hj, rfl, m⟩⟩
            by_cases h4 : (i : Int) ∈ bsP l j
            · rw [if_pos (h3.2 h4)]; rw [if_pos h4] at h2; omega
            · rw [if_neg fun h => h4 (h3.1 h)]; rw [if_neg h4] at h2; omega
    · have ht2 : t.toNat = n := by omega
      rw [b2, ht2]
      exact h
end Go.Proofs.YtlonpmajnglmoaaGreatDoor


 