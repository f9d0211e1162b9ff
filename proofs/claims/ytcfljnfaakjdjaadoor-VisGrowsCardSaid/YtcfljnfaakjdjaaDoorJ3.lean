/- Texts of this claim, joined by a program: GPa, PathA, PathB, PathC, GPl, PathD, PathE, PathF. -/
import Derived.Test.YtcfljnfaakjdjaaDoorJ2
import Derived.Lib.Replace
/- Printed by a program (wip/vg): what the functions mean, plainly, and their walks. -/
namespace Go.Proofs.YtcfljnfaakjdjaaDoor
open Go Go.RowKit
attribute [local irreducible] WL WC WX WQ WK WJ Yld Eff Ef0 Fn
def M_internal_bytealg_LastIndexByteString (s : List UInt8) (c : Int) (K : Int → Prop) : Prop :=
 (In .i64 ((s.length : Int) - (1 : Int))) ∧
 Lp1 (fun (i : Int) k_1 => (((0 : Int) ≤ i → (0 ≤ i ∧ i < s.length) ∧
 ((((s.getD i.toNat 0).toNat : Int) = c → K i) ∧
 (¬ (((s.getD i.toNat 0).toNat : Int) = c) → (In .i64 (i - (1 : Int))) ∧
 k_1 (i - (1 : Int))))) ∧
 (¬ ((0 : Int) ≤ i) → K (-1 : Int)))) ((s.length : Int) - (1 : Int))

def M_strings_LastIndexByte (s : List UInt8) (c : Int) (K : Int → Prop) : Prop :=
 M_internal_bytealg_LastIndexByteString s c (fun (t4 : Int) =>
 K t4)

def M_internal_stringslite_HasPrefix (s : List UInt8) (prefix_ : List UInt8) (K : Bool → Prop) : Prop :=
 ((decide ((prefix_.length : Int) ≤ (s.length : Int))) = true → (0 ≤ (prefix_.length : Int) ∧ (prefix_.length : Int) ≤ s.length)) ∧
 K ((decide ((prefix_.length : Int) ≤ (s.length : Int))) && (decide ((s.take (prefix_.length : Int).toNat) = prefix_)))

def M_strings_HasPrefix (s : List UInt8) (prefix_ : List UInt8) (K : Bool → Prop) : Prop :=
 M_internal_stringslite_HasPrefix s prefix_ (fun (t4 : Bool) =>
 K t4)

def M_internal_stringslite_CutPrefix (s : List UInt8) (prefix_ : List UInt8) (K : (List UInt8) → Bool → Prop) : Prop :=
 M_internal_stringslite_HasPrefix s prefix_ (fun (t8 : Bool) =>
 (((!t8) = true → K s false) ∧
 ((!t8) = false → (0 ≤ (prefix_.length : Int) ∧ (prefix_.length : Int) ≤ s.length) ∧
 K (s.drop (prefix_.length : Int).toNat) true)))

def M_strings_CutPrefix (s : List UInt8) (prefix_ : List UInt8) (K : (List UInt8) → Bool → Prop) : Prop :=
 M_internal_stringslite_CutPrefix s prefix_ (fun (t80 : List UInt8) (t81 : Bool) =>
 K t80 t81)

def M_path_letter (c : Int) (K : Bool → Prop) : Prop :=
 ((((((decide ((48 : Int) ≤ c)) && (decide (c ≤ (57 : Int)))) || ((decide ((65 : Int) ≤ c)) && (decide (c ≤ (90 : Int))))) || ((decide ((97 : Int) ≤ c)) && (decide (c ≤ (122 : Int))))) = true → K true) ∧
 (((((decide ((48 : Int) ≤ c)) && (decide (c ≤ (57 : Int)))) || ((decide ((65 : Int) ≤ c)) && (decide (c ≤ (90 : Int))))) || ((decide ((97 : Int) ≤ c)) && (decide (c ≤ (122 : Int))))) = false → M_strings_IndexByte ([33, 35, 37, 43, 44, 45, 46, 61, 64, 95, 126] : List UInt8) c (fun (t26 : Int) =>
 K (decide ((0 : Int) ≤ t26)))))

def M_path_dots (s : List UInt8) (K : Bool → Prop) : Prop :=
 K (((decide (s = ([] : List UInt8))) || (decide (s = ([46] : List UInt8)))) || (decide (s = ([46, 46] : List UInt8))))

def M_path_fair (s : List UInt8) (K : Bool → Prop) : Prop :=
 Lp1 (fun (t6 : Int) k_1 => ((t6 < (s.length : Int) → (0 ≤ t6 ∧ t6 < s.length) ∧
 M_path_letter ((s.getD t6.toNat 0).toNat : Int) (fun (t12 : Bool) =>
 (((!t12) = true → K false) ∧
 ((!t12) = false → (In .i64 (t6 + (1 : Int))) ∧
 k_1 (t6 + (1 : Int)))))) ∧
 (¬ (t6 < (s.length : Int)) → M_path_dots s (fun (t16 : Bool) =>
 K (!t16))))) (0 : Int)

def M_path_Valid (p : List UInt8) (K : Bool → Prop) : Prop :=
 (((200 : Int) < (p.length : Int) → K false) ∧
 (¬ ((200 : Int) < (p.length : Int)) → M_strings_Split p ([47] : List UInt8) (fun (t9 : List (List UInt8)) =>
 Lp1 (fun (t11 : Int) k_1 => ((t11 < (t9.length : Int) → (0 ≤ t11 ∧ t11 < (t9.length : Nat)) ∧
 M_path_fair (t9.getD t11.toNat []) (fun (t16 : Bool) =>
 (((!t16) = true → K false) ∧
 ((!t16) = false → (In .i64 (t11 + (1 : Int))) ∧
 k_1 (t11 + (1 : Int)))))) ∧
 (¬ (t11 < (t9.length : Int)) → K true))) (0 : Int))))

def M_path_Clean (p : List UInt8) (K : (List UInt8) → Er → Prop) : Prop :=
 M_strings_Split p ([47] : List UInt8) (fun (t9 : List (List UInt8)) =>
 Lp2 (fun (l : List (List UInt8)) (t11 : Int) k_1 => ((t11 < (t9.length : Int) → ∃ J1 : (List (List UInt8)) → Prop, ((0 ≤ t11 ∧ t11 < (t9.length : Nat)) ∧
 ((((decide ((t9.getD t11.toNat []) = ([] : List UInt8))) || (decide ((t9.getD t11.toNat []) = ([46] : List UInt8)))) = true → J1 l) ∧
 (((decide ((t9.getD t11.toNat []) = ([] : List UInt8))) || (decide ((t9.getD t11.toNat []) = ([46] : List UInt8)))) = false → ((((decide ((t9.getD t11.toNat []) = ([46, 46] : List UInt8))) && (decide ((0 : Int) < (l.length : Int)))) = true → (In .i64 ((l.length : Int) - (1 : Int))) ∧
 (0 ≤ (l.length : Int) - (1 : Int) ∧ (l.length : Int) - (1 : Int) ≤ (l.length : Nat)) ∧
 J1 (l.take ((l.length : Int) - (1 : Int)).toNat)) ∧
 (((decide ((t9.getD t11.toNat []) = ([46, 46] : List UInt8))) && (decide ((0 : Int) < (l.length : Int)))) = false → M_path_fair (t9.getD t11.toNat []) (fun (t41 : Bool) =>
 (((!t41) = true → K ([] : List UInt8) (Er.e 11)) ∧
 ((!t41) = false → ((l.length + (([t9.getD t11.toNat []] : List (List UInt8))).length) * 16 ≤ 140737488355328) ∧
 J1 (l ++ ([t9.getD t11.toNat []] : List (List UInt8))))))))))) ∧
 (∀ l2 : List (List UInt8), J1 l2 → (In .i64 (t11 + (1 : Int))) ∧
 k_1 l2 (t11 + (1 : Int)))) ∧
 (¬ (t11 < (t9.length : Int)) → M_strings_Join l ([47] : List UInt8) (fun (out : List UInt8) =>
 (((200 : Int) < (out.length : Int) → K ([] : List UInt8) (Er.e 11)) ∧
 (¬ ((200 : Int) < (out.length : Int)) → K out Er.ok)))))) [] (0 : Int))

def M_path_Join (l : List (List UInt8)) (K : (List UInt8) → Er → Prop) : Prop :=
 (l.length ≤ maxLen →
 M_strings_Join l ([47] : List UInt8) (fun (t5 : List UInt8) =>
 M_path_Clean t5 (fun (t60 : List UInt8) (t61 : Er) =>
 K t60 t61)))

def M_path_Dir (p : List UInt8) (K : (List UInt8) → Prop) : Prop :=
 M_strings_LastIndexByte p (47 : Int) (fun (t5 : Int) =>
 (0 ≤ (if t5 < (0 : Int) then (0 : Int) else t5) ∧ (if t5 < (0 : Int) then (0 : Int) else t5) ≤ p.length) ∧
 K (p.take (if t5 < (0 : Int) then (0 : Int) else t5).toNat))

def M_path_Base (p : List UInt8) (K : (List UInt8) → Prop) : Prop :=
 M_strings_LastIndexByte p (47 : Int) (fun (t5 : Int) =>
 (In .i64 (t5 + (1 : Int))) ∧
 (0 ≤ t5 + (1 : Int) ∧ t5 + (1 : Int) ≤ p.length) ∧
 K (p.drop (t5 + (1 : Int)).toNat))

def M_path_Under (p : List UInt8) (dir : List UInt8) (K : Bool → Prop) : Prop :=
 ((dir = ([] : List UInt8) → K (!decide (p = ([] : List UInt8)))) ∧
 (¬ (dir = ([] : List UInt8)) → (dir.length + ([47] : List UInt8).length ≤ 9223372036854775807) ∧
 M_strings_HasPrefix p (dir ++ ([47] : List UInt8)) (fun (t4 : Bool) =>
 K t4)))

def M_path_part (pat : List UInt8) (s : List UInt8) (K : Bool → Prop) : Prop :=
 (In .i64 ((s.length : Int) + (1 : Int))) ∧
 (0 ≤ (s.length : Int) + (1 : Int) ∧ ((s.length : Int) + (1 : Int)) * 1 ≤ 140737488355328 ∧ (s.length : Int) + (1 : Int) ≤ 140737488355328) ∧
 (0 ≤ (0 : Int) ∧ (0 : Int) < (((s.length : Int) + (1 : Int)).toNat : Nat)) ∧
 Lp2 (fun (met : List Bool) (t17 : Int) k_1 => ((t17 < (pat.length : Int) → (In .i64 ((s.length : Int) + (1 : Int))) ∧
 (0 ≤ (s.length : Int) + (1 : Int) ∧ ((s.length : Int) + (1 : Int)) * 1 ≤ 140737488355328 ∧ (s.length : Int) + (1 : Int) ≤ 140737488355328) ∧
 Lp2 (fun (t26 : Int) (next : List Bool) k_2 => ((s.length : Int) + (1 : Int)).toNat = next.length → ((t26 < (met.length : Int) → ∃ J1 : (List Bool) → Prop, ((0 ≤ t17 ∧ t17 < pat.length) ∧
 ((((pat.getD t17.toNat 0).toNat : Int) = (42 : Int) → (0 ≤ t26 ∧ t26 < (met.length : Nat)) ∧
 ((met.getD t26.toNat false) = false → (decide ((0 : Int) < t26)) = true → (In .i64 (t26 - (1 : Int)))) ∧
 ((met.getD t26.toNat false) = false → (decide ((0 : Int) < t26)) = true → (0 ≤ t26 - (1 : Int) ∧ t26 - (1 : Int) < (((s.length : Int) + (1 : Int)).toNat : Nat))) ∧
 (0 ≤ t26 ∧ t26 < (((s.length : Int) + (1 : Int)).toNat : Nat)) ∧
 J1 (next.set t26.toNat ((met.getD t26.toNat false) || ((decide ((0 : Int) < t26)) && (next.getD ((t26 - (1 : Int)).toNat) false))))) ∧
 (¬ (((pat.getD t17.toNat 0).toNat : Int) = (42 : Int)) → ((decide ((0 : Int) < t26)) = true → (In .i64 (t26 - (1 : Int)))) ∧
 ((decide ((0 : Int) < t26)) = true → (0 ≤ t26 - (1 : Int) ∧ t26 - (1 : Int) < (met.length : Nat))) ∧
 (((decide ((0 : Int) < t26)) && (met.getD ((t26 - (1 : Int)).toNat) false)) = true → (In .i64 (t26 - (1 : Int)))) ∧
 (((decide ((0 : Int) < t26)) && (met.getD ((t26 - (1 : Int)).toNat) false)) = true → (0 ≤ t26 - (1 : Int) ∧ t26 - (1 : Int) < s.length)) ∧
 (((decide ((0 : Int) < t26)) && (met.getD ((t26 - (1 : Int)).toNat) false)) = true → (0 ≤ t17 ∧ t17 < pat.length)) ∧
 (0 ≤ t26 ∧ t26 < (((s.length : Int) + (1 : Int)).toNat : Nat)) ∧
 J1 (next.set t26.toNat (((decide ((0 : Int) < t26)) && (met.getD ((t26 - (1 : Int)).toNat) false)) && (decide (((s.getD (t26 - (1 : Int)).toNat 0).toNat : Int) = ((pat.getD t17.toNat 0).toNat : Int)))))))) ∧
 (∀ xs : List Bool, J1 xs → ((s.length : Int) + (1 : Int)).toNat = xs.length → (In .i64 (t26 + (1 : Int))) ∧
 k_2 (t26 + (1 : Int)) xs)) ∧
 (¬ (t26 < (met.length : Int)) → (In .i64 (t17 + (1 : Int))) ∧
 k_1 next (t17 + (1 : Int))))) (0 : Int) (List.replicate ((s.length : Int) + (1 : Int)).toNat false)) ∧
 (¬ (t17 < (pat.length : Int)) → (0 ≤ (s.length : Int) ∧ (s.length : Int) < (met.length : Nat)) ∧
 K (met.getD ((s.length : Int).toNat) false)))) ((List.replicate ((s.length : Int) + (1 : Int)).toNat false).set 0 true) (0 : Int)

def M_path_parts (pat : List (List UInt8)) (l : List (List UInt8)) (K : Bool → Prop) : Prop :=
 (pat.length ≤ maxLen →
 (l.length ≤ maxLen →
 (In .i64 ((l.length : Int) + (1 : Int))) ∧
 (0 ≤ (l.length : Int) + (1 : Int) ∧ ((l.length : Int) + (1 : Int)) * 1 ≤ 140737488355328 ∧ (l.length : Int) + (1 : Int) ≤ 140737488355328) ∧
 (0 ≤ (0 : Int) ∧ (0 : Int) < (((l.length : Int) + (1 : Int)).toNat : Nat)) ∧
 Lp2 (fun (met : List Bool) (t18 : Int) k_1 => ((t18 < (pat.length : Int) → (0 ≤ t18 ∧ t18 < (pat.length : Nat)) ∧
 (In .i64 ((l.length : Int) + (1 : Int))) ∧
 (0 ≤ (l.length : Int) + (1 : Int) ∧ ((l.length : Int) + (1 : Int)) * 1 ≤ 140737488355328 ∧ (l.length : Int) + (1 : Int) ≤ 140737488355328) ∧
 Lp2 (fun (t28 : Int) (next : List Bool) k_2 => ((l.length : Int) + (1 : Int)).toNat = next.length → ((t28 < (met.length : Int) → ∃ J1 : (List Bool) → Prop, ((((pat.getD t18.toNat []) = ([42, 42] : List UInt8) → (0 ≤ t28 ∧ t28 < (met.length : Nat)) ∧
 ((met.getD t28.toNat false) = false → (decide ((0 : Int) < t28)) = true → (In .i64 (t28 - (1 : Int)))) ∧
 ((met.getD t28.toNat false) = false → (decide ((0 : Int) < t28)) = true → (0 ≤ t28 - (1 : Int) ∧ t28 - (1 : Int) < (((l.length : Int) + (1 : Int)).toNat : Nat))) ∧
 (0 ≤ t28 ∧ t28 < (((l.length : Int) + (1 : Int)).toNat : Nat)) ∧
 J1 (next.set t28.toNat ((met.getD t28.toNat false) || ((decide ((0 : Int) < t28)) && (next.getD ((t28 - (1 : Int)).toNat) false))))) ∧
 (¬ ((pat.getD t18.toNat []) = ([42, 42] : List UInt8)) → ((decide ((0 : Int) < t28)) = true → (In .i64 (t28 - (1 : Int)))) ∧
 ((decide ((0 : Int) < t28)) = true → (0 ≤ t28 - (1 : Int) ∧ t28 - (1 : Int) < (met.length : Nat))) ∧
 ∃ J2 : Bool → Prop, (((((decide ((0 : Int) < t28)) && (met.getD ((t28 - (1 : Int)).toNat) false)) = true → (In .i64 (t28 - (1 : Int))) ∧
 (0 ≤ t28 - (1 : Int) ∧ t28 - (1 : Int) < (l.length : Nat)) ∧
 M_path_part (pat.getD t18.toNat []) (l.getD ((t28 - (1 : Int)).toNat) []) (fun (t69 : Bool) =>
 J2 t69)) ∧
 (((decide ((0 : Int) < t28)) && (met.getD ((t28 - (1 : Int)).toNat) false)) = false → J2 false))) ∧
 (∀ q3 : Bool, J2 q3 → (0 ≤ t28 ∧ t28 < (((l.length : Int) + (1 : Int)).toNat : Nat)) ∧
 J1 (next.set t28.toNat q3))))) ∧
 (∀ xs : List Bool, J1 xs → ((l.length : Int) + (1 : Int)).toNat = xs.length → (In .i64 (t28 + (1 : Int))) ∧
 k_2 (t28 + (1 : Int)) xs)) ∧
 (¬ (t28 < (met.length : Int)) → (In .i64 (t18 + (1 : Int))) ∧
 k_1 next (t18 + (1 : Int))))) (0 : Int) (List.replicate ((l.length : Int) + (1 : Int)).toNat false)) ∧
 (¬ (t18 < (pat.length : Int)) → (0 ≤ (l.length : Int) ∧ (l.length : Int) < (met.length : Nat)) ∧
 K (met.getD ((l.length : Int).toNat) false)))) ((List.replicate ((l.length : Int) + (1 : Int)).toNat false).set 0 true) (0 : Int)))

def M_path_pattern (s : List UInt8) (K : (List (List UInt8)) → Bool → Prop) : Prop :=
 M_strings_Split s ([47] : List UInt8) (fun (l : List (List UInt8)) =>
 Lp1 (fun (t11 : Int) k_1 => ((t11 < (l.length : Int) → (0 ≤ t11 ∧ t11 < (l.length : Nat)) ∧
 M_strings_Contains (l.getD t11.toNat []) ([42, 42] : List UInt8) (fun (t16 : Bool) =>
 ∃ J1 : Bool → Prop, ((((t16 && (!decide ((l.getD t11.toNat []) = ([42, 42] : List UInt8)))) = true → J1 true) ∧
 ((t16 && (!decide ((l.getD t11.toNat []) = ([42, 42] : List UInt8)))) = false → M_path_dots (l.getD t11.toNat []) (fun (t23 : Bool) =>
 J1 t23)))) ∧
 (∀ q2 : Bool, J1 q2 → ∃ J2 : Bool → Prop, (((q2 = true → J2 true) ∧
 (q2 = false → M_strings_ReplaceAll (l.getD t11.toNat []) ([42] : List UInt8) ([95] : List UInt8) (fun (t27 : List UInt8) =>
 M_path_fair t27 (fun (t28 : Bool) =>
 J2 (!t28)))))) ∧
 (∀ q3 : Bool, J2 q3 → ((q3 = true → K [] false) ∧
 (q3 = false → (In .i64 (t11 + (1 : Int))) ∧
 k_1 (t11 + (1 : Int)))))))) ∧
 (¬ (t11 < (l.length : Int)) → K l (decide ((s.length : Int) ≤ (200 : Int)))))) (0 : Int))

def M_path_Match (pat : List UInt8) (p : List UInt8) (K : Bool → Er → Prop) : Prop :=
 M_path_pattern pat (fun (t100 : List (List UInt8)) (t101 : Bool) =>
 (((!t101) = true → K false (Er.e 11)) ∧
 ((!t101) = false → M_path_Valid p (fun (t17 : Bool) =>
 ∃ J1 : Bool → Prop, (((t17 = true → M_strings_Split p ([47] : List UInt8) (fun (t21 : List (List UInt8)) =>
 M_path_parts t100 t21 (fun (t22 : Bool) =>
 J1 t22))) ∧
 (t17 = false → J1 false))) ∧
 (∀ q1 : Bool, J1 q1 → K q1 Er.ok)))))

set_option maxHeartbeats 8000000 in
theorem W_internal_bytealg_LastIndexByteString {w : World} {s : List UInt8} {c : Int} {K : Int → Prop} (H : M_internal_bytealg_LastIndexByteString s c K) : Fn Tryd.prog 113 ⟨[vs s, .int .u8 c]⟩ w (fun v w' => w = w' ∧ ∃ (r : Int), v = .int .i64 r ∧ K r) := by
  unfold M_internal_bytealg_LastIndexByteString at H
  refine Fn.enter (by kernel_rfl) Tryd.func113 rfl Tryd.ntmps113 rfl ?_
  refine WC.seq ?_
  refine WC.region ?_
  refine WL.y rfl (Yld.pure tab_ok rfl) ?_
  refine WL.nil (WX.then_normal ?_)
  refine WC.seq ?_
  refine WC.seq ?_
  refine WC.region ?_
  refine WL.y rfl (Yld.pure tab_ok rfl) ?_
  refine WL.y rfl (Yld.pure tab_ok rfl) ?_
  obtain ⟨h1, H⟩ := H
  refine WL.y rfl (Yld.sub rfl rfl h1) ?_
  refine WL.y rfl (Yld.pure tab_ok rfl) ?_
  refine WL.nil (WX.then_normal ?_)
  refine WC.block ?_
  obtain ⟨I1, mu1, h0_1, HR1⟩ := H
  refine WC.loopF (fun n' L' w' => ∃ (i : Int), n' = mu1 i ∧ L' = [(0, vs s), (1, .int .u8 c), (5, .int .i64 i)] ∧ I1 i ∧ w = w') _ _ ⟨(s.length : Int) - (1 : Int), rfl, rfl, h0_1, rfl⟩ (by repeat (first | exact Sub.nil | refine Sub.cons rfl ?_)) ?_
  clear h0_1
  rintro _ _ _ ⟨i, rfl, rfl, hI1, rfl⟩
  have H := HR1 i hI1
  refine WC.seq ?_
  refine WC.seq ?_
  refine WC.region ?_
  refine WL.y rfl (Yld.pure tab_ok rfl) ?_
  refine WL.y rfl (Yld.pure tab_ok rfl) ?_
  refine WL.nil (WX.then_normal ?_)
  refine WC.cond rfl (fun b1 => ?_) (fun b1 => ?_)
  · replace H := H.1 (of_decide_eq_true b1)
    refine WC.skip (WX.then_normal ?_)
    refine WC.seq ?_
    refine WC.block ?_
    refine WC.seq ?_
    refine WC.region ?_
    refine WL.y rfl (Yld.pure tab_ok rfl) ?_
    refine WL.y rfl (Yld.pure tab_ok rfl) ?_
    obtain ⟨h2, H⟩ := H
    refine WL.y rfl (Yld.sidx tab_ok rfl rfl rfl h2.1 h2.2) ?_
    refine WL.y rfl (Yld.pure tab_ok rfl) ?_
    refine WL.y rfl (Yld.pure tab_ok rfl) ?_
    refine WL.nil (WX.then_normal ?_)
    refine WC.cond rfl (fun b2 => ?_) (fun b2 => ?_)
    · replace H := H.1 (of_decide_eq_true b2)
      refine WC.seq ?_
      refine WC.region ?_
      refine WL.y rfl (Yld.pure tab_ok rfl) ?_
      refine WL.y rfl (Yld.pure tab_ok rfl) ?_
      refine WL.nil (WX.then_normal ?_)
      refine WC.ret (WX.block_ret (WX.then_ret (WX.then_ret (WX.block_ret (WX.then_ret ?_)))))
      exact WX.ret1 rfl rfl ⟨rfl, i, rfl, H⟩
    · replace H := H.2 (of_decide_eq_false b2)
      refine WC.skip (WX.block_normal (WX.then_normal ?_))
      refine WC.region ?_
      refine WL.y rfl (Yld.pure tab_ok rfl) ?_
      obtain ⟨h3, H⟩ := H
      refine WL.y rfl (Yld.sub rfl rfl h3) ?_
      refine WL.y rfl (Yld.pure tab_ok rfl) ?_
      refine WL.nil ?_
      exact WX.roundF _ ⟨i - (1 : Int), rfl, rfl, H.1, rfl⟩ (by repeat (first | exact Sub.nil | refine Sub.cons rfl ?_)) H.2
  · replace H := H.2 (of_decide_eq_false b1)
    refine WC.exit (WX.then_exit (WX.then_exit (WX.block_same (WX.then_normal ?_))))
    refine WC.seq ?_
    refine WC.region ?_
    refine WL.y rfl (Yld.pure tab_ok rfl) ?_
    refine WL.nil (WX.then_normal ?_)
    refine WC.ret ?_
    exact WX.ret1 rfl rfl ⟨rfl, (-1 : Int), rfl, H⟩

set_option maxHeartbeats 8000000 in
theorem W_strings_LastIndexByte {w : World} {s : List UInt8} {c : Int} {K : Int → Prop} (H : M_strings_LastIndexByte s c K) : Fn Tryd.prog 79 ⟨[vs s, .int .u8 c]⟩ w (fun v w' => w = w' ∧ ∃ (r : Int), v = .int .i64 r ∧ K r) := by
  unfold M_strings_LastIndexByte at H
  refine Fn.enter (by kernel_rfl) Tryd.func79 rfl Tryd.ntmps79 rfl ?_
  refine WC.seq ?_
  refine WC.region ?_
  refine WL.y rfl (Yld.pure tab_ok rfl) ?_
  refine WL.nil (WX.then_normal ?_)
  refine WC.seq ?_
  refine WC.region ?_
  refine WL.y rfl (Yld.pure tab_ok rfl) ?_
  refine WL.y rfl (Yld.pure tab_ok rfl) ?_
  refine WL.call rfl rfl (W_internal_bytealg_LastIndexByteString H) ?_
  rintro _ _ ⟨rfl, t4, rfl, H⟩
  refine WL.y rfl (Yld.pure tab_ok rfl) ?_
  refine WL.nil (WX.then_normal ?_)
  refine WC.ret ?_
  exact WX.ret1 rfl rfl ⟨rfl, t4, rfl, H⟩

set_option maxHeartbeats 8000000 in
theorem W_internal_stringslite_HasPrefix {w : World} {s : List UInt8} {prefix_ : List UInt8} {K : Bool → Prop} (H : M_internal_stringslite_HasPrefix s prefix_ K) : Fn Tryd.prog 117 ⟨[vs s, vs prefix_]⟩ w (fun v w' => w = w' ∧ ∃ (r : Bool), v = .bool r ∧ K r) := by
  unfold M_internal_stringslite_HasPrefix at H
  refine Fn.enter (by kernel_rfl) Tryd.func117 rfl Tryd.ntmps117 rfl ?_
  refine WC.seq ?_
  refine WC.region ?_
  refine WL.y rfl (Yld.pure tab_ok rfl) ?_
  refine WL.nil (WX.then_normal ?_)
  refine WC.seq ?_
  refine WC.region ?_
  refine WL.y rfl (Yld.pure tab_ok rfl) ?_
  refine WL.y rfl (Yld.pure tab_ok rfl) ?_
  refine WL.y rfl (Yld.pure tab_ok rfl) ?_
  refine WL.y rfl (Yld.pure tab_ok rfl) ?_
  refine WL.y rfl (Yld.pure tab_ok rfl) ?_
  refine WL.y rfl (Yld.pure tab_ok rfl) ?_
  obtain ⟨h1, H⟩ := H
  refine WL.midF 7 (fun L' w' => ∃ q1 : Bool, L' = [(17, .bool q1)] ∧ q1 = ((decide ((prefix_.length : Int) ≤ (s.length : Int))) && (decide ((s.take (prefix_.length : Int).toNat) = prefix_))) ∧ w = w') ?_ (fun hQ => ?_)
  · rintro _ _ ⟨q1, rfl, rfl, rfl⟩
    refine WL.y rfl (Yld.pure tab_ok rfl) ?_
    refine WL.nil (WX.then_normal ?_)
    refine WC.ret ?_
    exact WX.ret1 rfl rfl ⟨rfl, (decide ((prefix_.length : Int) ≤ (s.length : Int))) && (decide ((s.take (prefix_.length : Int).toNat) = prefix_)), rfl, H⟩
  · clear H
    rcases Bool.eq_false_or_eq_true (decide ((prefix_.length : Int) ≤ (s.length : Int))) with b1 | b1
    · refine WL.gyes rfl rfl (okb b1) rfl (Yld.pure tab_ok rfl) ?_
      refine WL.gyes rfl rfl (okb b1) rfl (Yld.pure tab_ok rfl) ?_
      refine WL.gyes rfl rfl (okb b1) rfl (Yld.pure tab_ok rfl) ?_
      refine WL.gyes rfl rfl (okb b1) rfl (Yld.scut tab_ok rfl rfl rfl rfl (Int.le_refl 0) (h1 b1).1 (h1 b1).2) ?_
      refine WL.gyes rfl rfl (okb b1) rfl (Yld.pure tab_ok rfl) ?_
      refine WL.gyes rfl rfl (okb b1) rfl (Yld.pure tab_ok rfl) ?_
      refine WL.y rfl (Yld.pickT (okb b1) rfl) ?_
      exact WL.weaken (by repeat (first | exact Sub.nil | refine Sub.cons rfl ?_)) (hQ _ _ ⟨decide ((s.take (prefix_.length : Int).toNat) = prefix_), rfl, by rw [b1] <;> rfl, rfl⟩)
    · refine WL.gno rfl rfl (okb b1) rfl ?_
      refine WL.gno rfl rfl (okb b1) rfl ?_
      refine WL.gno rfl rfl (okb b1) rfl ?_
      refine WL.gno rfl rfl (okb b1) rfl ?_
      refine WL.gno rfl rfl (okb b1) rfl ?_
      refine WL.gno rfl rfl (okb b1) rfl ?_
      refine WL.y rfl (Yld.pickF (okb b1) rfl) ?_
      exact WL.weaken (by repeat (first | exact Sub.nil | refine Sub.cons rfl ?_)) (hQ _ _ ⟨false, rfl, by rw [b1] <;> rfl, rfl⟩)

set_option maxHeartbeats 8000000 in
theorem W_strings_HasPrefix {w : World} {s : List UInt8} {prefix_ : List UInt8} {K : Bool → Prop} (H : M_strings_HasPrefix s prefix_ K) : Fn Tryd.prog 82 ⟨[vs s, vs prefix_]⟩ w (fun v w' => w = w' ∧ ∃ (r : Bool), v = .bool r ∧ K r) := by
  unfold M_strings_HasPrefix at H
  refine Fn.enter (by kernel_rfl) Tryd.func82 rfl Tryd.ntmps82 rfl ?_
  refine WC.seq ?_
  refine WC.region ?_
  refine WL.y rfl (Yld.pure tab_ok rfl) ?_
  refine WL.nil (WX.then_normal ?_)
  refine WC.seq ?_
  refine WC.region ?_
  refine WL.y rfl (Yld.pure tab_ok rfl) ?_
  refine WL.y rfl (Yld.pure tab_ok rfl) ?_
  refine WL.call rfl rfl (W_internal_stringslite_HasPrefix H) ?_
  rintro _ _ ⟨rfl, t4, rfl, H⟩
  refine WL.y rfl (Yld.pure tab_ok rfl) ?_
  refine WL.nil (WX.then_normal ?_)
  refine WC.ret ?_
  exact WX.ret1 rfl rfl ⟨rfl, t4, rfl, H⟩

set_option maxHeartbeats 8000000 in
theorem W_internal_stringslite_CutPrefix {w : World} {s : List UInt8} {prefix_ : List UInt8} {K : (List UInt8) → Bool → Prop} (H : M_internal_stringslite_CutPrefix s prefix_ K) : Fn Tryd.prog 104 ⟨[vs s, vs prefix_]⟩ w (fun v w' => w = w' ∧ ∃ (r0 : List UInt8), ∃ (r1 : Bool), v = .tuple #[vs r0, .bool r1] ∧ K r0 r1) := by
  unfold M_internal_stringslite_CutPrefix at H
  refine Fn.enter (by kernel_rfl) Tryd.func104 rfl Tryd.ntmps104 rfl ?_
  refine WC.seq ?_
  refine WC.region ?_
  refine WL.y rfl (Yld.pure tab_ok rfl) ?_
  refine WL.y rfl (Yld.pure tab_ok rfl) ?_
  refine WL.nil (WX.then_normal ?_)
  refine WC.seq ?_
  refine WC.seq ?_
  refine WC.region ?_
  refine WL.y rfl (Yld.pure tab_ok rfl) ?_
  refine WL.y rfl (Yld.pure tab_ok rfl) ?_
  refine WL.call rfl rfl (W_internal_stringslite_HasPrefix H) ?_
  rintro _ _ ⟨rfl, t8, rfl, H⟩
  refine WL.y rfl (Yld.pure tab_ok rfl) ?_
  refine WL.nil (WX.then_normal ?_)
  refine WC.cond rfl (fun b1 => ?_) (fun b1 => ?_)
  · replace H := H.1 (b1)
    refine WC.seq ?_
    refine WC.region ?_
    refine WL.y rfl (Yld.pure tab_ok rfl) ?_
    refine WL.y rfl (Yld.pure tab_ok rfl) ?_
    refine WL.y rfl (Yld.pure tab_ok rfl) ?_
    refine WL.nil (WX.then_normal ?_)
    refine WC.ret (WX.then_ret ?_)
    exact WX.ret2 rfl rfl rfl ⟨rfl, s, false, rfl, H⟩
  · replace H := H.2 (b1)
    refine WC.skip (WX.then_normal ?_)
    refine WC.seq ?_
    refine WC.region ?_
    refine WL.y rfl (Yld.pure tab_ok rfl) ?_
    refine WL.y rfl (Yld.pure tab_ok rfl) ?_
    refine WL.y rfl (Yld.pure tab_ok rfl) ?_
    obtain ⟨h1, H⟩ := H
    refine WL.y rfl (Yld.scutF tab_ok rfl rfl rfl h1.1 h1.2) ?_
    refine WL.y rfl (Yld.pure tab_ok rfl) ?_
    refine WL.y rfl (Yld.pure tab_ok rfl) ?_
    refine WL.nil (WX.then_normal ?_)
    refine WC.ret ?_
    exact WX.ret2 rfl rfl rfl ⟨rfl, s.drop (prefix_.length : Int).toNat, true, rfl, H⟩

set_option maxHeartbeats 8000000 in
theorem W_strings_CutPrefix {w : World} {s : List UInt8} {prefix_ : List UInt8} {K : (List UInt8) → Bool → Prop} (H : M_strings_CutPrefix s prefix_ K) : Fn Tryd.prog 71 ⟨[vs s, vs prefix_]⟩ w (fun v w' => w = w' ∧ ∃ (r0 : List UInt8), ∃ (r1 : Bool), v = .tuple #[vs r0, .bool r1] ∧ K r0 r1) := by
  unfold M_strings_CutPrefix at H
  refine Fn.enter (by kernel_rfl) Tryd.func71 rfl Tryd.ntmps71 rfl ?_
  refine WC.seq ?_
  refine WC.region ?_
  refine WL.y rfl (Yld.pure tab_ok rfl) ?_
  refine WL.y rfl (Yld.pure tab_ok rfl) ?_
  refine WL.nil (WX.then_normal ?_)
  refine WC.seq ?_
  refine WC.region ?_
  refine WL.y rfl (Yld.pure tab_ok rfl) ?_
  refine WL.y rfl (Yld.pure tab_ok rfl) ?_
  refine WL.call rfl rfl (W_internal_stringslite_CutPrefix H) ?_
  rintro _ _ ⟨rfl, t80, t81, rfl, H⟩
  refine WL.y rfl (Yld.pure tab_ok rfl) ?_
  refine WL.y rfl (Yld.pure tab_ok rfl) ?_
  refine WL.y rfl (Yld.pure tab_ok rfl) ?_
  refine WL.y rfl (Yld.pure tab_ok rfl) ?_
  refine WL.nil (WX.then_normal ?_)
  refine WC.ret ?_
  exact WX.ret2 rfl rfl rfl ⟨rfl, t80, t81, rfl, H⟩

set_option maxHeartbeats 8000000 in
theorem W_path_letter {w : World} {c : Int} {K : Bool → Prop} (H : M_path_letter c K) : Fn Tryd.prog 111 ⟨[.int .u8 c]⟩ w (fun v w' => w = w' ∧ ∃ (r : Bool), v = .bool r ∧ K r) := by
  unfold M_path_letter at H
  refine Fn.enter (by kernel_rfl) Tryd.func111 rfl Tryd.ntmps111 rfl ?_
  refine WC.seq ?_
  refine WC.region ?_
  refine WL.y rfl (Yld.pure tab_ok rfl) ?_
  refine WL.nil (WX.then_normal ?_)
  refine WC.seq ?_
  refine WC.seq ?_
  refine WC.region ?_
  refine WL.y rfl (Yld.pure tab_ok rfl) ?_
  refine WL.y rfl (Yld.pure tab_ok rfl) ?_
  refine WL.y rfl (Yld.pure tab_ok rfl) ?_
  refine WL.midF 3 (fun L' w' => ∃ q1 : Bool, L' = [(8, .bool q1), (0, .int .u8 c)] ∧ q1 = ((decide ((48 : Int) ≤ c)) && (decide (c ≤ (57 : Int)))) ∧ w = w') ?_ (fun hQ => ?_)
  · rintro _ _ ⟨q1, rfl, rfl, rfl⟩
    refine WL.y rfl (Yld.pure tab_ok rfl) ?_
    refine WL.midF 7 (fun L' w' => ∃ q2 : Bool, L' = [(16, .bool q2), (0, .int .u8 c)] ∧ q2 = (((decide ((48 : Int) ≤ c)) && (decide (c ≤ (57 : Int)))) || ((decide ((65 : Int) ≤ c)) && (decide (c ≤ (90 : Int))))) ∧ w = w') ?_ (fun hQ => ?_)
    · rintro _ _ ⟨q2, rfl, rfl, rfl⟩
      refine WL.y rfl (Yld.pure tab_ok rfl) ?_
      refine WL.midF 7 (fun L' w' => ∃ q3 : Bool, L' = [(24, .bool q3), (0, .int .u8 c)] ∧ q3 = ((((decide ((48 : Int) ≤ c)) && (decide (c ≤ (57 : Int)))) || ((decide ((65 : Int) ≤ c)) && (decide (c ≤ (90 : Int))))) || ((decide ((97 : Int) ≤ c)) && (decide (c ≤ (122 : Int))))) ∧ w = w') ?_ (fun hQ => ?_)
      · rintro _ _ ⟨q3, rfl, rfl, rfl⟩
        refine WL.nil (WX.then_normal ?_)
        refine WC.cond rfl (fun b1 => ?_) (fun b1 => ?_)
        · replace H := H.1 (b1)
          refine WC.seq ?_
          refine WC.region ?_
          refine WL.y rfl (Yld.pure tab_ok rfl) ?_
          refine WL.nil (WX.then_normal ?_)
          refine WC.ret (WX.then_ret ?_)
          exact WX.ret1 rfl rfl ⟨rfl, true, rfl, H⟩
        · replace H := H.2 (b1)
          refine WC.skip (WX.then_normal ?_)
          refine WC.seq ?_
          refine WC.region ?_
          refine WL.y rfl (Yld.pure tab_ok rfl) ?_
          refine WL.call rfl rfl (W_strings_IndexByte H) ?_
          rintro _ _ ⟨rfl, t26, rfl, H⟩
          refine WL.y rfl (Yld.pure tab_ok rfl) ?_
          refine WL.y rfl (Yld.pure tab_ok rfl) ?_
          refine WL.nil (WX.then_normal ?_)
          refine WC.ret ?_
          exact WX.ret1 rfl rfl ⟨rfl, decide ((0 : Int) ≤ t26), rfl, H⟩
      · clear H
        rcases Bool.eq_false_or_eq_true (((decide ((48 : Int) ≤ c)) && (decide (c ≤ (57 : Int)))) || ((decide ((65 : Int) ≤ c)) && (decide (c ≤ (90 : Int))))) with b2 | b2
        · refine WL.gno rfl rfl (okb b2) rfl ?_
          refine WL.gno rfl rfl (okb b2) rfl ?_
          refine WL.gno rfl rfl (okb b2) rfl ?_
          refine WL.gun rfl rfl rfl rfl ?_
          refine WL.gun rfl rfl rfl rfl ?_
          refine WL.gno rfl rfl (okb b2) rfl ?_
          refine WL.y rfl (Yld.pickT (okb b2) rfl) ?_
          exact WL.weaken (by repeat (first | exact Sub.nil | refine Sub.cons rfl ?_)) (hQ _ _ ⟨true, rfl, by rw [b2] <;> rfl, rfl⟩)
        · refine WL.gyes rfl rfl (okb b2) rfl (Yld.pure tab_ok rfl) ?_
          refine WL.gyes rfl rfl (okb b2) rfl (Yld.pure tab_ok rfl) ?_
          refine WL.gyes rfl rfl (okb b2) rfl (Yld.pure tab_ok rfl) ?_
          rcases Bool.eq_false_or_eq_true (decide ((97 : Int) ≤ c)) with b3 | b3
          · refine WL.gyes rfl rfl (okb b3) rfl (Yld.pure tab_ok rfl) ?_
            refine WL.gyes rfl rfl (okb b3) rfl (Yld.pure tab_ok rfl) ?_
            refine WL.gyes rfl rfl (okb b2) rfl (Yld.pickT (okb b3) rfl) ?_
            refine WL.y rfl (Yld.pickF (okb b2) rfl) ?_
            exact WL.weaken (by repeat (first | exact Sub.nil | refine Sub.cons rfl ?_)) (hQ _ _ ⟨decide (c ≤ (122 : Int)), rfl, by rw [b2, b3] <;> rfl, rfl⟩)
          · refine WL.gno rfl rfl (okb b3) rfl ?_
            refine WL.gno rfl rfl (okb b3) rfl ?_
            refine WL.gyes rfl rfl (okb b2) rfl (Yld.pickF (okb b3) rfl) ?_
            refine WL.y rfl (Yld.pickF (okb b2) rfl) ?_
            exact WL.weaken (by repeat (first | exact Sub.nil | refine Sub.cons rfl ?_)) (hQ _ _ ⟨false, rfl, by rw [b2, b3] <;> rfl, rfl⟩)
    · clear H
      rcases Bool.eq_false_or_eq_true ((decide ((48 : Int) ≤ c)) && (decide (c ≤ (57 : Int)))) with b4 | b4
      · refine WL.gno rfl rfl (okb b4) rfl ?_
        refine WL.gno rfl rfl (okb b4) rfl ?_
        refine WL.gno rfl rfl (okb b4) rfl ?_
        refine WL.gun rfl rfl rfl rfl ?_
        refine WL.gun rfl rfl rfl rfl ?_
        refine WL.gno rfl rfl (okb b4) rfl ?_
        refine WL.y rfl (Yld.pickT (okb b4) rfl) ?_
        exact WL.weaken (by repeat (first | exact Sub.nil | refine Sub.cons rfl ?_)) (hQ _ _ ⟨true, rfl, by rw [b4] <;> rfl, rfl⟩)
      · refine WL.gyes rfl rfl (okb b4) rfl (Yld.pure tab_ok rfl) ?_
        refine WL.gyes rfl rfl (okb b4) rfl (Yld.pure tab_ok rfl) ?_
        refine WL.gyes rfl rfl (okb b4) rfl (Yld.pure tab_ok rfl) ?_
        rcases Bool.eq_false_or_eq_true (decide ((65 : Int) ≤ c)) with b5 | b5
        · refine WL.gyes rfl rfl (okb b5) rfl (Yld.pure tab_ok rfl) ?_
          refine WL.gyes rfl rfl (okb b5) rfl (Yld.pure tab_ok rfl) ?_
          refine WL.gyes rfl rfl (okb b4) rfl (Yld.pickT (okb b5) rfl) ?_
          refine WL.y rfl (Yld.pickF (okb b4) rfl) ?_
          exact WL.weaken (by repeat (first | exact Sub.nil | refine Sub.cons rfl ?_)) (hQ _ _ ⟨decide (c ≤ (90 : Int)), rfl, by rw [b4, b5] <;> rfl, rfl⟩)
        · refine WL.gno rfl rfl (okb b5) rfl ?_
          refine WL.gno rfl rfl (okb b5) rfl ?_
          refine WL.gyes rfl rfl (okb b4) rfl (Yld.pickF (okb b5) rfl) ?_
          refine WL.y rfl (Yld.pickF (okb b4) rfl) ?_
          exact WL.weaken (by repeat (first | exact Sub.nil | refine Sub.cons rfl ?_)) (hQ _ _ ⟨false, rfl, by rw [b4, b5] <;> rfl, rfl⟩)
  · clear H
    rcases Bool.eq_false_or_eq_true (decide ((48 : Int) ≤ c)) with b6 | b6
    · refine WL.gyes rfl rfl (okb b6) rfl (Yld.pure tab_ok rfl) ?_
      refine WL.gyes rfl rfl (okb b6) rfl (Yld.pure tab_ok rfl) ?_
      refine WL.y rfl (Yld.pickT (okb b6) rfl) ?_
      exact WL.weaken (by repeat (first | exact Sub.nil | refine Sub.cons rfl ?_)) (hQ _ _ ⟨decide (c ≤ (57 : Int)), rfl, by rw [b6] <;> rfl, rfl⟩)
    · refine WL.gno rfl rfl (okb b6) rfl ?_
      refine WL.gno rfl rfl (okb b6) rfl ?_
      refine WL.y rfl (Yld.pickF (okb b6) rfl) ?_
      exact WL.weaken (by repeat (first | exact Sub.nil | refine Sub.cons rfl ?_)) (hQ _ _ ⟨false, rfl, by rw [b6] <;> rfl, rfl⟩)

set_option maxHeartbeats 8000000 in
theorem W_path_dots {w : World} {s : List UInt8} {K : Bool → Prop} (H : M_path_dots s K) : Fn Tryd.prog 112 ⟨[vs s]⟩ w (fun v w' => w = w' ∧ ∃ (r : Bool), v = .bool r ∧ K r) := by
  unfold M_path_dots at H
  refine Fn.enter (by kernel_rfl) Tryd.func112 rfl Tryd.ntmps112 rfl ?_
  refine WC.seq ?_
  refine WC.region ?_
  refine WL.y rfl (Yld.pure tab_ok rfl) ?_
  refine WL.nil (WX.then_normal ?_)
  refine WC.seq ?_
  refine WC.region ?_
  refine WL.y rfl (Yld.pure tab_ok rfl) ?_
  refine WL.y rfl (Yld.pure tab_ok rfl) ?_
  refine WL.y rfl (Yld.pure tab_ok rfl) ?_
  refine WL.midF 3 (fun L' w' => ∃ q1 : Bool, L' = [(8, .bool q1), (0, vs s)] ∧ q1 = ((decide (s = ([] : List UInt8))) || (decide (s = ([46] : List UInt8)))) ∧ w = w') ?_ (fun hQ => ?_)
  · rintro _ _ ⟨q1, rfl, rfl, rfl⟩
    refine WL.y rfl (Yld.pure tab_ok rfl) ?_
    refine WL.midF 3 (fun L' w' => ∃ q2 : Bool, L' = [(12, .bool q2)] ∧ q2 = (((decide (s = ([] : List UInt8))) || (decide (s = ([46] : List UInt8)))) || (decide (s = ([46, 46] : List UInt8)))) ∧ w = w') ?_ (fun hQ => ?_)
    · rintro _ _ ⟨q2, rfl, rfl, rfl⟩
      refine WL.y rfl (Yld.pure tab_ok rfl) ?_
      refine WL.nil (WX.then_normal ?_)
      refine WC.ret ?_
      exact WX.ret1 rfl rfl ⟨rfl, ((decide (s = ([] : List UInt8))) || (decide (s = ([46] : List UInt8)))) || (decide (s = ([46, 46] : List UInt8))), rfl, H⟩
    · clear H
      rcases Bool.eq_false_or_eq_true ((decide (s = ([] : List UInt8))) || (decide (s = ([46] : List UInt8)))) with b1 | b1
      · refine WL.gno rfl rfl (okb b1) rfl ?_
        refine WL.gno rfl rfl (okb b1) rfl ?_
        refine WL.y rfl (Yld.pickT (okb b1) rfl) ?_
        exact WL.weaken (by repeat (first | exact Sub.nil | refine Sub.cons rfl ?_)) (hQ _ _ ⟨true, rfl, by rw [b1] <;> rfl, rfl⟩)
      · refine WL.gyes rfl rfl (okb b1) rfl (Yld.pure tab_ok rfl) ?_
        refine WL.gyes rfl rfl (okb b1) rfl (Yld.pure tab_ok rfl) ?_
        refine WL.y rfl (Yld.pickF (okb b1) rfl) ?_
        exact WL.weaken (by repeat (first | exact Sub.nil | refine Sub.cons rfl ?_)) (hQ _ _ ⟨decide (s = ([46, 46] : List UInt8)), rfl, by rw [b1] <;> rfl, rfl⟩)
  · clear H
    rcases Bool.eq_false_or_eq_true (decide (s = ([] : List UInt8))) with b2 | b2
    · refine WL.gno rfl rfl (okb b2) rfl ?_
      refine WL.gno rfl rfl (okb b2) rfl ?_
      refine WL.y rfl (Yld.pickT (okb b2) rfl) ?_
      exact WL.weaken (by repeat (first | exact Sub.nil | refine Sub.cons rfl ?_)) (hQ _ _ ⟨true, rfl, by rw [b2] <;> rfl, rfl⟩)
    · refine WL.gyes rfl rfl (okb b2) rfl (Yld.pure tab_ok rfl) ?_
      refine WL.gyes rfl rfl (okb b2) rfl (Yld.pure tab_ok rfl) ?_
      refine WL.y rfl (Yld.pickF (okb b2) rfl) ?_
      exact WL.weaken (by repeat (first | exact Sub.nil | refine Sub.cons rfl ?_)) (hQ _ _ ⟨decide (s = ([46] : List UInt8)), rfl, by rw [b2] <;> rfl, rfl⟩)

set_option maxHeartbeats 8000000 in
theorem W_path_fair {w : World} {s : List UInt8} {K : Bool → Prop} (H : M_path_fair s K) : Fn Tryd.prog 78 ⟨[vs s]⟩ w (fun v w' => w = w' ∧ ∃ (r : Bool), v = .bool r ∧ K r) := by
  unfold M_path_fair at H
  refine Fn.enter (by kernel_rfl) Tryd.func78 rfl Tryd.ntmps78 rfl ?_
  refine WC.seq ?_
  refine WC.region ?_
  refine WL.y rfl (Yld.pure tab_ok rfl) ?_
  refine WL.nil (WX.then_normal ?_)
  refine WC.seq ?_
  refine WC.seq ?_
  refine WC.region ?_
  refine WL.y rfl (Yld.pure tab_ok rfl) ?_
  refine WL.y rfl (Yld.pure tab_ok rfl) ?_
  refine WL.y rfl (Yld.pure tab_ok rfl) ?_
  refine WL.nil (WX.then_normal ?_)
  refine WC.block ?_
  obtain ⟨I1, mu1, h0_1, HR1⟩ := H
  refine WC.loopF (fun n' L' w' => ∃ (t6 : Int), n' = mu1 t6 ∧ L' = [(0, vs s), (5, .int .i64 (s.length : Int)), (6, .int .i64 t6)] ∧ I1 t6 ∧ w = w') _ _ ⟨(0 : Int), rfl, rfl, h0_1, rfl⟩ (by repeat (first | exact Sub.nil | refine Sub.cons rfl ?_)) ?_
  clear h0_1
  rintro _ _ _ ⟨t6, rfl, rfl, hI1, rfl⟩
  have H := HR1 t6 hI1
  refine WC.seq ?_
  refine WC.region ?_
  refine WL.y rfl (Yld.pure tab_ok rfl) ?_
  refine WL.nil (WX.then_normal ?_)
  refine WC.seq ?_
  refine WC.cond rfl (fun b1 => ?_) (fun b1 => ?_)
  · replace H := H.1 (of_decide_eq_true b1)
    refine WC.skip (WX.then_normal ?_)
    refine WC.seq ?_
    refine WC.block ?_
    refine WC.seq ?_
    refine WC.region ?_
    refine WL.y rfl (Yld.pure tab_ok rfl) ?_
    refine WL.y rfl (Yld.pure tab_ok rfl) ?_
    refine WL.nil (WX.then_normal ?_)
    refine WC.seq ?_
    refine WC.region ?_
    refine WL.y rfl (Yld.pure tab_ok rfl) ?_
    refine WL.y rfl (Yld.pure tab_ok rfl) ?_
    obtain ⟨h1, H⟩ := H
    refine WL.y rfl (Yld.sidx tab_ok rfl rfl rfl h1.1 h1.2) ?_
    refine WL.call rfl rfl (W_path_letter H) ?_
    rintro _ _ ⟨rfl, t12, rfl, H⟩
    refine WL.y rfl (Yld.pure tab_ok rfl) ?_
    refine WL.nil (WX.then_normal ?_)
    refine WC.cond rfl (fun b2 => ?_) (fun b2 => ?_)
    · replace H := H.1 (b2)
      refine WC.seq ?_
      refine WC.region ?_
      refine WL.y rfl (Yld.pure tab_ok rfl) ?_
      refine WL.nil (WX.then_normal ?_)
      refine WC.ret (WX.block_ret (WX.then_ret (WX.then_ret (WX.block_ret (WX.then_ret ?_)))))
      exact WX.ret1 rfl rfl ⟨rfl, false, rfl, H⟩
    · replace H := H.2 (b2)
      refine WC.skip (WX.block_normal (WX.then_normal ?_))
      refine WC.region ?_
      obtain ⟨h2, H⟩ := H
      refine WL.y rfl (Yld.add rfl rfl h2) ?_
      refine WL.y rfl (Yld.pure tab_ok rfl) ?_
      refine WL.nil ?_
      exact WX.roundF _ ⟨t6 + (1 : Int), rfl, rfl, H.1, rfl⟩ (by repeat (first | exact Sub.nil | refine Sub.cons rfl ?_)) H.2
  · replace H := H.2 (of_decide_eq_false b1)
    refine WC.exit (WX.then_exit (WX.then_exit (WX.block_same (WX.then_normal ?_))))
    refine WC.seq ?_
    refine WC.region ?_
    refine WL.y rfl (Yld.pure tab_ok rfl) ?_
    refine WL.call rfl rfl (W_path_dots H) ?_
    rintro _ _ ⟨rfl, t16, rfl, H⟩
    refine WL.y rfl (Yld.pure tab_ok rfl) ?_
    refine WL.y rfl (Yld.pure tab_ok rfl) ?_
    refine WL.nil (WX.then_normal ?_)
    refine WC.ret ?_
    exact WX.ret1 rfl rfl ⟨rfl, !t16, rfl, H⟩

set_option maxHeartbeats 8000000 in
theorem W_path_Valid {S : List Nat} {w : World} {p : List UInt8} {K : Bool → Prop} (hG : GOK S w) (hS100 : 100 ∈ S) (H : M_path_Valid p K) : Fn Tryd.prog 38 ⟨[vs p]⟩ w (fun v w' => w.grownBy w' none ∧ ∃ (r : Bool), v = .bool r ∧ K r) := by
  unfold M_path_Valid at H
  refine Fn.enter (by kernel_rfl) Tryd.func38 rfl Tryd.ntmps38 rfl ?_
  refine WC.seq ?_
  refine WC.region ?_
  refine WL.y rfl (Yld.pure tab_ok rfl) ?_
  refine WL.nil (WX.then_normal ?_)
  refine WC.seq ?_
  refine WC.seq ?_
  refine WC.region ?_
  refine WL.y rfl (Yld.pure tab_ok rfl) ?_
  refine WL.y rfl (Yld.pure tab_ok rfl) ?_
  refine WL.y rfl (Yld.pure tab_ok rfl) ?_
  refine WL.nil (WX.then_normal ?_)
  refine WC.cond rfl (fun b1 => ?_) (fun b1 => ?_)
  · replace H := H.1 (of_decide_eq_true b1)
    refine WC.seq ?_
    refine WC.region ?_
    refine WL.y rfl (Yld.pure tab_ok rfl) ?_
    refine WL.nil (WX.then_normal ?_)
    refine WC.ret (WX.then_ret ?_)
    exact WX.ret1 rfl rfl ⟨(gr_refl _ _), false, rfl, H⟩
  · replace H := H.2 (of_decide_eq_false b1)
    refine WC.skip (WX.then_normal ?_)
    refine WC.seq ?_
    refine WC.seq ?_
    refine WC.region ?_
    refine WL.y rfl (Yld.pure tab_ok rfl) ?_
    refine WL.call rfl rfl (W_strings_Split hG hS100 H) ?_
    rintro _ w1 ⟨hg1, t9, A_t9, c_t9, rfl, ht9, H⟩
    have hb1 := ht9.ge'
    have k1 := ht9.base (fun g hg => Nat.le_trans (Nat.le_refl _) (hb1 g hg))
    have gr1 := hg1
    refine WL.y rfl (Yld.pure tab_ok rfl) ?_
    refine WL.y rfl (Yld.pure tab_ok rfl) ?_
    refine WL.nil (WX.then_normal ?_)
    refine WC.block ?_
    obtain ⟨I1, mu1, h0_1, HR1⟩ := H
    refine WC.loopF (fun n' L' w' => ∃ (t11 : Int), n' = mu1 t11 ∧ L' = [(9, .slice A_t9 t9.length c_t9), (10, .int .i64 (t9.length : Int)), (11, .int .i64 t11)] ∧ I1 t11 ∧ w1 = w') _ _ ⟨(0 : Int), rfl, rfl, h0_1, rfl⟩ (by repeat (first | exact Sub.nil | refine Sub.cons rfl ?_)) ?_
    clear h0_1
    rintro _ _ _ ⟨t11, rfl, rfl, hI1, rfl⟩
    have H := HR1 t11 hI1
    refine WC.seq ?_
    refine WC.region ?_
    refine WL.y rfl (Yld.pure tab_ok rfl) ?_
    refine WL.nil (WX.then_normal ?_)
    refine WC.seq ?_
    refine WC.cond rfl (fun b2 => ?_) (fun b2 => ?_)
    · replace H := H.1 (of_decide_eq_true b2)
      refine WC.skip (WX.then_normal ?_)
      refine WC.seq ?_
      refine WC.block ?_
      refine WC.seq ?_
      refine WC.region ?_
      obtain ⟨h1, H⟩ := H
      refine WL.y rfl (Yld.iaddrW tab_ok k1.rd rfl rfl rfl rfl h1.1 h1.2) ?_
      refine WL.y rfl (Yld.iload [] tab_ok k1.rd rfl rfl (iltN h1 rfl)) ?_
      refine WL.y rfl (Yld.pure tab_ok rfl) ?_
      refine WL.nil (WX.then_normal ?_)
      refine WC.seq ?_
      refine WC.region ?_
      refine WL.y rfl (Yld.pure tab_ok rfl) ?_
      refine WL.call rfl rfl (W_path_fair H) ?_
      rintro _ _ ⟨rfl, t16, rfl, H⟩
      refine WL.y rfl (Yld.pure tab_ok rfl) ?_
      refine WL.nil (WX.then_normal ?_)
      refine WC.cond rfl (fun b3 => ?_) (fun b3 => ?_)
      · replace H := H.1 (b3)
        refine WC.seq ?_
        refine WC.region ?_
        refine WL.y rfl (Yld.pure tab_ok rfl) ?_
        refine WL.nil (WX.then_normal ?_)
        refine WC.ret (WX.block_ret (WX.then_ret (WX.then_ret (WX.block_ret (WX.then_ret ?_)))))
        exact WX.ret1 rfl rfl ⟨gr1, false, rfl, H⟩
      · replace H := H.2 (b3)
        refine WC.skip (WX.block_normal (WX.then_normal ?_))
        refine WC.region ?_
        obtain ⟨h2, H⟩ := H
        refine WL.y rfl (Yld.add rfl rfl h2) ?_
        refine WL.y rfl (Yld.pure tab_ok rfl) ?_
        refine WL.nil ?_
        exact WX.roundF _ ⟨t11 + (1 : Int), rfl, rfl, H.1, rfl⟩ (by repeat (first | exact Sub.nil | refine Sub.cons rfl ?_)) H.2
    · replace H := H.2 (of_decide_eq_false b2)
      refine WC.exit (WX.then_exit (WX.then_exit (WX.block_same (WX.then_normal ?_))))
      refine WC.seq ?_
      refine WC.region ?_
      refine WL.y rfl (Yld.pure tab_ok rfl) ?_
      refine WL.nil (WX.then_normal ?_)
      refine WC.ret ?_
      exact WX.ret1 rfl rfl ⟨gr1, true, rfl, H⟩

set_option maxHeartbeats 8000000 in
theorem W_path_Clean {S : List Nat} {w : World} {p : List UInt8} {K : (List UInt8) → Er → Prop} (hG : GOK S w) (hS11 : 11 ∈ S) (hS100 : 100 ∈ S) (H : M_path_Clean p K) : Fn Tryd.prog 43 ⟨[vs p]⟩ w (fun v w' => w.grownBy w' none ∧ ∃ (r0 : List UInt8), ∃ (v_r1 : Value), ∃ (r1 : Er), v = .tuple #[vs r0, v_r1] ∧ ErrR S w' v_r1 r1 ∧ K r0 r1) := by
  unfold M_path_Clean at H
  refine Fn.enter (by kernel_rfl) Tryd.func43 rfl Tryd.ntmps43 rfl ?_
  refine WC.seq ?_
  refine WC.region ?_
  refine WL.y rfl (Yld.pure tab_ok rfl) ?_
  refine WL.y rfl (Yld.pure tab_ok rfl) ?_
  refine WL.nil (WX.then_normal ?_)
  refine WC.seq ?_
  refine WC.region ?_
  refine WL.y rfl (Yld.pure tab_ok rfl) ?_
  refine WL.nil (WX.then_normal ?_)
  refine WC.seq ?_
  refine WC.seq ?_
  refine WC.region ?_
  refine WL.y rfl (Yld.pure tab_ok rfl) ?_
  refine WL.call rfl rfl (W_strings_Split hG hS100 H) ?_
  rintro _ w1 ⟨hg1, t9, A_t9, c_t9, rfl, ht9, H⟩
  have hb1 := ht9.ge'
  have k1 := ht9.base (fun g hg => Nat.le_trans (Nat.le_refl _) (hb1 g hg))
  have gr1 := hg1
  refine WL.y rfl (Yld.pure tab_ok rfl) ?_
  refine WL.y rfl (Yld.pure tab_ok rfl) ?_
  refine WL.nil (WX.then_normal ?_)
  refine WC.block ?_
  obtain ⟨I1, mu1, h0_1, HR1⟩ := H
  refine WC.loopF (fun n' L' w' => ∃ (l : List (List UInt8)), ∃ (A_l : Option Addr), ∃ (c_l : Nat), ∃ (n_l : Nat), ∃ (t11 : Int), n' = mu1 l t11 ∧ L' = [(4, .slice A_l n_l c_l), (9, .slice A_t9 t9.length c_t9), (10, .int .i64 (t9.length : Int)), (11, .int .i64 t11)] ∧ I1 l t11 ∧ n_l = l.length ∧ w.grownBy w' none ∧ Own vs w' w.heap.size 9 A_t9 c_t9 t9 ∧ Own vs w' w.heap.size 9 A_l c_l l ∧ Dj (blk A_t9) (blk A_l)) _ _ ⟨[], none, 0, 0, (0 : Int), rfl, rfl, h0_1, rfl, gr1, k1, (Own.nil vs w1 w.heap.size 9), Dj.nr⟩ (by repeat (first | exact Sub.nil | refine Sub.cons rfl ?_)) ?_
  clear h0_1
  rintro _ _ w2 ⟨l, A_l, c_l, n_l, t11, rfl, rfl, hI1, rfl, gr2, k2, k3, dj1⟩
  have H := HR1 l t11 hI1
  refine WC.seq ?_
  refine WC.region ?_
  refine WL.y rfl (Yld.pure tab_ok rfl) ?_
  refine WL.nil (WX.then_normal ?_)
  refine WC.seq ?_
  refine WC.cond rfl (fun b1 => ?_) (fun b1 => ?_)
  · replace H := H.1 (of_decide_eq_true b1)
    refine WC.skip (WX.then_normal ?_)
    refine WC.seq ?_
    obtain ⟨J1, H, hJ1⟩ := H
    refine WC.midF (fun L' w' => ∃ (l2 : List (List UInt8)), ∃ (A_l2 : Option Addr), ∃ (c_l2 : Nat), ∃ (n_l2 : Nat), L' = [(4, .slice A_l2 n_l2 c_l2), (9, .slice A_t9 t9.length c_t9), (10, .int .i64 (t9.length : Int)), (11, .int .i64 t11)] ∧ J1 l2 ∧ n_l2 = l2.length ∧ w.grownBy w' none ∧ Own vs w' w.heap.size 9 A_t9 c_t9 t9 ∧ Own vs w' w.heap.size 9 A_l2 c_l2 l2 ∧ Dj (blk A_t9) (blk A_l2)) ?_ (fun hQ => ?_)
    · clear H
      rintro _ w3 ⟨l2, A_l2, c_l2, n_l2, rfl, H, rfl, gr3, k4, k5, dj2⟩
      replace H := hJ1 l2 H
      refine WX.then_normal ?_
      refine WC.region ?_
      obtain ⟨h1, H⟩ := H
      refine WL.y rfl (Yld.add rfl rfl h1) ?_
      refine WL.y rfl (Yld.pure tab_ok rfl) ?_
      refine WL.nil ?_
      exact WX.roundF _ ⟨l2, A_l2, c_l2, l2.length, t11 + (1 : Int), rfl, rfl, H.1, rfl, gr3, k4, k5, dj2⟩ (by repeat (first | exact Sub.nil | refine Sub.cons rfl ?_)) H.2
    · clear hJ1
      refine WC.block ?_
      refine WC.seq ?_
      refine WC.region ?_
      obtain ⟨h2, H⟩ := H
      refine WL.y rfl (Yld.iaddrW tab_ok k2.rd rfl rfl rfl rfl h2.1 h2.2) ?_
      refine WL.y rfl (Yld.iload [] tab_ok k2.rd rfl rfl (iltN h2 rfl)) ?_
      refine WL.y rfl (Yld.pure tab_ok rfl) ?_
      refine WL.nil (WX.then_normal ?_)
      refine WC.block ?_
      refine WC.seq ?_
      refine WC.region ?_
      refine WL.y rfl (Yld.pure tab_ok rfl) ?_
      refine WL.y rfl (Yld.pure tab_ok rfl) ?_
      refine WL.y rfl (Yld.pure tab_ok rfl) ?_
      refine WL.midF 3 (fun L' w' => ∃ q1 : Bool, L' = [(25, .bool q1), (4, .slice A_l l.length c_l), (6, vs (t9.getD t11.toNat [])), (9, .slice A_t9 t9.length c_t9), (10, .int .i64 (t9.length : Int)), (11, .int .i64 t11)] ∧ q1 = ((decide ((t9.getD t11.toNat []) = ([] : List UInt8))) || (decide ((t9.getD t11.toNat []) = ([46] : List UInt8)))) ∧ w2 = w') ?_ (fun hQ => ?_)
      · rintro _ _ ⟨q1, rfl, rfl, rfl⟩
        refine WL.y rfl (Yld.pure tab_ok rfl) ?_
        refine WL.nil (WX.then_normal ?_)
        refine WC.cond rfl (fun b2 => ?_) (fun b2 => ?_)
        · replace H := H.1 (b2)
          refine WC.skip (WX.block_normal (WX.block_normal ?_))
          exact WX.weaken (by repeat (first | exact Sub.nil | refine Sub.cons rfl ?_)) (hQ _ _ ⟨l, A_l, c_l, l.length, rfl, H, rfl, gr2, k2, k3, dj1⟩)
        · replace H := H.2 (b2)
          refine WC.seq ?_
          refine WC.region ?_
          refine WL.y rfl (Yld.pure tab_ok rfl) ?_
          refine WL.y rfl (Yld.pure tab_ok rfl) ?_
          refine WL.y rfl (Yld.pure tab_ok rfl) ?_
          refine WL.midF 4 (fun L' w' => ∃ q2 : Bool, L' = [(33, .bool q2), (4, .slice A_l l.length c_l), (6, vs (t9.getD t11.toNat [])), (9, .slice A_t9 t9.length c_t9), (10, .int .i64 (t9.length : Int)), (11, .int .i64 t11)] ∧ q2 = ((decide ((t9.getD t11.toNat []) = ([46, 46] : List UInt8))) && (decide ((0 : Int) < (l.length : Int)))) ∧ w2 = w') ?_ (fun hQ => ?_)
          · rintro _ _ ⟨q2, rfl, rfl, rfl⟩
            refine WL.y rfl (Yld.pure tab_ok rfl) ?_
            refine WL.nil (WX.then_normal ?_)
            refine WC.cond rfl (fun b3 => ?_) (fun b3 => ?_)
            · replace H := H.1 (b3)
              refine WC.region ?_
              refine WL.y rfl (Yld.pure tab_ok rfl) ?_
              refine WL.y rfl (Yld.pure tab_ok rfl) ?_
              refine WL.y rfl (Yld.pure tab_ok rfl) ?_
              obtain ⟨h3, H⟩ := H
              refine WL.y rfl (Yld.sub rfl rfl h3) ?_
              obtain ⟨h4, H⟩ := H
              refine WL.ocut tab_ok rfl rfl k3 rfl rfl rfl rfl h4.1 h4.2 (fun hO1 => ?_)
              refine WL.y rfl (Yld.pure tab_ok rfl) ?_
              refine WL.nil (WX.block_normal (WX.block_normal ?_))
              exact WX.weaken (by repeat (first | exact Sub.nil | refine Sub.cons rfl ?_)) (hQ _ _ ⟨l.take ((l.length : Int) - (1 : Int)).toNat, A_l, c_l, (l.take ((l.length : Int) - (1 : Int)).toNat).length, rfl, H, rfl, gr2, k2, hO1, dj1⟩)
            · replace H := H.2 (b3)
              refine WC.seq ?_
              refine WC.region ?_
              refine WL.y rfl (Yld.pure tab_ok rfl) ?_
              refine WL.call rfl rfl (W_path_fair H) ?_
              rintro _ _ ⟨rfl, t41, rfl, H⟩
              refine WL.y rfl (Yld.pure tab_ok rfl) ?_
              refine WL.y rfl (Yld.pure tab_ok rfl) ?_
              refine WL.nil (WX.then_normal ?_)
              refine WC.cond rfl (fun b4 => ?_) (fun b4 => ?_)
              · replace H := H.1 (b4)
                refine WC.seq ?_
                refine WC.quiet mixed (by kernel_rfl) ?_
                obtain ⟨vE1, _, hE1⟩ := GOK.get (hG.grown gr2) 11 1 hS11 rfl rfl
                refine WQ.y rfl (Yld.cell tab_ok (ErrR.cell hE1 rfl) rfl rfl) ?_
                refine WQ.y rfl (Yld.pure tab_ok rfl) ?_
                refine WQ.y rfl (Yld.pure tab_ok rfl) ?_
                refine WQ.nil (WX.then_normal ?_)
                refine WC.ret (WX.block_ret (WX.block_ret (WX.then_ret (WX.then_ret (WX.block_ret (WX.then_ret ?_))))))
                exact WX.ret2 rfl rfl rfl ⟨gr2, ([] : List UInt8), vE1, (Er.e 11), rfl, hE1, H⟩
              · replace H := H.2 (b4)
                refine WC.region ?_
                refine WL.y rfl (Yld.pure tab_ok rfl) ?_
                refine WL.y rfl (Yld.pure tab_ok rfl) ?_
                refine WL.lit tab_ok rfl rfl rfl (all1c rfl all1n) rfl (by omega) (fun g1 w4 hB1 hg2 hl1 => ?_)
                have hO2 : Own vs w4 w.heap.size 9 (some ⟨g1, 0, none⟩) 1 ([t9.getD t11.toNat []] : List (List UInt8)) := Own.ofBl hB1 (Nat.le_trans (size_le gr2) hl1) (by simp [maxLen]) rfl
                have gr4 := gr_trans gr2 hg2
                have k6 := k2.grown hg2
                have k7 := k3.grown hg2
                obtain ⟨h5, H⟩ := H
                refine WL.append tab_ok rfl rfl One.s k7 rfl rfl hO2.rd rfl rfl h5 (applen h5) (size_le gr4) (fun A_l3 c_l3 w5 hO3 hg3 hk1 => ?_)
                have gr5 := gr_mod gr4 hg3 k7.ge'
                have k8 := k6.go hg3 dj1
                refine WL.y rfl (Yld.pure tab_ok rfl) ?_
                refine WL.nil (WX.block_normal (WX.block_normal ?_))
                exact WX.weaken (by repeat (first | exact Sub.nil | refine Sub.cons rfl ?_)) (hQ _ _ ⟨l ++ ([t9.getD t11.toNat []] : List (List UInt8)), A_l3, c_l3, (l ++ ([t9.getD t11.toNat []] : List (List UInt8))).length, rfl, H, rfl, gr5, k8, hO3, (Dj.app dj1.symm k6.lt' hk1).symm⟩)
          · clear H
            rcases Bool.eq_false_or_eq_true (decide ((t9.getD t11.toNat []) = ([46, 46] : List UInt8))) with b5 | b5
            · refine WL.gyes rfl rfl (okb b5) rfl (Yld.pure tab_ok rfl) ?_
              refine WL.gyes rfl rfl (okb b5) rfl (Yld.pure tab_ok rfl) ?_
              refine WL.gyes rfl rfl (okb b5) rfl (Yld.pure tab_ok rfl) ?_
              refine WL.y rfl (Yld.pickT (okb b5) rfl) ?_
              exact WL.weaken (by repeat (first | exact Sub.nil | refine Sub.cons rfl ?_)) (hQ _ _ ⟨decide ((0 : Int) < (l.length : Int)), rfl, by rw [b5] <;> rfl, rfl⟩)
            · refine WL.gno rfl rfl (okb b5) rfl ?_
              refine WL.gno rfl rfl (okb b5) rfl ?_
              refine WL.gno rfl rfl (okb b5) rfl ?_
              refine WL.y rfl (Yld.pickF (okb b5) rfl) ?_
              exact WL.weaken (by repeat (first | exact Sub.nil | refine Sub.cons rfl ?_)) (hQ _ _ ⟨false, rfl, by rw [b5] <;> rfl, rfl⟩)
      · clear H
        rcases Bool.eq_false_or_eq_true (decide ((t9.getD t11.toNat []) = ([] : List UInt8))) with b6 | b6
        · refine WL.gno rfl rfl (okb b6) rfl ?_
          refine WL.gno rfl rfl (okb b6) rfl ?_
          refine WL.y rfl (Yld.pickT (okb b6) rfl) ?_
          exact WL.weaken (by repeat (first | exact Sub.nil | refine Sub.cons rfl ?_)) (hQ _ _ ⟨true, rfl, by rw [b6] <;> rfl, rfl⟩)
        · refine WL.gyes rfl rfl (okb b6) rfl (Yld.pure tab_ok rfl) ?_
          refine WL.gyes rfl rfl (okb b6) rfl (Yld.pure tab_ok rfl) ?_
          refine WL.y rfl (Yld.pickF (okb b6) rfl) ?_
          exact WL.weaken (by repeat (first | exact Sub.nil | refine Sub.cons rfl ?_)) (hQ _ _ ⟨decide ((t9.getD t11.toNat []) = ([46] : List UInt8)), rfl, by rw [b6] <;> rfl, rfl⟩)
  · replace H := H.2 (of_decide_eq_false b1)
    refine WC.exit (WX.then_exit (WX.then_exit (WX.block_same (WX.then_normal ?_))))
    refine WC.seq ?_
    refine WC.region ?_
    refine WL.y rfl (Yld.pure tab_ok rfl) ?_
    refine WL.call rfl rfl (W_strings_Join k3.rd rfl H) ?_
    rintro _ w6 ⟨hg4, out, rfl, H⟩
    have gr6 := gr_trans gr2 hg4
    refine WL.y rfl (Yld.pure tab_ok rfl) ?_
    refine WL.nil (WX.then_normal ?_)
    refine WC.seq ?_
    refine WC.seq ?_
    refine WC.region ?_
    refine WL.y rfl (Yld.pure tab_ok rfl) ?_
    refine WL.y rfl (Yld.pure tab_ok rfl) ?_
    refine WL.y rfl (Yld.pure tab_ok rfl) ?_
    refine WL.nil (WX.then_normal ?_)
    refine WC.cond rfl (fun b7 => ?_) (fun b7 => ?_)
    · replace H := H.1 (of_decide_eq_true b7)
      refine WC.seq ?_
      refine WC.quiet mixed (by kernel_rfl) ?_
      obtain ⟨vE2, _, hE2⟩ := GOK.get (hG.grown gr6) 11 1 hS11 rfl rfl
      refine WQ.y rfl (Yld.cell tab_ok (ErrR.cell hE2 rfl) rfl rfl) ?_
      refine WQ.y rfl (Yld.pure tab_ok rfl) ?_
      refine WQ.y rfl (Yld.pure tab_ok rfl) ?_
      refine WQ.nil (WX.then_normal ?_)
      refine WC.ret (WX.then_ret ?_)
      exact WX.ret2 rfl rfl rfl ⟨gr6, ([] : List UInt8), vE2, (Er.e 11), rfl, hE2, H⟩
    · replace H := H.2 (of_decide_eq_false b7)
      refine WC.skip (WX.then_normal ?_)
      refine WC.seq ?_
      refine WC.region ?_
      refine WL.y rfl (Yld.pure tab_ok rfl) ?_
      refine WL.y rfl (Yld.pure tab_ok rfl) ?_
      refine WL.y rfl (Yld.pure tab_ok rfl) ?_
      refine WL.nil (WX.then_normal ?_)
      refine WC.ret ?_
      exact WX.ret2 rfl rfl rfl ⟨gr6, out, .nilIface, Er.ok, rfl, (ErrR.okR (S := S) (w := w6)), H⟩

set_option maxHeartbeats 8000000 in
theorem W_path_Join {S : List Nat} {w : World} {l : List (List UInt8)} {A_l : Option Addr} {c_l : Nat} {n_l : Nat} {K : (List UInt8) → Er → Prop} (hG : GOK S w) (hS11 : 11 ∈ S) (hS100 : 100 ∈ S) (hl : Rd vs w A_l c_l l) (hn_l : n_l = l.length) (H : M_path_Join l K) : Fn Tryd.prog 45 ⟨[.slice A_l n_l c_l]⟩ w (fun v w' => w.grownBy w' none ∧ ∃ (r0 : List UInt8), ∃ (v_r1 : Value), ∃ (r1 : Er), v = .tuple #[vs r0, v_r1] ∧ ErrR S w' v_r1 r1 ∧ K r0 r1) := by
  subst hn_l
  unfold M_path_Join at H
  refine Fn.enter (by kernel_rfl) Tryd.func45 rfl Tryd.ntmps45 rfl ?_
  replace H := H (Nat.le_trans hl.cap hl.max)
  refine WC.seq ?_
  refine WC.region ?_
  refine WL.y rfl (Yld.pure tab_ok rfl) ?_
  refine WL.y rfl (Yld.pure tab_ok rfl) ?_
  refine WL.nil (WX.then_normal ?_)
  refine WC.seq ?_
  refine WC.region ?_
  refine WL.y rfl (Yld.pure tab_ok rfl) ?_
  refine WL.call rfl rfl (W_strings_Join hl rfl H) ?_
  rintro _ w1 ⟨hg1, t5, rfl, H⟩
  have gr1 := hg1
  refine WL.call rfl rfl (W_path_Clean (hG.grown gr1) hS11 hS100 H) ?_
  rintro _ w2 ⟨hg2, t60, v_t61, t61, rfl, ht61, H⟩
  have gr2 := gr_trans gr1 hg2
  refine WL.y rfl (Yld.pure tab_ok rfl) ?_
  refine WL.y rfl (Yld.pure tab_ok rfl) ?_
  refine WL.y rfl (Yld.pure tab_ok rfl) ?_
  refine WL.y rfl (Yld.pure tab_ok rfl) ?_
  refine WL.nil (WX.then_normal ?_)
  refine WC.ret ?_
  exact WX.ret2 rfl rfl rfl ⟨gr2, t60, v_t61, t61, rfl, ht61, H⟩

set_option maxHeartbeats 8000000 in
theorem W_path_Dir {w : World} {p : List UInt8} {K : (List UInt8) → Prop} (H : M_path_Dir p K) : Fn Tryd.prog 41 ⟨[vs p]⟩ w (fun v w' => w = w' ∧ ∃ (r : List UInt8), v = vs r ∧ K r) := by
  unfold M_path_Dir at H
  refine Fn.enter (by kernel_rfl) Tryd.func41 rfl Tryd.ntmps41 rfl ?_
  refine WC.seq ?_
  refine WC.region ?_
  refine WL.y rfl (Yld.pure tab_ok rfl) ?_
  refine WL.nil (WX.then_normal ?_)
  refine WC.seq ?_
  refine WC.region ?_
  refine WL.y rfl (Yld.pure tab_ok rfl) ?_
  refine WL.y rfl (Yld.pure tab_ok rfl) ?_
  refine WL.call rfl rfl (W_strings_LastIndexByte H) ?_
  rintro _ _ ⟨rfl, t5, rfl, H⟩
  refine WL.y rfl (Yld.max2 rfl rfl) ?_
  obtain ⟨h1, H⟩ := H
  refine WL.y rfl (Yld.scut tab_ok rfl rfl rfl rfl (Int.le_refl 0) h1.1 h1.2) ?_
  refine WL.y rfl (Yld.pure tab_ok rfl) ?_
  refine WL.nil (WX.then_normal ?_)
  refine WC.ret ?_
  exact WX.ret1 rfl rfl ⟨rfl, p.take (if t5 < (0 : Int) then (0 : Int) else t5).toNat, rfl, H⟩

set_option maxHeartbeats 8000000 in
theorem W_path_Base {w : World} {p : List UInt8} {K : (List UInt8) → Prop} (H : M_path_Base p K) : Fn Tryd.prog 39 ⟨[vs p]⟩ w (fun v w' => w = w' ∧ ∃ (r : List UInt8), v = vs r ∧ K r) := by
  unfold M_path_Base at H
  refine Fn.enter (by kernel_rfl) Tryd.func39 rfl Tryd.ntmps39 rfl ?_
  refine WC.seq ?_
  refine WC.region ?_
  refine WL.y rfl (Yld.pure tab_ok rfl) ?_
  refine WL.nil (WX.then_normal ?_)
  refine WC.seq ?_
  refine WC.region ?_
  refine WL.y rfl (Yld.pure tab_ok rfl) ?_
  refine WL.y rfl (Yld.pure tab_ok rfl) ?_
  refine WL.call rfl rfl (W_strings_LastIndexByte H) ?_
  rintro _ _ ⟨rfl, t5, rfl, H⟩
  obtain ⟨h1, H⟩ := H
  refine WL.y rfl (Yld.add rfl rfl h1) ?_
  obtain ⟨h2, H⟩ := H
  refine WL.y rfl (Yld.scutF tab_ok rfl rfl rfl h2.1 h2.2) ?_
  refine WL.y rfl (Yld.pure tab_ok rfl) ?_
  refine WL.nil (WX.then_normal ?_)
  refine WC.ret ?_
  exact WX.ret1 rfl rfl ⟨rfl, p.drop (t5 + (1 : Int)).toNat, rfl, H⟩

set_option maxHeartbeats 8000000 in
theorem W_path_Under {w : World} {p : List UInt8} {dir : List UInt8} {K : Bool → Prop} (H : M_path_Under p dir K) : Fn Tryd.prog 42 ⟨[vs p, vs dir]⟩ w (fun v w' => w = w' ∧ ∃ (r : Bool), v = .bool r ∧ K r) := by
  unfold M_path_Under at H
  refine Fn.enter (by kernel_rfl) Tryd.func42 rfl Tryd.ntmps42 rfl ?_
  refine WC.seq ?_
  refine WC.region ?_
  refine WL.y rfl (Yld.pure tab_ok rfl) ?_
  refine WL.nil (WX.then_normal ?_)
  refine WC.seq ?_
  refine WC.seq ?_
  refine WC.region ?_
  refine WL.y rfl (Yld.pure tab_ok rfl) ?_
  refine WL.y rfl (Yld.pure tab_ok rfl) ?_
  refine WL.nil (WX.then_normal ?_)
  refine WC.cond rfl (fun b1 => ?_) (fun b1 => ?_)
  · replace H := H.1 (of_decide_eq_true b1)
    refine WC.seq ?_
    refine WC.region ?_
    refine WL.y rfl (Yld.pure tab_ok rfl) ?_
    refine WL.y rfl (Yld.pure tab_ok rfl) ?_
    refine WL.y rfl (Yld.pure tab_ok rfl) ?_
    refine WL.nil (WX.then_normal ?_)
    refine WC.ret (WX.then_ret ?_)
    exact WX.ret1 rfl rfl ⟨rfl, !decide (p = ([] : List UInt8)), rfl, H⟩
  · replace H := H.2 (of_decide_eq_false b1)
    refine WC.skip (WX.then_normal ?_)
    refine WC.seq ?_
    refine WC.region ?_
    refine WL.y rfl (Yld.pure tab_ok rfl) ?_
    refine WL.y rfl (Yld.pure tab_ok rfl) ?_
    obtain ⟨h1, H⟩ := H
    refine WL.y rfl (Yld.sadd rfl rfl h1) ?_
    refine WL.call rfl rfl (W_strings_HasPrefix H) ?_
    rintro _ _ ⟨rfl, t4, rfl, H⟩
    refine WL.y rfl (Yld.pure tab_ok rfl) ?_
    refine WL.nil (WX.then_normal ?_)
    refine WC.ret ?_
    exact WX.ret1 rfl rfl ⟨rfl, t4, rfl, H⟩

set_option maxHeartbeats 8000000 in
theorem W_path_part {w : World} {pat : List UInt8} {s : List UInt8} {K : Bool → Prop} (H : M_path_part pat s K) : Fn Tryd.prog 116 ⟨[vs pat, vs s]⟩ w (fun v w' => w.grownBy w' none ∧ ∃ (r : Bool), v = .bool r ∧ K r) := by
  unfold M_path_part at H
  refine Fn.enter (by kernel_rfl) Tryd.func116 rfl Tryd.ntmps116 rfl ?_
  refine WC.seq ?_
  refine WC.region ?_
  refine WL.y rfl (Yld.pure tab_ok rfl) ?_
  refine WL.nil (WX.then_normal ?_)
  refine WC.seq ?_
  refine WC.region ?_
  refine WL.y rfl (Yld.pure tab_ok rfl) ?_
  refine WL.y rfl (Yld.pure tab_ok rfl) ?_
  obtain ⟨h1, H⟩ := H
  refine WL.y rfl (Yld.add rfl rfl h1) ?_
  obtain ⟨h2, H⟩ := H
  refine WL.makeZI (f := vB) (z := false) (B := w.heap.size) tab_ok rfl rfl zero4 rfl rfl h2.1 h2.2.1 h2.2.2 (Nat.le_refl _) (fun g1 w1 hO1 hg1 hl1 => ?_)
  have gr1 := hg1
  refine WL.y rfl (Yld.pure tab_ok rfl) ?_
  refine WL.nil (WX.then_normal ?_)
  refine WC.seq ?_
  refine WC.region ?_
  refine WL.y rfl (Yld.pure tab_ok rfl) ?_
  obtain ⟨h3, H⟩ := H
  refine WL.y rfl (Yld.iaddrW tab_ok hO1.rd rfl rfl ((List.length_replicate).symm) rfl h3.1 h3.2) ?_
  refine WL.ostore (v := true) one4 One.B hO1 rfl rfl (iltN h3 ((List.length_replicate).symm)) (fun w2 hO2 hg2 => ?_)
  have gr2 := gr_mod gr1 hg2 hO1.ge'
  refine WL.nil (WX.then_normal ?_)
  refine WC.seq ?_
  refine WC.seq ?_
  refine WC.region ?_
  refine WL.y rfl (Yld.pure tab_ok rfl) ?_
  refine WL.y rfl (Yld.pure tab_ok rfl) ?_
  refine WL.y rfl (Yld.pure tab_ok rfl) ?_
  refine WL.nil (WX.then_normal ?_)
  refine WC.block ?_
  obtain ⟨I1, mu1, h0_1, HR1⟩ := H
  refine WC.loopF (fun n' L' w' => ∃ (met : List Bool), ∃ (A_met : Option Addr), ∃ (c_met : Nat), ∃ (n_met : Nat), ∃ (t17 : Int), n' = mu1 met t17 ∧ L' = [(0, vs pat), (1, vs s), (5, .slice A_met n_met c_met), (16, .int .i64 (pat.length : Int)), (17, .int .i64 t17)] ∧ I1 met t17 ∧ n_met = met.length ∧ w.grownBy w' none ∧ Own vB w' w.heap.size 4 A_met c_met met) _ _ ⟨(List.replicate ((s.length : Int) + (1 : Int)).toNat false).set 0 true, (some ⟨g1, 0, none⟩), ((s.length : Int) + (1 : Int)).toNat, ((s.length : Int) + (1 : Int)).toNat, (0 : Int), rfl, rfl, h0_1, (((List.length_replicate).symm).trans List.length_set.symm), gr2, hO2⟩ (by repeat (first | exact Sub.nil | refine Sub.cons rfl ?_)) ?_
  clear h0_1
  rintro _ _ w3 ⟨met, A_met, c_met, n_met, t17, rfl, rfl, hI1, rfl, gr3, k1⟩
  have H := HR1 met t17 hI1
  refine WC.seq ?_
  refine WC.region ?_
  refine WL.y rfl (Yld.pure tab_ok rfl) ?_
  refine WL.nil (WX.then_normal ?_)
  refine WC.seq ?_
  refine WC.cond rfl (fun b1 => ?_) (fun b1 => ?_)
  · replace H := H.1 (of_decide_eq_true b1)
    refine WC.skip (WX.then_normal ?_)
    refine WC.seq ?_
    refine WC.block ?_
    refine WC.seq ?_
    refine WC.region ?_
    refine WL.y rfl (Yld.pure tab_ok rfl) ?_
    refine WL.y rfl (Yld.pure tab_ok rfl) ?_
    refine WL.nil (WX.then_normal ?_)
    refine WC.seq ?_
    refine WC.region ?_
    refine WL.y rfl (Yld.pure tab_ok rfl) ?_
    refine WL.y rfl (Yld.pure tab_ok rfl) ?_
    obtain ⟨h4, H⟩ := H
    refine WL.y rfl (Yld.add rfl rfl h4) ?_
    obtain ⟨h5, H⟩ := H
    refine WL.makeZI (f := vB) (z := false) (B := w.heap.size) tab_ok rfl rfl zero4 rfl rfl h5.1 h5.2.1 h5.2.2 (size_le gr3) (fun g2 w4 hO3 hg3 hl2 => ?_)
    have gr4 := gr_trans gr3 hg3
    have k2 := k1.grown hg3
    refine WL.y rfl (Yld.pure tab_ok rfl) ?_
    refine WL.nil (WX.then_normal ?_)
    refine WC.seq ?_
    refine WC.seq ?_
    refine WC.region ?_
    refine WL.y rfl (Yld.pure tab_ok rfl) ?_
    refine WL.y rfl (Yld.pure tab_ok rfl) ?_
    refine WL.y rfl (Yld.pure tab_ok rfl) ?_
    refine WL.nil (WX.then_normal ?_)
    refine WC.block ?_
    obtain ⟨I2, mu2, h0_2, HR2⟩ := H
    refine WC.loopF (fun n' L' w' => ∃ (t26 : Int), ∃ (next : List Bool), n' = mu2 t26 next ∧ L' = [(0, vs pat), (1, vs s), (5, .slice A_met met.length c_met), (6, .int .i64 t17), (7, .slice (some ⟨g2, 0, none⟩) (((s.length : Int) + (1 : Int)).toNat) (((s.length : Int) + (1 : Int)).toNat)), (16, .int .i64 (pat.length : Int)), (17, .int .i64 t17), (25, .int .i64 (met.length : Int)), (26, .int .i64 t26)] ∧ I2 t26 next ∧ ((s.length : Int) + (1 : Int)).toNat = next.length ∧ w.grownBy w' none ∧ Own vB w' w.heap.size 4 A_met c_met met ∧ Own vB w' w.heap.size 4 (some ⟨g2, 0, none⟩) (((s.length : Int) + (1 : Int)).toNat) next ∧ Dj (blk A_met) (blk (some ⟨g2, 0, none⟩))) _ _ ⟨(0 : Int), (List.replicate ((s.length : Int) + (1 : Int)).toNat false), rfl, rfl, h0_2, (List.length_replicate).symm, gr4, k2, hO3, (Dj.new k1.lt' (Ge.box hl2))⟩ (by repeat (first | exact Sub.nil | refine Sub.cons rfl ?_)) ?_
    clear h0_2
    rintro _ _ w5 ⟨t26, next, rfl, rfl, hI2, hn_next, gr5, k3, k4, dj1⟩
    have H := HR2 t26 next hI2
    replace H := H hn_next
    refine WC.seq ?_
    refine WC.region ?_
    refine WL.y rfl (Yld.pure tab_ok rfl) ?_
    refine WL.nil (WX.then_normal ?_)
    refine WC.seq ?_
    refine WC.cond rfl (fun b2 => ?_) (fun b2 => ?_)
    · replace H := H.1 (of_decide_eq_true b2)
      refine WC.skip (WX.then_normal ?_)
      refine WC.seq ?_
      obtain ⟨J1, H, hJ1⟩ := H
      refine WC.midF (fun L' w' => ∃ (xs : List Bool), L' = [(0, vs pat), (1, vs s), (5, .slice A_met met.length c_met), (6, .int .i64 t17), (7, .slice (some ⟨g2, 0, none⟩) (((s.length : Int) + (1 : Int)).toNat) (((s.length : Int) + (1 : Int)).toNat)), (16, .int .i64 (pat.length : Int)), (17, .int .i64 t17), (25, .int .i64 (met.length : Int)), (26, .int .i64 t26)] ∧ J1 xs ∧ ((s.length : Int) + (1 : Int)).toNat = xs.length ∧ w.grownBy w' none ∧ Own vB w' w.heap.size 4 A_met c_met met ∧ Own vB w' w.heap.size 4 (some ⟨g2, 0, none⟩) (((s.length : Int) + (1 : Int)).toNat) xs ∧ Dj (blk A_met) (blk (some ⟨g2, 0, none⟩))) ?_ (fun hQ => ?_)
      · clear H
        rintro _ w6 ⟨xs, rfl, H, hn_xs, gr6, k5, k6, dj2⟩
        replace H := hJ1 xs H
        replace H := H hn_xs
        refine WX.then_normal ?_
        refine WC.region ?_
        obtain ⟨h6, H⟩ := H
        refine WL.y rfl (Yld.add rfl rfl h6) ?_
        refine WL.y rfl (Yld.pure tab_ok rfl) ?_
        refine WL.nil ?_
        exact WX.roundF _ ⟨t26 + (1 : Int), xs, rfl, rfl, H.1, hn_xs, gr6, k5, k6, dj2⟩ (by repeat (first | exact Sub.nil | refine Sub.cons rfl ?_)) H.2
      · clear hJ1
        refine WC.block ?_
        refine WC.seq ?_
        refine WC.region ?_
        refine WL.y rfl (Yld.pure tab_ok rfl) ?_
        refine WL.y rfl (Yld.pure tab_ok rfl) ?_
        refine WL.nil (WX.then_normal ?_)
        refine WC.seq ?_
        refine WC.region ?_
        refine WL.y rfl (Yld.pure tab_ok rfl) ?_
        refine WL.y rfl (Yld.pure tab_ok rfl) ?_
        obtain ⟨h7, H⟩ := H
        refine WL.y rfl (Yld.sidx tab_ok rfl rfl rfl h7.1 h7.2) ?_
        refine WL.y rfl (Yld.pure tab_ok rfl) ?_
        refine WL.nil (WX.then_normal ?_)
        refine WC.cond rfl (fun b3 => ?_) (fun b3 => ?_)
        · replace H := H.1 (of_decide_eq_true b3)
          refine WC.region ?_
          refine WL.y rfl (Yld.pure tab_ok rfl) ?_
          refine WL.y rfl (Yld.pure tab_ok rfl) ?_
          refine WL.y rfl (Yld.pure tab_ok rfl) ?_
          refine WL.y rfl (Yld.pure tab_ok rfl) ?_
          obtain ⟨h8, H⟩ := H
          refine WL.y rfl (Yld.iaddrW tab_ok k3.rd rfl rfl rfl rfl h8.1 h8.2) ?_
          refine WL.y rfl (Yld.iload false tab_ok k3.rd rfl rfl (iltN h8 rfl)) ?_
          refine WL.y rfl (Yld.pure tab_ok rfl) ?_
          obtain ⟨h9, H⟩ := H
          obtain ⟨h10, H⟩ := H
          refine WL.midF 10 (fun L' w' => ∃ q1 : Bool, L' = [(49, .bool q1), (0, vs pat), (1, vs s), (5, .slice A_met met.length c_met), (6, .int .i64 t17), (7, .slice (some ⟨g2, 0, none⟩) (((s.length : Int) + (1 : Int)).toNat) (((s.length : Int) + (1 : Int)).toNat)), (16, .int .i64 (pat.length : Int)), (17, .int .i64 t17), (25, .int .i64 (met.length : Int)), (26, .int .i64 t26), (33, .slice (some ⟨g2, 0, none⟩) (((s.length : Int) + (1 : Int)).toNat) (((s.length : Int) + (1 : Int)).toNat)), (34, .int .i64 t26)] ∧ q1 = ((met.getD t26.toNat false) || ((decide ((0 : Int) < t26)) && (next.getD ((t26 - (1 : Int)).toNat) false))) ∧ w5 = w') ?_ (fun hQ => ?_)
          · rintro _ _ ⟨q1, rfl, rfl, rfl⟩
            obtain ⟨h11, H⟩ := H
            refine WL.y rfl (Yld.iaddrW tab_ok k4.rd rfl rfl hn_next rfl h11.1 h11.2) ?_
            refine WL.ostore (v := (met.getD t26.toNat false) || ((decide ((0 : Int) < t26)) && (next.getD ((t26 - (1 : Int)).toNat) false))) one4 One.B k4 rfl rfl (iltN h11 hn_next) (fun w7 hO4 hg4 => ?_)
            have gr7 := gr_mod gr5 hg4 k4.ge'
            have k7 := k3.go hg4 dj1
            refine WL.nil (WX.block_normal ?_)
            exact WX.weaken (by repeat (first | exact Sub.nil | refine Sub.cons rfl ?_)) (hQ _ _ ⟨next.set t26.toNat ((met.getD t26.toNat false) || ((decide ((0 : Int) < t26)) && (next.getD ((t26 - (1 : Int)).toNat) false))), rfl, H, (hn_next.trans List.length_set.symm), gr7, k7, hO4, dj1⟩)
          · clear H
            rcases Bool.eq_false_or_eq_true (met.getD t26.toNat false) with b4 | b4
            · refine WL.gno rfl rfl (okb b4) rfl ?_
              refine WL.gno rfl rfl (okb b4) rfl ?_
              refine WL.gno rfl rfl (okb b4) rfl ?_
              refine WL.gun rfl rfl rfl rfl ?_
              refine WL.gun rfl rfl rfl rfl ?_
              refine WL.gun rfl rfl rfl rfl ?_
              refine WL.gun rfl rfl rfl rfl ?_
              refine WL.gun rfl rfl rfl rfl ?_
              refine WL.gno rfl rfl (okb b4) rfl ?_
              refine WL.y rfl (Yld.pickT (okb b4) rfl) ?_
              exact WL.weaken (by repeat (first | exact Sub.nil | refine Sub.cons rfl ?_)) (hQ _ _ ⟨true, rfl, by rw [b4] <;> rfl, rfl⟩)
            · refine WL.gyes rfl rfl (okb b4) rfl (Yld.pure tab_ok rfl) ?_
              refine WL.gyes rfl rfl (okb b4) rfl (Yld.pure tab_ok rfl) ?_
              refine WL.gyes rfl rfl (okb b4) rfl (Yld.pure tab_ok rfl) ?_
              rcases Bool.eq_false_or_eq_true (decide ((0 : Int) < t26)) with b5 | b5
              · refine WL.gyes rfl rfl (okb b5) rfl (Yld.pure tab_ok rfl) ?_
                refine WL.gyes rfl rfl (okb b5) rfl (Yld.pure tab_ok rfl) ?_
                refine WL.gyes rfl rfl (okb b5) rfl (Yld.sub rfl rfl (h9 b4 b5)) ?_
                refine WL.gyes rfl rfl (okb b5) rfl (Yld.iaddrW tab_ok k4.rd rfl rfl hn_next rfl (h10 b4 b5).1 (h10 b4 b5).2) ?_
                refine WL.gyes rfl rfl (okb b5) rfl (Yld.iload false tab_ok k4.rd rfl rfl (iltN (h10 b4 b5) hn_next)) ?_
                refine WL.gyes rfl rfl (okb b4) rfl (Yld.pickT (okb b5) rfl) ?_
                refine WL.y rfl (Yld.pickF (okb b4) rfl) ?_
                exact WL.weaken (by repeat (first | exact Sub.nil | refine Sub.cons rfl ?_)) (hQ _ _ ⟨next.getD ((t26 - (1 : Int)).toNat) false, rfl, by rw [b4, b5] <;> rfl, rfl⟩)
              · refine WL.gno rfl rfl (okb b5) rfl ?_
                refine WL.gno rfl rfl (okb b5) rfl ?_
                refine WL.gno rfl rfl (okb b5) rfl ?_
                refine WL.gno rfl rfl (okb b5) rfl ?_
                refine WL.gno rfl rfl (okb b5) rfl ?_
                refine WL.gyes rfl rfl (okb b4) rfl (Yld.pickF (okb b5) rfl) ?_
                refine WL.y rfl (Yld.pickF (okb b4) rfl) ?_
                exact WL.weaken (by repeat (first | exact Sub.nil | refine Sub.cons rfl ?_)) (hQ _ _ ⟨false, rfl, by rw [b4, b5] <;> rfl, rfl⟩)
        · replace H := H.2 (of_decide_eq_false b3)
          refine WC.chainF (fun k => !(Nat.beq k 22)) (LD [9] (fun w' => Rd vB w' A_met c_met met)) mixed (by kernel_rfl) (fun k w' h _ => (rd_eqv h k3.rd)) ?_
          refine WJ.y rfl rfl (fun w' hw' => Yld.pure tab_ok rfl) ?_
          refine WJ.y rfl rfl (fun w' hw' => Yld.pure tab_ok rfl) ?_
          refine WJ.y rfl rfl (fun w' hw' => Yld.pure tab_ok rfl) ?_
          refine WJ.y rfl rfl (fun w' hw' => Yld.pure tab_ok rfl) ?_
          refine WJ.y rfl rfl (fun w' hw' => Yld.pure tab_ok rfl) ?_
          obtain ⟨h12, H⟩ := H
          obtain ⟨h13, H⟩ := H
          refine WJ.midF 6 (fun L' w' => ∃ q2 : Bool, L' = [(61, .bool q2), (0, vs pat), (1, vs s), (5, .slice A_met met.length c_met), (6, .int .i64 t17), (7, .slice (some ⟨g2, 0, none⟩) (((s.length : Int) + (1 : Int)).toNat) (((s.length : Int) + (1 : Int)).toNat)), (8, .int .i64 t26), (16, .int .i64 (pat.length : Int)), (17, .int .i64 t17), (25, .int .i64 (met.length : Int)), (26, .int .i64 t26), (51, .slice (some ⟨g2, 0, none⟩) (((s.length : Int) + (1 : Int)).toNat) (((s.length : Int) + (1 : Int)).toNat)), (52, .int .i64 t26)] ∧ q2 = ((decide ((0 : Int) < t26)) && (met.getD ((t26 - (1 : Int)).toNat) false)) ∧ w5 = w') ?_ (fun hQ => ?_)
          · rintro _ _ ⟨q2, rfl, rfl, rfl⟩
            refine WJ.y rfl rfl (fun w' hw' => Yld.pure tab_ok rfl) ?_
            obtain ⟨h14, H⟩ := H
            obtain ⟨h15, H⟩ := H
            obtain ⟨h16, H⟩ := H
            refine WJ.midF 9 (fun L' w' => ∃ q3 : Bool, L' = [(71, .bool q3), (0, vs pat), (1, vs s), (5, .slice A_met met.length c_met), (6, .int .i64 t17), (7, .slice (some ⟨g2, 0, none⟩) (((s.length : Int) + (1 : Int)).toNat) (((s.length : Int) + (1 : Int)).toNat)), (16, .int .i64 (pat.length : Int)), (17, .int .i64 t17), (25, .int .i64 (met.length : Int)), (26, .int .i64 t26), (51, .slice (some ⟨g2, 0, none⟩) (((s.length : Int) + (1 : Int)).toNat) (((s.length : Int) + (1 : Int)).toNat)), (52, .int .i64 t26)] ∧ q3 = (((decide ((0 : Int) < t26)) && (met.getD ((t26 - (1 : Int)).toNat) false)) && (decide (((s.getD (t26 - (1 : Int)).toNat 0).toNat : Int) = ((pat.getD t17.toNat 0).toNat : Int)))) ∧ w5 = w') ?_ (fun hQ => ?_)
            · rintro _ _ ⟨q3, rfl, rfl, rfl⟩
              obtain ⟨h17, H⟩ := H
              refine WJ.y rfl rfl (fun w' hw' => Yld.iaddrW tab_ok k4.rd rfl rfl hn_next rfl h17.1 h17.2) ?_
              refine WJ.eff rfl (Ef0.ostore (v := ((decide ((0 : Int) < t26)) && (met.getD ((t26 - (1 : Int)).toNat) false)) && (decide (((s.getD (t26 - (1 : Int)).toNat 0).toNat : Int) = ((pat.getD t17.toNat 0).toNat : Int)))) one4 One.B k4 rfl rfl (iltN h17 hn_next)) (fun w' h => DD.keep (Rd.go k3.rd (gr_eqv h.2 (Eqv.refl _)) (Dn.of dj1))) ?_
              rintro w8 ⟨hO5, hg5⟩
              have gr8 := gr_mod gr5 hg5 k4.ge'
              have k8 := k3.go hg5 dj1
              refine WJ.nil (WX.block_normal ?_)
              exact WX.weaken (by repeat (first | exact Sub.nil | refine Sub.cons rfl ?_)) (hQ _ _ ⟨next.set t26.toNat (((decide ((0 : Int) < t26)) && (met.getD ((t26 - (1 : Int)).toNat) false)) && (decide (((s.getD (t26 - (1 : Int)).toNat 0).toNat : Int) = ((pat.getD t17.toNat 0).toNat : Int)))), rfl, H, (hn_next.trans List.length_set.symm), gr8, k8, hO5, dj1⟩)
            · clear H
              rcases Bool.eq_false_or_eq_true ((decide ((0 : Int) < t26)) && (met.getD ((t26 - (1 : Int)).toNat) false)) with b6 | b6
              · refine WJ.yw rfl (wants_some rfl rfl (okb b6)) rfl (fun w' hw' => Yld.pure tab_ok rfl) ?_
                refine WJ.yw rfl (wants_some rfl rfl (okb b6)) rfl (fun w' hw' => Yld.pure tab_ok rfl) ?_
                refine WJ.yw rfl (wants_some rfl rfl (okb b6)) rfl (fun w' hw' => Yld.sub rfl rfl (h14 b6)) ?_
                refine WJ.yw rfl (wants_some rfl rfl (okb b6)) rfl (fun w' hw' => Yld.sidx tab_ok rfl rfl rfl (h15 b6).1 (h15 b6).2) ?_
                refine WJ.yw rfl (wants_some rfl rfl (okb b6)) rfl (fun w' hw' => Yld.pure tab_ok rfl) ?_
                refine WJ.yw rfl (wants_some rfl rfl (okb b6)) rfl (fun w' hw' => Yld.pure tab_ok rfl) ?_
                refine WJ.yw rfl (wants_some rfl rfl (okb b6)) rfl (fun w' hw' => Yld.sidx tab_ok rfl rfl rfl (h16 b6).1 (h16 b6).2) ?_
                refine WJ.yw rfl (wants_some rfl rfl (okb b6)) rfl (fun w' hw' => Yld.pure tab_ok rfl) ?_
                refine WJ.y rfl rfl (fun w' hw' => Yld.pickT (okb b6) rfl) ?_
                exact WJ.weaken (by repeat (first | exact Sub.nil | refine Sub.cons rfl ?_)) (hQ _ _ ⟨decide (((s.getD (t26 - (1 : Int)).toNat 0).toNat : Int) = ((pat.getD t17.toNat 0).toNat : Int)), rfl, by rw [b6] <;> rfl, rfl⟩)
              · refine WJ.no rfl rfl (okb b6) rfl ?_
                refine WJ.no rfl rfl (okb b6) rfl ?_
                refine WJ.no rfl rfl (okb b6) rfl ?_
                refine WJ.no rfl rfl (okb b6) rfl ?_
                refine WJ.no rfl rfl (okb b6) rfl ?_
                refine WJ.no rfl rfl (okb b6) rfl ?_
                refine WJ.no rfl rfl (okb b6) rfl ?_
                refine WJ.no rfl rfl (okb b6) rfl ?_
                refine WJ.y rfl rfl (fun w' hw' => Yld.pickF (okb b6) rfl) ?_
                exact WJ.weaken (by repeat (first | exact Sub.nil | refine Sub.cons rfl ?_)) (hQ _ _ ⟨false, rfl, by rw [b6] <;> rfl, rfl⟩)
          · clear H
            rcases Bool.eq_false_or_eq_true (decide ((0 : Int) < t26)) with b7 | b7
            · refine WJ.yw rfl (wants_some rfl rfl (okb b7)) rfl (fun w' hw' => Yld.pure tab_ok rfl) ?_
              refine WJ.yw rfl (wants_some rfl rfl (okb b7)) rfl (fun w' hw' => Yld.pure tab_ok rfl) ?_
              refine WJ.yw rfl (wants_some rfl rfl (okb b7)) rfl (fun w' hw' => Yld.sub rfl rfl (h12 b7)) ?_
              refine WJ.yw rfl (wants_some rfl rfl (okb b7)) rfl (fun w' hw' => Yld.iaddrW tab_ok k3.rd rfl rfl rfl rfl (h13 b7).1 (h13 b7).2) ?_
              refine WJ.yw rfl (wants_some rfl rfl (okb b7)) rfl (fun w' hw' => Yld.iload false tab_ok (hw' rfl) rfl rfl (iltN (h13 b7) rfl)) ?_
              refine WJ.y rfl rfl (fun w' hw' => Yld.pickT (okb b7) rfl) ?_
              exact WJ.weaken (by repeat (first | exact Sub.nil | refine Sub.cons rfl ?_)) (hQ _ _ ⟨met.getD ((t26 - (1 : Int)).toNat) false, rfl, by rw [b7] <;> rfl, rfl⟩)
            · refine WJ.no rfl rfl (okb b7) rfl ?_
              refine WJ.no rfl rfl (okb b7) rfl ?_
              refine WJ.no rfl rfl (okb b7) rfl ?_
              refine WJ.no rfl rfl (okb b7) rfl ?_
              refine WJ.no rfl rfl (okb b7) rfl ?_
              refine WJ.y rfl rfl (fun w' hw' => Yld.pickF (okb b7) rfl) ?_
              exact WJ.weaken (by repeat (first | exact Sub.nil | refine Sub.cons rfl ?_)) (hQ _ _ ⟨false, rfl, by rw [b7] <;> rfl, rfl⟩)
    · replace H := H.2 (of_decide_eq_false b2)
      refine WC.exit (WX.then_exit (WX.then_exit (WX.block_same (WX.then_normal ?_))))
      refine WC.region ?_
      refine WL.y rfl (Yld.pure tab_ok rfl) ?_
      refine WL.y rfl (Yld.pure tab_ok rfl) ?_
      refine WL.nil (WX.block_normal (WX.then_normal ?_))
      refine WC.region ?_
      obtain ⟨h18, H⟩ := H
      refine WL.y rfl (Yld.add rfl rfl h18) ?_
      refine WL.y rfl (Yld.pure tab_ok rfl) ?_
      refine WL.nil ?_
      exact WX.roundF _ ⟨next, (some ⟨g2, 0, none⟩), ((s.length : Int) + (1 : Int)).toNat, ((s.length : Int) + (1 : Int)).toNat, t17 + (1 : Int), rfl, rfl, H.1, hn_next, gr5, k4⟩ (by repeat (first | exact Sub.nil | refine Sub.cons rfl ?_)) H.2
  · replace H := H.2 (of_decide_eq_false b1)
    refine WC.exit (WX.then_exit (WX.then_exit (WX.block_same (WX.then_normal ?_))))
    refine WC.seq ?_
    refine WC.region ?_
    refine WL.y rfl (Yld.pure tab_ok rfl) ?_
    refine WL.y rfl (Yld.pure tab_ok rfl) ?_
    refine WL.y rfl (Yld.pure tab_ok rfl) ?_
    obtain ⟨h19, H⟩ := H
    refine WL.y rfl (Yld.iaddrW tab_ok k1.rd rfl rfl rfl rfl h19.1 h19.2) ?_
    refine WL.y rfl (Yld.iload false tab_ok k1.rd rfl rfl (iltN h19 rfl)) ?_
    refine WL.y rfl (Yld.pure tab_ok rfl) ?_
    refine WL.nil (WX.then_normal ?_)
    refine WC.ret ?_
    exact WX.ret1 rfl rfl ⟨gr3, met.getD ((s.length : Int).toNat) false, rfl, H⟩

set_option maxHeartbeats 8000000 in
theorem W_path_parts {w : World} {pat : List (List UInt8)} {A_pat : Option Addr} {c_pat : Nat} {l : List (List UInt8)} {A_l : Option Addr} {c_l : Nat} {n_pat : Nat} {n_l : Nat} {K : Bool → Prop} (hpat : Rd vs w A_pat c_pat pat) (hn_pat : n_pat = pat.length) (hl : Rd vs w A_l c_l l) (hn_l : n_l = l.length) (H : M_path_parts pat l K) : Fn Tryd.prog 81 ⟨[.slice A_pat n_pat c_pat, .slice A_l n_l c_l]⟩ w (fun v w' => w.grownBy w' none ∧ ∃ (r : Bool), v = .bool r ∧ K r) := by
  subst hn_pat
  subst hn_l
  unfold M_path_parts at H
  refine Fn.enter (by kernel_rfl) Tryd.func81 rfl Tryd.ntmps81 rfl ?_
  replace H := H (Nat.le_trans hpat.cap hpat.max)
  replace H := H (Nat.le_trans hl.cap hl.max)
  refine WC.seq ?_
  refine WC.region ?_
  refine WL.y rfl (Yld.pure tab_ok rfl) ?_
  refine WL.nil (WX.then_normal ?_)
  refine WC.seq ?_
  refine WC.region ?_
  refine WL.y rfl (Yld.pure tab_ok rfl) ?_
  refine WL.y rfl (Yld.pure tab_ok rfl) ?_
  obtain ⟨h1, H⟩ := H
  refine WL.y rfl (Yld.add rfl rfl h1) ?_
  obtain ⟨h2, H⟩ := H
  refine WL.makeZI (f := vB) (z := false) (B := w.heap.size) tab_ok rfl rfl zero4 rfl rfl h2.1 h2.2.1 h2.2.2 (Nat.le_refl _) (fun g1 w1 hO1 hg1 hl1 => ?_)
  have gr1 := hg1
  refine WL.y rfl (Yld.pure tab_ok rfl) ?_
  refine WL.nil (WX.then_normal ?_)
  refine WC.seq ?_
  refine WC.region ?_
  refine WL.y rfl (Yld.pure tab_ok rfl) ?_
  obtain ⟨h3, H⟩ := H
  refine WL.y rfl (Yld.iaddrW tab_ok hO1.rd rfl rfl ((List.length_replicate).symm) rfl h3.1 h3.2) ?_
  refine WL.ostore (v := true) one4 One.B hO1 rfl rfl (iltN h3 ((List.length_replicate).symm)) (fun w2 hO2 hg2 => ?_)
  have gr2 := gr_mod gr1 hg2 hO1.ge'
  refine WL.nil (WX.then_normal ?_)
  refine WC.seq ?_
  refine WC.seq ?_
  refine WC.region ?_
  refine WL.y rfl (Yld.pure tab_ok rfl) ?_
  refine WL.y rfl (Yld.pure tab_ok rfl) ?_
  refine WL.y rfl (Yld.pure tab_ok rfl) ?_
  refine WL.nil (WX.then_normal ?_)
  refine WC.block ?_
  obtain ⟨I1, mu1, h0_1, HR1⟩ := H
  refine WC.loopF (fun n' L' w' => ∃ (met : List Bool), ∃ (A_met : Option Addr), ∃ (c_met : Nat), ∃ (n_met : Nat), ∃ (t18 : Int), n' = mu1 met t18 ∧ L' = [(1, .slice A_l l.length c_l), (5, .slice A_met n_met c_met), (16, .slice A_pat pat.length c_pat), (17, .int .i64 (pat.length : Int)), (18, .int .i64 t18)] ∧ I1 met t18 ∧ n_met = met.length ∧ w.grownBy w' none ∧ Own vB w' w.heap.size 4 A_met c_met met) _ _ ⟨(List.replicate ((l.length : Int) + (1 : Int)).toNat false).set 0 true, (some ⟨g1, 0, none⟩), ((l.length : Int) + (1 : Int)).toNat, ((l.length : Int) + (1 : Int)).toNat, (0 : Int), rfl, rfl, h0_1, (((List.length_replicate).symm).trans List.length_set.symm), gr2, hO2⟩ (by repeat (first | exact Sub.nil | refine Sub.cons rfl ?_)) ?_
  clear h0_1
  rintro _ _ w3 ⟨met, A_met, c_met, n_met, t18, rfl, rfl, hI1, rfl, gr3, k1⟩
  have H := HR1 met t18 hI1
  refine WC.seq ?_
  refine WC.region ?_
  refine WL.y rfl (Yld.pure tab_ok rfl) ?_
  refine WL.nil (WX.then_normal ?_)
  refine WC.seq ?_
  refine WC.cond rfl (fun b1 => ?_) (fun b1 => ?_)
  · replace H := H.1 (of_decide_eq_true b1)
    refine WC.skip (WX.then_normal ?_)
    refine WC.seq ?_
    refine WC.block ?_
    refine WC.seq ?_
    refine WC.region ?_
    obtain ⟨h4, H⟩ := H
    refine WL.y rfl (Yld.iaddrW tab_ok (hpat.grown gr3) rfl rfl rfl rfl h4.1 h4.2) ?_
    refine WL.y rfl (Yld.iload [] tab_ok (hpat.grown gr3) rfl rfl (iltN h4 rfl)) ?_
    refine WL.y rfl (Yld.pure tab_ok rfl) ?_
    refine WL.nil (WX.then_normal ?_)
    refine WC.seq ?_
    refine WC.region ?_
    refine WL.y rfl (Yld.pure tab_ok rfl) ?_
    refine WL.y rfl (Yld.pure tab_ok rfl) ?_
    obtain ⟨h5, H⟩ := H
    refine WL.y rfl (Yld.add rfl rfl h5) ?_
    obtain ⟨h6, H⟩ := H
    refine WL.makeZI (f := vB) (z := false) (B := w.heap.size) tab_ok rfl rfl zero4 rfl rfl h6.1 h6.2.1 h6.2.2 (size_le gr3) (fun g2 w4 hO3 hg3 hl2 => ?_)
    have gr4 := gr_trans gr3 hg3
    have k2 := k1.grown hg3
    refine WL.y rfl (Yld.pure tab_ok rfl) ?_
    refine WL.nil (WX.then_normal ?_)
    refine WC.seq ?_
    refine WC.seq ?_
    refine WC.region ?_
    refine WL.y rfl (Yld.pure tab_ok rfl) ?_
    refine WL.y rfl (Yld.pure tab_ok rfl) ?_
    refine WL.y rfl (Yld.pure tab_ok rfl) ?_
    refine WL.nil (WX.then_normal ?_)
    refine WC.block ?_
    obtain ⟨I2, mu2, h0_2, HR2⟩ := H
    refine WC.loopF (fun n' L' w' => ∃ (t28 : Int), ∃ (next : List Bool), n' = mu2 t28 next ∧ L' = [(1, .slice A_l l.length c_l), (5, .slice A_met met.length c_met), (7, vs (pat.getD t18.toNat [])), (8, .slice (some ⟨g2, 0, none⟩) (((l.length : Int) + (1 : Int)).toNat) (((l.length : Int) + (1 : Int)).toNat)), (16, .slice A_pat pat.length c_pat), (17, .int .i64 (pat.length : Int)), (18, .int .i64 t18), (27, .int .i64 (met.length : Int)), (28, .int .i64 t28)] ∧ I2 t28 next ∧ ((l.length : Int) + (1 : Int)).toNat = next.length ∧ w.grownBy w' none ∧ Own vB w' w.heap.size 4 A_met c_met met ∧ Own vB w' w.heap.size 4 (some ⟨g2, 0, none⟩) (((l.length : Int) + (1 : Int)).toNat) next ∧ Dj (blk A_met) (blk (some ⟨g2, 0, none⟩))) _ _ ⟨(0 : Int), (List.replicate ((l.length : Int) + (1 : Int)).toNat false), rfl, rfl, h0_2, (List.length_replicate).symm, gr4, k2, hO3, (Dj.new k1.lt' (Ge.box hl2))⟩ (by repeat (first | exact Sub.nil | refine Sub.cons rfl ?_)) ?_
    clear h0_2
    rintro _ _ w5 ⟨t28, next, rfl, rfl, hI2, hn_next, gr5, k3, k4, dj1⟩
    have H := HR2 t28 next hI2
    replace H := H hn_next
    refine WC.seq ?_
    refine WC.region ?_
    refine WL.y rfl (Yld.pure tab_ok rfl) ?_
    refine WL.nil (WX.then_normal ?_)
    refine WC.seq ?_
    refine WC.cond rfl (fun b2 => ?_) (fun b2 => ?_)
    · replace H := H.1 (of_decide_eq_true b2)
      refine WC.skip (WX.then_normal ?_)
      refine WC.seq ?_
      obtain ⟨J1, H, hJ1⟩ := H
      refine WC.midF (fun L' w' => ∃ (xs : List Bool), L' = [(1, .slice A_l l.length c_l), (5, .slice A_met met.length c_met), (7, vs (pat.getD t18.toNat [])), (8, .slice (some ⟨g2, 0, none⟩) (((l.length : Int) + (1 : Int)).toNat) (((l.length : Int) + (1 : Int)).toNat)), (16, .slice A_pat pat.length c_pat), (17, .int .i64 (pat.length : Int)), (18, .int .i64 t18), (27, .int .i64 (met.length : Int)), (28, .int .i64 t28)] ∧ J1 xs ∧ ((l.length : Int) + (1 : Int)).toNat = xs.length ∧ w.grownBy w' none ∧ Own vB w' w.heap.size 4 A_met c_met met ∧ Own vB w' w.heap.size 4 (some ⟨g2, 0, none⟩) (((l.length : Int) + (1 : Int)).toNat) xs ∧ Dj (blk A_met) (blk (some ⟨g2, 0, none⟩))) ?_ (fun hQ => ?_)
      · clear H
        rintro _ w6 ⟨xs, rfl, H, hn_xs, gr6, k5, k6, dj2⟩
        replace H := hJ1 xs H
        replace H := H hn_xs
        refine WX.then_normal ?_
        refine WC.region ?_
        obtain ⟨h7, H⟩ := H
        refine WL.y rfl (Yld.add rfl rfl h7) ?_
        refine WL.y rfl (Yld.pure tab_ok rfl) ?_
        refine WL.nil ?_
        exact WX.roundF _ ⟨t28 + (1 : Int), xs, rfl, rfl, H.1, hn_xs, gr6, k5, k6, dj2⟩ (by repeat (first | exact Sub.nil | refine Sub.cons rfl ?_)) H.2
      · clear hJ1
        refine WC.block ?_
        refine WC.seq ?_
        refine WC.region ?_
        refine WL.y rfl (Yld.pure tab_ok rfl) ?_
        refine WL.y rfl (Yld.pure tab_ok rfl) ?_
        refine WL.nil (WX.then_normal ?_)
        refine WC.seq ?_
        refine WC.region ?_
        refine WL.y rfl (Yld.pure tab_ok rfl) ?_
        refine WL.y rfl (Yld.pure tab_ok rfl) ?_
        refine WL.nil (WX.then_normal ?_)
        refine WC.cond rfl (fun b3 => ?_) (fun b3 => ?_)
        · replace H := H.1 (of_decide_eq_true b3)
          refine WC.region ?_
          refine WL.y rfl (Yld.pure tab_ok rfl) ?_
          refine WL.y rfl (Yld.pure tab_ok rfl) ?_
          refine WL.y rfl (Yld.pure tab_ok rfl) ?_
          refine WL.y rfl (Yld.pure tab_ok rfl) ?_
          obtain ⟨h8, H⟩ := H
          refine WL.y rfl (Yld.iaddrW tab_ok k3.rd rfl rfl rfl rfl h8.1 h8.2) ?_
          refine WL.y rfl (Yld.iload false tab_ok k3.rd rfl rfl (iltN h8 rfl)) ?_
          refine WL.y rfl (Yld.pure tab_ok rfl) ?_
          obtain ⟨h9, H⟩ := H
          obtain ⟨h10, H⟩ := H
          refine WL.midF 10 (fun L' w' => ∃ q1 : Bool, L' = [(49, .bool q1), (1, .slice A_l l.length c_l), (5, .slice A_met met.length c_met), (7, vs (pat.getD t18.toNat [])), (8, .slice (some ⟨g2, 0, none⟩) (((l.length : Int) + (1 : Int)).toNat) (((l.length : Int) + (1 : Int)).toNat)), (16, .slice A_pat pat.length c_pat), (17, .int .i64 (pat.length : Int)), (18, .int .i64 t18), (27, .int .i64 (met.length : Int)), (28, .int .i64 t28), (33, .slice (some ⟨g2, 0, none⟩) (((l.length : Int) + (1 : Int)).toNat) (((l.length : Int) + (1 : Int)).toNat)), (34, .int .i64 t28)] ∧ q1 = ((met.getD t28.toNat false) || ((decide ((0 : Int) < t28)) && (next.getD ((t28 - (1 : Int)).toNat) false))) ∧ w5 = w') ?_ (fun hQ => ?_)
          · rintro _ _ ⟨q1, rfl, rfl, rfl⟩
            obtain ⟨h11, H⟩ := H
            refine WL.y rfl (Yld.iaddrW tab_ok k4.rd rfl rfl hn_next rfl h11.1 h11.2) ?_
            refine WL.ostore (v := (met.getD t28.toNat false) || ((decide ((0 : Int) < t28)) && (next.getD ((t28 - (1 : Int)).toNat) false))) one4 One.B k4 rfl rfl (iltN h11 hn_next) (fun w7 hO4 hg4 => ?_)
            have gr7 := gr_mod gr5 hg4 k4.ge'
            have k7 := k3.go hg4 dj1
            refine WL.nil (WX.block_normal ?_)
            exact WX.weaken (by repeat (first | exact Sub.nil | refine Sub.cons rfl ?_)) (hQ _ _ ⟨next.set t28.toNat ((met.getD t28.toNat false) || ((decide ((0 : Int) < t28)) && (next.getD ((t28 - (1 : Int)).toNat) false))), rfl, H, (hn_next.trans List.length_set.symm), gr7, k7, hO4, dj1⟩)
          · clear H
            rcases Bool.eq_false_or_eq_true (met.getD t28.toNat false) with b4 | b4
            · refine WL.gno rfl rfl (okb b4) rfl ?_
              refine WL.gno rfl rfl (okb b4) rfl ?_
              refine WL.gno rfl rfl (okb b4) rfl ?_
              refine WL.gun rfl rfl rfl rfl ?_
              refine WL.gun rfl rfl rfl rfl ?_
              refine WL.gun rfl rfl rfl rfl ?_
              refine WL.gun rfl rfl rfl rfl ?_
              refine WL.gun rfl rfl rfl rfl ?_
              refine WL.gno rfl rfl (okb b4) rfl ?_
              refine WL.y rfl (Yld.pickT (okb b4) rfl) ?_
              exact WL.weaken (by repeat (first | exact Sub.nil | refine Sub.cons rfl ?_)) (hQ _ _ ⟨true, rfl, by rw [b4] <;> rfl, rfl⟩)
            · refine WL.gyes rfl rfl (okb b4) rfl (Yld.pure tab_ok rfl) ?_
              refine WL.gyes rfl rfl (okb b4) rfl (Yld.pure tab_ok rfl) ?_
              refine WL.gyes rfl rfl (okb b4) rfl (Yld.pure tab_ok rfl) ?_
              rcases Bool.eq_false_or_eq_true (decide ((0 : Int) < t28)) with b5 | b5
              · refine WL.gyes rfl rfl (okb b5) rfl (Yld.pure tab_ok rfl) ?_
                refine WL.gyes rfl rfl (okb b5) rfl (Yld.pure tab_ok rfl) ?_
                refine WL.gyes rfl rfl (okb b5) rfl (Yld.sub rfl rfl (h9 b4 b5)) ?_
                refine WL.gyes rfl rfl (okb b5) rfl (Yld.iaddrW tab_ok k4.rd rfl rfl hn_next rfl (h10 b4 b5).1 (h10 b4 b5).2) ?_
                refine WL.gyes rfl rfl (okb b5) rfl (Yld.iload false tab_ok k4.rd rfl rfl (iltN (h10 b4 b5) hn_next)) ?_
                refine WL.gyes rfl rfl (okb b4) rfl (Yld.pickT (okb b5) rfl) ?_
                refine WL.y rfl (Yld.pickF (okb b4) rfl) ?_
                exact WL.weaken (by repeat (first | exact Sub.nil | refine Sub.cons rfl ?_)) (hQ _ _ ⟨next.getD ((t28 - (1 : Int)).toNat) false, rfl, by rw [b4, b5] <;> rfl, rfl⟩)
              · refine WL.gno rfl rfl (okb b5) rfl ?_
                refine WL.gno rfl rfl (okb b5) rfl ?_
                refine WL.gno rfl rfl (okb b5) rfl ?_
                refine WL.gno rfl rfl (okb b5) rfl ?_
                refine WL.gno rfl rfl (okb b5) rfl ?_
                refine WL.gyes rfl rfl (okb b4) rfl (Yld.pickF (okb b5) rfl) ?_
                refine WL.y rfl (Yld.pickF (okb b4) rfl) ?_
                exact WL.weaken (by repeat (first | exact Sub.nil | refine Sub.cons rfl ?_)) (hQ _ _ ⟨false, rfl, by rw [b4, b5] <;> rfl, rfl⟩)
        · replace H := H.2 (of_decide_eq_false b3)
          refine WC.region ?_
          refine WL.y rfl (Yld.pure tab_ok rfl) ?_
          refine WL.y rfl (Yld.pure tab_ok rfl) ?_
          refine WL.y rfl (Yld.pure tab_ok rfl) ?_
          refine WL.y rfl (Yld.pure tab_ok rfl) ?_
          refine WL.y rfl (Yld.pure tab_ok rfl) ?_
          obtain ⟨h12, H⟩ := H
          obtain ⟨h13, H⟩ := H
          refine WL.midF 6 (fun L' w' => ∃ q2 : Bool, L' = [(61, .bool q2), (1, .slice A_l l.length c_l), (5, .slice A_met met.length c_met), (7, vs (pat.getD t18.toNat [])), (8, .slice (some ⟨g2, 0, none⟩) (((l.length : Int) + (1 : Int)).toNat) (((l.length : Int) + (1 : Int)).toNat)), (9, .int .i64 t28), (16, .slice A_pat pat.length c_pat), (17, .int .i64 (pat.length : Int)), (18, .int .i64 t18), (27, .int .i64 (met.length : Int)), (28, .int .i64 t28), (51, .slice (some ⟨g2, 0, none⟩) (((l.length : Int) + (1 : Int)).toNat) (((l.length : Int) + (1 : Int)).toNat)), (52, .int .i64 t28)] ∧ q2 = ((decide ((0 : Int) < t28)) && (met.getD ((t28 - (1 : Int)).toNat) false)) ∧ w5 = w') ?_ (fun hQ => ?_)
          · rintro _ _ ⟨q2, rfl, rfl, rfl⟩
            refine WL.y rfl (Yld.pure tab_ok rfl) ?_
            obtain ⟨J2, H, hJ2⟩ := H
            refine WL.midF 8 (fun L' w' => ∃ q3 : Bool, L' = [(70, .bool q3), (1, .slice A_l l.length c_l), (5, .slice A_met met.length c_met), (7, vs (pat.getD t18.toNat [])), (8, .slice (some ⟨g2, 0, none⟩) (((l.length : Int) + (1 : Int)).toNat) (((l.length : Int) + (1 : Int)).toNat)), (16, .slice A_pat pat.length c_pat), (17, .int .i64 (pat.length : Int)), (18, .int .i64 t18), (27, .int .i64 (met.length : Int)), (28, .int .i64 t28), (51, .slice (some ⟨g2, 0, none⟩) (((l.length : Int) + (1 : Int)).toNat) (((l.length : Int) + (1 : Int)).toNat)), (52, .int .i64 t28)] ∧ J2 q3 ∧ w.grownBy w' none ∧ Own vB w' w.heap.size 4 A_met c_met met ∧ Own vB w' w.heap.size 4 (some ⟨g2, 0, none⟩) (((l.length : Int) + (1 : Int)).toNat) next) ?_ (fun hQ => ?_)
            · clear H
              rintro _ w8 ⟨q3, rfl, H, gr8, k8, k9⟩
              replace H := hJ2 q3 H
              obtain ⟨h14, H⟩ := H
              refine WL.y rfl (Yld.iaddrW tab_ok k9.rd rfl rfl hn_next rfl h14.1 h14.2) ?_
              refine WL.ostore (v := q3) one4 One.B k9 rfl rfl (iltN h14 hn_next) (fun w9 hO5 hg5 => ?_)
              have gr9 := gr_mod gr8 hg5 k9.ge'
              have k10 := k8.go hg5 dj1
              refine WL.nil (WX.block_normal ?_)
              exact WX.weaken (by repeat (first | exact Sub.nil | refine Sub.cons rfl ?_)) (hQ _ _ ⟨next.set t28.toNat q3, rfl, H, (hn_next.trans List.length_set.symm), gr9, k10, hO5, dj1⟩)
            · clear hJ2
              rcases Bool.eq_false_or_eq_true ((decide ((0 : Int) < t28)) && (met.getD ((t28 - (1 : Int)).toNat) false)) with b6 | b6
              · replace H := H.1 b6
                refine WL.gyes rfl rfl (okb b6) rfl (Yld.pure tab_ok rfl) ?_
                refine WL.gyes rfl rfl (okb b6) rfl (Yld.pure tab_ok rfl) ?_
                refine WL.gyes rfl rfl (okb b6) rfl (Yld.pure tab_ok rfl) ?_
                obtain ⟨h15, H⟩ := H
                refine WL.gyes rfl rfl (okb b6) rfl (Yld.sub rfl rfl h15) ?_
                obtain ⟨h16, H⟩ := H
                refine WL.gyes rfl rfl (okb b6) rfl (Yld.iaddrW tab_ok (hl.grown gr5) rfl rfl rfl rfl h16.1 h16.2) ?_
                refine WL.gyes rfl rfl (okb b6) rfl (Yld.iload [] tab_ok (hl.grown gr5) rfl rfl (iltN h16 rfl)) ?_
                refine WL.callw (wants_some rfl rfl (okb b6)) rfl rfl (W_path_part H) ?_
                rintro _ w10 ⟨hg6, t69, rfl, H⟩
                have gr10 := gr_trans gr5 hg6
                have k11 := k3.grown hg6
                have k12 := k4.grown hg6
                refine WL.y rfl (Yld.pickT (okb b6) rfl) ?_
                exact WL.weaken (by repeat (first | exact Sub.nil | refine Sub.cons rfl ?_)) (hQ _ _ ⟨t69, rfl, H, gr10, k11, k12⟩)
              · replace H := H.2 b6
                refine WL.gno rfl rfl (okb b6) rfl ?_
                refine WL.gno rfl rfl (okb b6) rfl ?_
                refine WL.gno rfl rfl (okb b6) rfl ?_
                refine WL.gno rfl rfl (okb b6) rfl ?_
                refine WL.gno rfl rfl (okb b6) rfl ?_
                refine WL.gno rfl rfl (okb b6) rfl ?_
                refine WL.gno rfl rfl (okb b6) rfl ?_
                refine WL.y rfl (Yld.pickF (okb b6) rfl) ?_
                exact WL.weaken (by repeat (first | exact Sub.nil | refine Sub.cons rfl ?_)) (hQ _ _ ⟨false, rfl, H, gr5, k3, k4⟩)
          · clear H
            rcases Bool.eq_false_or_eq_true (decide ((0 : Int) < t28)) with b7 | b7
            · refine WL.gyes rfl rfl (okb b7) rfl (Yld.pure tab_ok rfl) ?_
              refine WL.gyes rfl rfl (okb b7) rfl (Yld.pure tab_ok rfl) ?_
              refine WL.gyes rfl rfl (okb b7) rfl (Yld.sub rfl rfl (h12 b7)) ?_
              refine WL.gyes rfl rfl (okb b7) rfl (Yld.iaddrW tab_ok k3.rd rfl rfl rfl rfl (h13 b7).1 (h13 b7).2) ?_
              refine WL.gyes rfl rfl (okb b7) rfl (Yld.iload false tab_ok k3.rd rfl rfl (iltN (h13 b7) rfl)) ?_
              refine WL.y rfl (Yld.pickT (okb b7) rfl) ?_
              exact WL.weaken (by repeat (first | exact Sub.nil | refine Sub.cons rfl ?_)) (hQ _ _ ⟨met.getD ((t28 - (1 : Int)).toNat) false, rfl, by rw [b7] <;> rfl, rfl⟩)
            · refine WL.gno rfl rfl (okb b7) rfl ?_
              refine WL.gno rfl rfl (okb b7) rfl ?_
              refine WL.gno rfl rfl (okb b7) rfl ?_
              refine WL.gno rfl rfl (okb b7) rfl ?_
              refine WL.gno rfl rfl (okb b7) rfl ?_
              refine WL.y rfl (Yld.pickF (okb b7) rfl) ?_
              exact WL.weaken (by repeat (first | exact Sub.nil | refine Sub.cons rfl ?_)) (hQ _ _ ⟨false, rfl, by rw [b7] <;> rfl, rfl⟩)
    · replace H := H.2 (of_decide_eq_false b2)
      refine WC.exit (WX.then_exit (WX.then_exit (WX.block_same (WX.then_normal ?_))))
      refine WC.region ?_
      refine WL.y rfl (Yld.pure tab_ok rfl) ?_
      refine WL.y rfl (Yld.pure tab_ok rfl) ?_
      refine WL.nil (WX.block_normal (WX.then_normal ?_))
      refine WC.region ?_
      obtain ⟨h17, H⟩ := H
      refine WL.y rfl (Yld.add rfl rfl h17) ?_
      refine WL.y rfl (Yld.pure tab_ok rfl) ?_
      refine WL.nil ?_
      exact WX.roundF _ ⟨next, (some ⟨g2, 0, none⟩), ((l.length : Int) + (1 : Int)).toNat, ((l.length : Int) + (1 : Int)).toNat, t18 + (1 : Int), rfl, rfl, H.1, hn_next, gr5, k4⟩ (by repeat (first | exact Sub.nil | refine Sub.cons rfl ?_)) H.2
  · replace H := H.2 (of_decide_eq_false b1)
    refine WC.exit (WX.then_exit (WX.then_exit (WX.block_same (WX.then_normal ?_))))
    refine WC.seq ?_
    refine WC.region ?_
    refine WL.y rfl (Yld.pure tab_ok rfl) ?_
    refine WL.y rfl (Yld.pure tab_ok rfl) ?_
    refine WL.y rfl (Yld.pure tab_ok rfl) ?_
    obtain ⟨h18, H⟩ := H
    refine WL.y rfl (Yld.iaddrW tab_ok k1.rd rfl rfl rfl rfl h18.1 h18.2) ?_
    refine WL.y rfl (Yld.iload false tab_ok k1.rd rfl rfl (iltN h18 rfl)) ?_
    refine WL.y rfl (Yld.pure tab_ok rfl) ?_
    refine WL.nil (WX.then_normal ?_)
    refine WC.ret ?_
    exact WX.ret1 rfl rfl ⟨gr3, met.getD ((l.length : Int).toNat) false, rfl, H⟩

set_option maxHeartbeats 8000000 in
theorem W_path_pattern {S : List Nat} {w : World} {s : List UInt8} {K : (List (List UInt8)) → Bool → Prop} (hG : GOK S w) (hS100 : 100 ∈ S) (H : M_path_pattern s K) : Fn Tryd.prog 80 ⟨[vs s]⟩ w (fun v w' => w.grownBy w' none ∧ ∃ (r0 : List (List UInt8)), ∃ (A_r0 : Option Addr), ∃ (c_r0 : Nat), ∃ (r1 : Bool), v = .tuple #[.slice A_r0 r0.length c_r0, .bool r1] ∧ Own vs w' w.heap.size 9 A_r0 c_r0 r0 ∧ K r0 r1) := by
  unfold M_path_pattern at H
  refine Fn.enter (by kernel_rfl) Tryd.func80 rfl Tryd.ntmps80 rfl ?_
  refine WC.seq ?_
  refine WC.region ?_
  refine WL.y rfl (Yld.pure tab_ok rfl) ?_
  refine WL.y rfl (Yld.pure tab_ok rfl) ?_
  refine WL.nil (WX.then_normal ?_)
  refine WC.seq ?_
  refine WC.region ?_
  refine WL.y rfl (Yld.pure tab_ok rfl) ?_
  refine WL.call rfl rfl (W_strings_Split hG hS100 H) ?_
  rintro _ w1 ⟨hg1, l, A_l, c_l, rfl, hl, H⟩
  have hb1 := hl.ge'
  have k1 := hl.base (fun g hg => Nat.le_trans (Nat.le_refl _) (hb1 g hg))
  have gr1 := hg1
  refine WL.y rfl (Yld.pure tab_ok rfl) ?_
  refine WL.nil (WX.then_normal ?_)
  refine WC.seq ?_
  refine WC.seq ?_
  refine WC.region ?_
  refine WL.y rfl (Yld.pure tab_ok rfl) ?_
  refine WL.y rfl (Yld.pure tab_ok rfl) ?_
  refine WL.y rfl (Yld.pure tab_ok rfl) ?_
  refine WL.nil (WX.then_normal ?_)
  refine WC.block ?_
  obtain ⟨I1, mu1, h0_1, HR1⟩ := H
  refine WC.loopF (fun n' L' w' => ∃ (t11 : Int), n' = mu1 t11 ∧ L' = [(0, vs s), (4, .slice A_l l.length c_l), (9, .slice A_l l.length c_l), (10, .int .i64 (l.length : Int)), (11, .int .i64 t11)] ∧ I1 t11 ∧ w.grownBy w' none ∧ Own vs w' w.heap.size 9 A_l c_l l) _ _ ⟨(0 : Int), rfl, rfl, h0_1, gr1, k1⟩ (by repeat (first | exact Sub.nil | refine Sub.cons rfl ?_)) ?_
  clear h0_1
  rintro _ _ w2 ⟨t11, rfl, rfl, hI1, gr2, k2⟩
  have H := HR1 t11 hI1
  refine WC.seq ?_
  refine WC.region ?_
  refine WL.y rfl (Yld.pure tab_ok rfl) ?_
  refine WL.nil (WX.then_normal ?_)
  refine WC.seq ?_
  refine WC.cond rfl (fun b1 => ?_) (fun b1 => ?_)
  · replace H := H.1 (of_decide_eq_true b1)
    refine WC.skip (WX.then_normal ?_)
    refine WC.seq ?_
    refine WC.block ?_
    refine WC.seq ?_
    refine WC.region ?_
    obtain ⟨h1, H⟩ := H
    refine WL.y rfl (Yld.iaddrW tab_ok k2.rd rfl rfl rfl rfl h1.1 h1.2) ?_
    refine WL.y rfl (Yld.iload [] tab_ok k2.rd rfl rfl (iltN h1 rfl)) ?_
    refine WL.y rfl (Yld.pure tab_ok rfl) ?_
    refine WL.nil (WX.then_normal ?_)
    refine WC.seq ?_
    refine WC.region ?_
    refine WL.y rfl (Yld.pure tab_ok rfl) ?_
    refine WL.call rfl rfl (W_strings_Contains (hG.grown gr2) hS100 H) ?_
    rintro _ _ ⟨rfl, t16, rfl, H⟩
    refine WL.y rfl (Yld.pure tab_ok rfl) ?_
    refine WL.midF 3 (fun L' w' => ∃ q1 : Bool, L' = [(20, .bool q1), (0, vs s), (4, .slice A_l l.length c_l), (6, vs (l.getD t11.toNat [])), (9, .slice A_l l.length c_l), (10, .int .i64 (l.length : Int)), (11, .int .i64 t11)] ∧ q1 = (t16 && (!decide ((l.getD t11.toNat []) = ([42, 42] : List UInt8)))) ∧ w2 = w') ?_ (fun hQ => ?_)
    · rintro _ _ ⟨q1, rfl, rfl, rfl⟩
      refine WL.y rfl (Yld.pure tab_ok rfl) ?_
      obtain ⟨J1, H, hJ1⟩ := H
      refine WL.midF 3 (fun L' w' => ∃ q2 : Bool, L' = [(24, .bool q2), (0, vs s), (4, .slice A_l l.length c_l), (6, vs (l.getD t11.toNat [])), (9, .slice A_l l.length c_l), (10, .int .i64 (l.length : Int)), (11, .int .i64 t11)] ∧ J1 q2 ∧ w2 = w') ?_ (fun hQ => ?_)
      · clear H
        rintro _ _ ⟨q2, rfl, H, rfl⟩
        replace H := hJ1 q2 H
        refine WL.y rfl (Yld.pure tab_ok rfl) ?_
        obtain ⟨J2, H, hJ2⟩ := H
        refine WL.midF 5 (fun L' w' => ∃ q3 : Bool, L' = [(30, .bool q3), (0, vs s), (4, .slice A_l l.length c_l), (9, .slice A_l l.length c_l), (10, .int .i64 (l.length : Int)), (11, .int .i64 t11)] ∧ J2 q3 ∧ w.grownBy w' none ∧ Own vs w' w.heap.size 9 A_l c_l l) ?_ (fun hQ => ?_)
        · clear H
          rintro _ w3 ⟨q3, rfl, H, gr3, k3⟩
          replace H := hJ2 q3 H
          refine WL.nil (WX.then_normal ?_)
          refine WC.cond rfl (fun b2 => ?_) (fun b2 => ?_)
          · replace H := H.1 (b2)
            refine WC.seq ?_
            refine WC.region ?_
            refine WL.y rfl (Yld.pure tab_ok rfl) ?_
            refine WL.y rfl (Yld.pure tab_ok rfl) ?_
            refine WL.nil (WX.then_normal ?_)
            refine WC.ret (WX.block_ret (WX.then_ret (WX.then_ret (WX.block_ret (WX.then_ret ?_)))))
            exact WX.ret2 rfl rfl rfl ⟨gr3, [], none, 0, false, rfl, (Own.nil vs w3 w.heap.size 9), H⟩
          · replace H := H.2 (b2)
            refine WC.skip (WX.block_normal (WX.then_normal ?_))
            refine WC.region ?_
            obtain ⟨h2, H⟩ := H
            refine WL.y rfl (Yld.add rfl rfl h2) ?_
            refine WL.y rfl (Yld.pure tab_ok rfl) ?_
            refine WL.nil ?_
            exact WX.roundF _ ⟨t11 + (1 : Int), rfl, rfl, H.1, gr3, k3⟩ (by repeat (first | exact Sub.nil | refine Sub.cons rfl ?_)) H.2
        · clear hJ2
          rcases Bool.eq_false_or_eq_true (q2) with b3 | b3
          · replace H := H.1 b3
            refine WL.gno rfl rfl (okb b3) rfl ?_
            refine WL.gno rfl rfl (okb b3) rfl ?_
            refine WL.gno rfl rfl (okb b3) rfl ?_
            refine WL.gno rfl rfl (okb b3) rfl ?_
            refine WL.y rfl (Yld.pickT (okb b3) rfl) ?_
            exact WL.weaken (by repeat (first | exact Sub.nil | refine Sub.cons rfl ?_)) (hQ _ _ ⟨true, rfl, H, gr2, k2⟩)
          · replace H := H.2 b3
            refine WL.gyes rfl rfl (okb b3) rfl (Yld.pure tab_ok rfl) ?_
            refine WL.callw (wants_some rfl rfl (okb b3)) rfl rfl (W_strings_ReplaceAll (hG.grown gr2) hS100 H) ?_
            rintro _ w4 ⟨hg2, t27, rfl, H⟩
            have gr4 := gr_trans gr2 hg2
            have k4 := k2.grown hg2
            refine WL.callw (wants_some rfl rfl (okb b3)) rfl rfl (W_path_fair H) ?_
            rintro _ _ ⟨rfl, t28, rfl, H⟩
            refine WL.gyes rfl rfl (okb b3) rfl (Yld.pure tab_ok rfl) ?_
            refine WL.y rfl (Yld.pickF (okb b3) rfl) ?_
            exact WL.weaken (by repeat (first | exact Sub.nil | refine Sub.cons rfl ?_)) (hQ _ _ ⟨!t28, rfl, H, gr4, k4⟩)
      · clear hJ1
        rcases Bool.eq_false_or_eq_true (t16 && (!decide ((l.getD t11.toNat []) = ([42, 42] : List UInt8)))) with b4 | b4
        · replace H := H.1 b4
          refine WL.gno rfl rfl (okb b4) rfl ?_
          refine WL.gno rfl rfl (okb b4) rfl ?_
          refine WL.y rfl (Yld.pickT (okb b4) rfl) ?_
          exact WL.weaken (by repeat (first | exact Sub.nil | refine Sub.cons rfl ?_)) (hQ _ _ ⟨true, rfl, H, rfl⟩)
        · replace H := H.2 b4
          refine WL.gyes rfl rfl (okb b4) rfl (Yld.pure tab_ok rfl) ?_
          refine WL.callw (wants_some rfl rfl (okb b4)) rfl rfl (W_path_dots H) ?_
          rintro _ _ ⟨rfl, t23, rfl, H⟩
          refine WL.y rfl (Yld.pickF (okb b4) rfl) ?_
          exact WL.weaken (by repeat (first | exact Sub.nil | refine Sub.cons rfl ?_)) (hQ _ _ ⟨t23, rfl, H, rfl⟩)
    · clear H
      rcases Bool.eq_false_or_eq_true (t16) with b5 | b5
      · refine WL.gyes rfl rfl (okb b5) rfl (Yld.pure tab_ok rfl) ?_
        refine WL.gyes rfl rfl (okb b5) rfl (Yld.pure tab_ok rfl) ?_
        refine WL.y rfl (Yld.pickT (okb b5) rfl) ?_
        exact WL.weaken (by repeat (first | exact Sub.nil | refine Sub.cons rfl ?_)) (hQ _ _ ⟨!decide ((l.getD t11.toNat []) = ([42, 42] : List UInt8)), rfl, by rw [b5] <;> rfl, rfl⟩)
      · refine WL.gno rfl rfl (okb b5) rfl ?_
        refine WL.gno rfl rfl (okb b5) rfl ?_
        refine WL.y rfl (Yld.pickF (okb b5) rfl) ?_
        exact WL.weaken (by repeat (first | exact Sub.nil | refine Sub.cons rfl ?_)) (hQ _ _ ⟨false, rfl, by rw [b5] <;> rfl, rfl⟩)
  · replace H := H.2 (of_decide_eq_false b1)
    refine WC.exit (WX.then_exit (WX.then_exit (WX.block_same (WX.then_normal ?_))))
    refine WC.seq ?_
    refine WC.region ?_
    refine WL.y rfl (Yld.pure tab_ok rfl) ?_
    refine WL.y rfl (Yld.pure tab_ok rfl) ?_
    refine WL.y rfl (Yld.pure tab_ok rfl) ?_
    refine WL.y rfl (Yld.pure tab_ok rfl) ?_
    refine WL.y rfl (Yld.pure tab_ok rfl) ?_
    refine WL.y rfl (Yld.pure tab_ok rfl) ?_
    refine WL.nil (WX.then_normal ?_)
    refine WC.ret ?_
    exact WX.ret2 rfl rfl rfl ⟨gr2, l, A_l, c_l, decide ((s.length : Int) ≤ (200 : Int)), rfl, k2, H⟩

set_option maxHeartbeats 8000000 in
theorem W_path_Match {S : List Nat} {w : World} {pat : List UInt8} {p : List UInt8} {K : Bool → Er → Prop} (hG : GOK S w) (hS11 : 11 ∈ S) (hS100 : 100 ∈ S) (H : M_path_Match pat p K) : Fn Tryd.prog 40 ⟨[vs pat, vs p]⟩ w (fun v w' => w.grownBy w' none ∧ ∃ (r0 : Bool), ∃ (v_r1 : Value), ∃ (r1 : Er), v = .tuple #[.bool r0, v_r1] ∧ ErrR S w' v_r1 r1 ∧ K r0 r1) := by
  unfold M_path_Match at H
  refine Fn.enter (by kernel_rfl) Tryd.func40 rfl Tryd.ntmps40 rfl ?_
  refine WC.seq ?_
  refine WC.region ?_
  refine WL.y rfl (Yld.pure tab_ok rfl) ?_
  refine WL.y rfl (Yld.pure tab_ok rfl) ?_
  refine WL.nil (WX.then_normal ?_)
  refine WC.seq ?_
  refine WC.region ?_
  refine WL.y rfl (Yld.pure tab_ok rfl) ?_
  refine WL.call rfl rfl (W_path_pattern hG hS100 H) ?_
  rintro _ w1 ⟨hg1, t100, A_t100, c_t100, t101, rfl, ht100, H⟩
  have hb1 := ht100.ge'
  have k1 := ht100.base (fun g hg => Nat.le_trans (Nat.le_refl _) (hb1 g hg))
  have gr1 := hg1
  refine WL.y rfl (Yld.pure tab_ok rfl) ?_
  refine WL.y rfl (Yld.pure tab_ok rfl) ?_
  refine WL.y rfl (Yld.pure tab_ok rfl) ?_
  refine WL.y rfl (Yld.pure tab_ok rfl) ?_
  refine WL.y rfl (Yld.pure tab_ok rfl) ?_
  refine WL.nil (WX.then_normal ?_)
  refine WC.seq ?_
  refine WC.seq ?_
  refine WC.region ?_
  refine WL.y rfl (Yld.pure tab_ok rfl) ?_
  refine WL.y rfl (Yld.pure tab_ok rfl) ?_
  refine WL.nil (WX.then_normal ?_)
  refine WC.cond rfl (fun b1 => ?_) (fun b1 => ?_)
  · replace H := H.1 (b1)
    refine WC.seq ?_
    refine WC.quiet mixed (by kernel_rfl) ?_
    obtain ⟨vE1, _, hE1⟩ := GOK.get (hG.grown gr1) 11 1 hS11 rfl rfl
    refine WQ.y rfl (Yld.cell tab_ok (ErrR.cell hE1 rfl) rfl rfl) ?_
    refine WQ.y rfl (Yld.pure tab_ok rfl) ?_
    refine WQ.y rfl (Yld.pure tab_ok rfl) ?_
    refine WQ.nil (WX.then_normal ?_)
    refine WC.ret (WX.then_ret ?_)
    exact WX.ret2 rfl rfl rfl ⟨gr1, false, vE1, (Er.e 11), rfl, hE1, H⟩
  · replace H := H.2 (b1)
    refine WC.skip (WX.then_normal ?_)
    refine WC.seq ?_
    refine WC.region ?_
    refine WL.y rfl (Yld.pure tab_ok rfl) ?_
    refine WL.call rfl rfl (W_path_Valid (hG.grown gr1) hS100 H) ?_
    rintro _ w2 ⟨hg2, t17, rfl, H⟩
    have gr2 := gr_trans gr1 hg2
    have k2 := k1.grown hg2
    refine WL.y rfl (Yld.pure tab_ok rfl) ?_
    obtain ⟨J1, H, hJ1⟩ := H
    refine WL.midF 5 (fun L' w' => ∃ q1 : Bool, L' = [(23, .bool q1)] ∧ J1 q1 ∧ w.grownBy w' none) ?_ (fun hQ => ?_)
    · clear H
      rintro _ w3 ⟨q1, rfl, H, gr3⟩
      replace H := hJ1 q1 H
      refine WL.y rfl (Yld.pure tab_ok rfl) ?_
      refine WL.y rfl (Yld.pure tab_ok rfl) ?_
      refine WL.nil (WX.then_normal ?_)
      refine WC.ret ?_
      exact WX.ret2 rfl rfl rfl ⟨gr3, q1, .nilIface, Er.ok, rfl, (ErrR.okR (S := S) (w := w3)), H⟩
    · clear hJ1
      rcases Bool.eq_false_or_eq_true (t17) with b2 | b2
      · replace H := H.1 b2
        refine WL.gyes rfl rfl (okb b2) rfl (Yld.pure tab_ok rfl) ?_
        refine WL.gyes rfl rfl (okb b2) rfl (Yld.pure tab_ok rfl) ?_
        refine WL.callw (wants_some rfl rfl (okb b2)) rfl rfl (W_strings_Split (hG.grown gr2) hS100 H) ?_
        rintro _ w4 ⟨hg3, t21, A_t21, c_t21, rfl, ht21, H⟩
        have hb2 := ht21.ge'
        have k3 := ht21.base (fun g hg => Nat.le_trans (size_le gr2) (hb2 g hg))
        have gr4 := gr_trans gr2 hg3
        have k4 := k2.grown hg3
        refine WL.callw (wants_some rfl rfl (okb b2)) rfl rfl (W_path_parts k4.rd rfl k3.rd rfl H) ?_
        rintro _ w5 ⟨hg4, t22, rfl, H⟩
        have gr5 := gr_trans gr4 hg4
        have k5 := k4.grown hg4
        have k6 := k3.grown hg4
        refine WL.y rfl (Yld.pickT (okb b2) rfl) ?_
        exact WL.weaken (by repeat (first | exact Sub.nil | refine Sub.cons rfl ?_)) (hQ _ _ ⟨t22, rfl, H, gr5⟩)
      · replace H := H.2 b2
        refine WL.gno rfl rfl (okb b2) rfl ?_
        refine WL.gno rfl rfl (okb b2) rfl ?_
        refine WL.gno rfl rfl (okb b2) rfl ?_
        refine WL.gno rfl rfl (okb b2) rfl ?_
        refine WL.y rfl (Yld.pickF (okb b2) rfl) ?_
        exact WL.weaken (by repeat (first | exact Sub.nil | refine Sub.cons rfl ?_)) (hQ _ _ ⟨false, rfl, H, gr2⟩)

end Go.Proofs.YtcfljnfaakjdjaaDoor
 /- Paths, plainly: cut at slashes, fair parts, what is valid. -/
namespace Go.Proofs.YtcfljnfaakjdjaaDoor
open Go Go.RowKit
def cuts : List UInt8 → List (List UInt8)
  | [] => [[]]
  | c :: s => if c = 47 then [] :: cuts s else match cuts s with
    | [] => [[c]]
    | h :: t => (c :: h) :: t
theorem cuts_ne (s : List UInt8) : cuts s ≠ [] := by
  cases s with
  | nil => simp [cuts]
  | cons c s =>
    unfold cuts
    split
    · simp
    · split <;> simp
theorem split_cuts : ∀ s : List UInt8, Lib.split s [47] = cuts s
  | [] => by simp [Lib.split, Lib.count_miss, Lib.index, Lib.splitK, cuts]
  | c :: s => by
    have ih := split_cuts s
    unfold Lib.split at ih ⊢
    by_cases hc : c = 47
    · subst hc
      have hix : Lib.index (47 :: s) [47] = 0 := by rw [Lib.index]; simp [List.isPrefixOf]
      rw [Lib.count_cons_eq, Nat.add_comm, Lib.splitK, if_neg (by rw [hix]; decide), hix]
      simp only [cuts, if_true]
      rw [← ih]
      simp
    · have hp : ([47] : List UInt8).isPrefixOf (c :: s) = false := by simp [List.isPrefixOf, Ne.symm hc]
      have hix : Lib.index (c :: s) [47] = if Lib.index s [47] == -1 then -1 else Lib.index s [47] + 1 := by rw [Lib.index, hp]; simp
      rw [Lib.count_cons_ne c 47 s hc]
      simp only [cuts, if_neg hc]
      rw [← ih]
      cases hk : Lib.count s [47] with
      | zero => simp [Lib.splitK]
      | succ k =>
        have hne : Lib.index s [47] ≠ -1 := fun e => by rw [Lib.count_miss e] at hk; cases hk
        have hge := Lib.index_ge s [47]
        obtain ⟨j, hj⟩ : ∃ j : Nat, Lib.index s [47] = j := ⟨(Lib.index s [47]).toNat, by omega⟩
        have hix' : Lib.index (c :: s) [47] = ((j + 1 : Nat) : Int) := by rw [hix, if_neg (fun e => hne (beq_iff_eq.1 e)), hj]; omega
        rw [Lib.splitK, Lib.splitK, if_neg (fun e => hne (beq_iff_eq.1 e)), if_neg (by rw [hix']; simp; omega), hix', hj]
        simp
theorem splitL_cuts (s : List UInt8) : splitL [47] s = cuts s := split_cuts s
theorem cuts_length (s : List UInt8) : (cuts s).length ≤ s.length + 1 := by
  induction s with
  | nil => simp [cuts]
  | cons c s ih =>
    unfold cuts
    split
    · simp; omega
    · split
      · simp
      · rename_i h t e; rw [e] at ih; simp at ih ⊢; omega
theorem split_M {s : List UInt8} {K : List (List UInt8) → Prop} (hs : s.length ≤ 4000000000) (h : K (cuts s)) : M_strings_Split s [47] K :=
  ⟨by omega, by simp, by rw [splitL_cuts]; exact h⟩
/-- a byte that may be in a part -/
def letB (c : UInt8) : Bool := (((decide (48 ≤ c.toNat) && decide (c.toNat ≤ 57)) || (decide (65 ≤ c.toNat) && decide (c.toNat ≤ 90))) || (decide (97 ≤ c.toNat) && decide (c.toNat ≤ 122))) || ([33, 35, 37, 43, 44, 45, 46, 61, 64, 95, 126] : List UInt8).contains c
theorem indexByte_contains (l : List UInt8) (c : UInt8) : decide (0 ≤ Lib.indexByte l c) = l.contains c := by
  induction l with
  | nil => simp [Lib.indexByte]
  | cons b l ih =>
    unfold Lib.indexByte
    by_cases h : b = c
    · subst h; simp
    · have hge := Lib.indexByte_ge l c
      rw [if_neg (by simpa using h)]
      have hc : (b :: l).contains c = l.contains c := by simp [Ne.symm h]
      rw [hc, ← ih]
      by_cases h1 : Lib.indexByte l c = -1
      · rw [if_pos (by simpa using h1), h1]
      · rw [if_neg (by simpa using h1), decide_eq_decide]; omega
theorem letter_M {c : UInt8} {K : Bool → Prop} (h : K (letB c)) : M_path_letter (c.toNat : Int) K := by
  have e : ((((decide ((48 : Int) ≤ (c.toNat : Int))) && (decide ((c.toNat : Int) ≤ (57 : Int)))) || ((decide ((65 : Int) ≤ (c.toNat : Int))) && (decide ((c.toNat : Int) ≤ (90 : Int))))) || ((decide ((97 : Int) ≤ (c.toNat : Int))) && (decide ((c.toNat : Int) ≤ (122 : Int))))) = (((decide (48 ≤ c.toNat) && decide (c.toNat ≤ 57)) || (decide (65 ≤ c.toNat) && decide (c.toNat ≤ 90))) || (decide (97 ≤ c.toNat) && decide (c.toNat ≤ 122))) := by
    have d : ∀ a b : Nat, decide ((a : Int) ≤ (b : Int)) = decide (a ≤ b) := fun a b => by rw [decide_eq_decide]; omega
    have d1 : decide ((48 : Int) ≤ (c.toNat : Int)) = decide (48 ≤ c.toNat) := d 48 c.toNat
    have d2 : decide ((c.toNat : Int) ≤ (57 : Int)) = decide (c.toNat ≤ 57) := d c.toNat 57
    have d3 : decide ((65 : Int) ≤ (c.toNat : Int)) = decide (65 ≤ c.toNat) := d 65 c.toNat
    have d4 : decide ((c.toNat : Int) ≤ (90 : Int)) = decide (c.toNat ≤ 90) := d c.toNat 90
    have d5 : decide ((97 : Int) ≤ (c.toNat : Int)) = decide (97 ≤ c.toNat) := d 97 c.toNat
    have d6 : decide ((c.toNat : Int) ≤ (122 : Int)) = decide (c.toNat ≤ 122) := d c.toNat 122
    rw [d1, d2, d3, d4, d5, d6]
  unfold M_path_letter
  rw [e]
  unfold letB at h
  refine ⟨fun h1 => ?_, fun h1 => ?_⟩
  · rw [h1] at h; exact h
  · rw [h1, Bool.false_or] at h
    unfold M_strings_IndexByte
    rw [show ((c.toNat : Int).toNat.toUInt8) = c by simp]
    show K (decide (0 ≤ Lib.indexByte _ _))
    rw [indexByte_contains]
    exact h
def dotsB (s : List UInt8) : Bool := (decide (s = []) || decide (s = [46])) || decide (s = [46, 46])
def fairB (s : List UInt8) : Bool := s.all letB && !dotsB s
theorem take_all_succ {p : UInt8 → Bool} {s : List UInt8} {k : Nat} (h : (s.take k).all p = true) (hk : k < s.length) (hp : p (s.getD k 0) = true) : (s.take (k + 1)).all p = true := by
  rw [List.take_succ_eq_append_getElem hk, List.all_append, h]
  simpa [List.getD, hk] using hp
theorem fair_M {s : List UInt8} {K : Bool → Prop} (hs : s.length ≤ 4000000000) (h : K (fairB s)) : M_path_fair s K := by
  unfold M_path_fair
  refine ⟨fun i => ∃ k : Nat, i = k ∧ k ≤ s.length ∧ (s.take k).all letB = true, fun i => (s.length - i.toNat), ⟨0, rfl, by omega, by simp⟩, ?_⟩
  rintro _ ⟨k, rfl, hk, hall⟩
  refine ⟨fun hlt => ⟨by omega, letter_M ?_⟩, fun hge => ?_⟩
  · have hk' : k < s.length := by omega
    rw [Int.toNat_natCast]
    cases hl : letB (s.getD k 0) with
    | false =>
      refine ⟨fun _ => ?_, fun h1 => by simp at h1⟩
      have : s.all letB = false := by
        rw [List.all_eq_false]
        exact ⟨s.getD k 0, by simp [List.getD, hk'], by rw [hl]; simp⟩
      unfold fairB at h
      rw [this] at h
      exact h
    | true => exact ⟨fun h1 => by simp at h1, fun _ => ⟨by simp only [In]; omega, ⟨k + 1, by omega, by omega, take_all_succ hall hk' hl⟩, by dsimp only; omega⟩⟩
  · obtain rfl : k = s.length := by omega
    rw [List.take_length] at hall
    unfold fairB at h
    rw [hall, Bool.true_and] at h
    exact h
def validB (p : List UInt8) : Bool := decide (p.length ≤ 200) && (cuts p).all fairB
theorem cuts_part {s x : List UInt8} (h : x ∈ cuts s) : x.length ≤ s.length := by
  induction s generalizing x with
  | nil => simp [cuts] at h; subst h; simp
  | cons c s ih =>
    unfold cuts at h
    split at h
    · rcases List.mem_cons.1 h with rfl | h
      · simp
      · have := ih h; simp; omega
    · split at h
      · rename_i e; exact absurd e (cuts_ne s)
      · rename_i y t e
        rcases List.mem_cons.1 h with rfl | h
        · have := ih (x := y) (by rw [e]; simp); simp; omega
        · have := ih (x := x) (by rw [e]; simp [h]); simp; omega
theorem getD_mem {α : Type} {l : List α} {k : Nat} {d : α} (h : k < l.length) : l.getD k d ∈ l := by
  simp [List.getD, h]
theorem valid_M {p : List UInt8} {K : Bool → Prop} (hp : p.length ≤ 4000000000) (h : K (validB p)) : M_path_Valid p K := by
  unfold M_path_Valid
  unfold validB at h
  refine ⟨fun h1 => ?_, fun h1 => split_M hp ?_⟩
  · rw [decide_eq_false (by omega : ¬ p.length ≤ 200)] at h; exact h
  rw [decide_eq_true (by omega : p.length ≤ 200), Bool.true_and] at h
  refine ⟨fun i => ∃ k : Nat, i = k ∧ k ≤ (cuts p).length ∧ ((cuts p).take k).all fairB = true, fun i => ((cuts p).length - i.toNat), ⟨0, rfl, by omega, by simp⟩, ?_⟩
  have hcl := cuts_length p
  rintro _ ⟨k, rfl, hk, hall⟩
  refine ⟨fun hlt => ⟨by omega, ?_⟩, fun hge => ?_⟩
  · have hk' : k < (cuts p).length := by omega
    rw [Int.toNat_natCast]
    have hm : (cuts p).getD k [] ∈ cuts p := getD_mem hk'
    have hx := cuts_part hm
    refine fair_M (by omega) ?_
    cases hl : fairB ((cuts p).getD k []) with
    | false =>
      refine ⟨fun _ => ?_, fun h1 => by simp at h1⟩
      have : (cuts p).all fairB = false := by
        rw [List.all_eq_false]
        exact ⟨_, hm, by rw [hl]; simp⟩
      rw [this] at h
      exact h
    | true =>
      refine ⟨fun h1 => by simp at h1, fun _ => ⟨by simp only [In]; omega, ⟨k + 1, by omega, by omega, ?_⟩, by dsimp only; omega⟩⟩
      rw [List.take_succ_eq_append_getElem hk', List.all_append, hall]
      simpa [List.getD, hk'] using hl
  · obtain rfl : k = (cuts p).length := by omega
    rw [List.take_length] at hall
    rw [hall] at h
    exact h
/-- the last place of a byte -/
def LastIs (p : List UInt8) (c : UInt8) (r : Int) : Prop := (r = -1 ∧ ∀ j, j < p.length → p.getD j 0 ≠ c) ∨ (∃ i : Nat, r = i ∧ i < p.length ∧ p.getD i 0 = c ∧ ∀ j, i < j → j < p.length → p.getD j 0 ≠ c)
theorem last_M {p : List UInt8} {c : UInt8} {K : Int → Prop} (hp : p.length ≤ 4000000000) (h : ∀ r, LastIs p c r → K r) : M_strings_LastIndexByte p (c.toNat : Int) K := by
  unfold M_strings_LastIndexByte M_internal_bytealg_LastIndexByteString
  refine ⟨by simp only [In]; omega, fun i => -1 ≤ i ∧ i < p.length ∧ ∀ j : Nat, i < j → j < p.length → p.getD j 0 ≠ c, fun i => (i + 1).toNat, ⟨by omega, by omega, fun j h1 h2 => by omega⟩, ?_⟩
  rintro i ⟨h1, h2, h3⟩
  refine ⟨fun h0 => ⟨by omega, fun he => ?_, fun he => ⟨by simp only [In]; omega, ⟨by omega, by omega, fun j h4 h5 => ?_⟩, by dsimp only; omega⟩⟩, fun h0 => ?_⟩
  · exact h i (.inr ⟨i.toNat, by omega, by omega, UInt8.toNat_inj.mp (by omega), fun j h4 h5 => h3 j (by omega) h5⟩)
  · rcases Int.lt_or_le i j with h6 | h6
    · exact h3 j h6 h5
    · obtain rfl : j = i.toNat := by omega
      intro e
      exact he (by rw [e])
  · exact h (-1) (.inl ⟨rfl, fun j hj => h3 j (by omega) hj⟩)
end Go.Proofs.YtcfljnfaakjdjaaDoor
 /- Patterns, plainly: one table for bytes and for parts. -/
namespace Go.Proofs.YtcfljnfaakjdjaaDoor
open Go Go.RowKit
def dpRow (star : Bool) (eq : Nat → Bool) (prev : Nat → Bool) : Nat → Bool
  | 0 => star && prev 0
  | j + 1 => if star then prev (j + 1) || dpRow star eq prev j else prev j && eq j
/-- do the first i of the pattern meet the first j -/
def dp (star : Nat → Bool) (eq : Nat → Nat → Bool) : Nat → Nat → Bool
  | 0 => fun j => match j with
    | 0 => true
    | _ + 1 => false
  | i + 1 => dpRow (star i) (eq i) (dp star eq i)
section
variable (star : Nat → Bool) (eq : Nat → Nat → Bool) (i j : Nat)
theorem dp00 : dp star eq 0 0 = true := rfl
theorem dp0s : dp star eq 0 (j + 1) = false := rfl
theorem dps0 : dp star eq (i + 1) 0 = (star i && dp star eq i 0) := rfl
theorem dpss : dp star eq (i + 1) (j + 1) = if star i then dp star eq i (j + 1) || dp star eq (i + 1) j else dp star eq i j && eq i j := rfl
end
def bt (p : List UInt8) (i : Nat) : UInt8 := p.getD i 0
def partB (pat s : List UInt8) : Bool := dp (fun i => decide (bt pat i = 42)) (fun i j => decide (bt s j = bt pat i)) pat.length s.length
def partsB (pat l : List (List UInt8)) : Bool := dp (fun i => decide (pat.getD i [] = [42, 42])) (fun i j => partB (pat.getD i []) (l.getD j [])) pat.length l.length
def RowIs (d : Nat → Bool) (n k : Nat) (xs : List Bool) : Prop := xs.length = n + 1 ∧ ∀ j, j < k → xs.getD j false = d j
theorem getD_set {xs : List Bool} {a j : Nat} {v : Bool} (h : a < xs.length) : (xs.set a v).getD j false = if j = a then v else xs.getD j false := by
  by_cases e : j = a
  · subst e; simp [List.getD, h]
  · simp [List.getD, List.getElem?_set, Ne.symm e, e]
theorem RowIs.next {d : Nat → Bool} {n k : Nat} {xs : List Bool} {v : Bool} (h : RowIs d n k xs) (hk : k ≤ n) (hv : v = d k) : RowIs d n (k + 1) (xs.set k v) :=
  ⟨by rw [List.length_set]; exact h.1, fun j hj => by
    rw [getD_set (by rw [h.1]; omega)]
    split
    · rename_i e; rw [e]; exact hv
    · exact h.2 j (by omega)⟩
theorem rowStart (star : Nat → Bool) (eq : Nat → Nat → Bool) (n : Nat) : RowIs (dp star eq 0) n (n + 1) ((List.replicate (n + 1) false).set 0 true) :=
  ⟨by simp, fun j hj => by
    rw [getD_set (by simp)]
    cases j with
    | zero => simp [dp00]
    | succ j => simp [dp00, dp0s, dps0, dpss, List.getD, hj]⟩
theorem byteEq (a b : UInt8) : decide ((a.toNat : Int) = (b.toNat : Int)) = decide (a = b) := by
  rw [decide_eq_decide]
  exact ⟨fun h => UInt8.toNat_inj.mp (by omega), fun h => by rw [h]⟩
theorem part_M {pat s : List UInt8} {K : Bool → Prop} (hp : pat.length ≤ 4000000000) (hs : s.length ≤ 4000000000) (h : K (partB pat s)) : M_path_part pat s K := by
  unfold M_path_part
  unfold partB at h
  revert h
  generalize hst : (fun i => decide (bt pat i = 42)) = star
  generalize heq : (fun i j => decide (bt s j = bt pat i)) = eq
  intro h
  have e1 : ((s.length : Int) + 1).toNat = s.length + 1 := by omega
  rw [e1]
  refine ⟨by simp only [In]; omega, by omega, by omega, fun met i => ∃ k : Nat, i = k ∧ k ≤ pat.length ∧ RowIs (dp star eq k) s.length (s.length + 1) met, fun met i => pat.length - i.toNat, ⟨0, rfl, by omega, rowStart star eq s.length⟩, ?_⟩
  rintro met _ ⟨k, rfl, hk, hm⟩
  have hml := hm.1
  refine ⟨fun hlt => ⟨by simp only [In]; omega, by omega, fun j xs => ∃ q : Nat, j = q ∧ q ≤ s.length + 1 ∧ RowIs (dp star eq (k + 1)) s.length q xs, fun j xs => s.length + 1 - j.toNat, ⟨0, rfl, by omega, by simp, fun j hj => by omega⟩, ?_⟩, fun hge => ⟨by omega, ?_⟩⟩
  · rintro _ xs ⟨q, rfl, hq, hx⟩ hxl
    refine ⟨fun hj => ⟨fun ys => RowIs (dp star eq (k + 1)) s.length (q + 1) ys, ?_, ?_⟩, fun hj => ⟨by simp only [In]; omega, ⟨k + 1, by omega, by omega, ?_⟩, by dsimp only; omega⟩⟩
    · simp only [Int.toNat_natCast]
      refine ⟨by omega, fun hc => ?_, fun hc => ?_⟩
      · have hst' : star k = true := by
          rw [← hst]
          refine decide_eq_true (UInt8.toNat_inj.mp ?_)
          show (pat.getD k 0).toNat = 42
          omega
        refine ⟨by omega, fun _ h0 => by simp only [In]; omega, fun _ h0 => by have := of_decide_eq_true h0; omega, by omega, hx.next (by omega) ?_⟩
        rw [hm.2 q (by omega)]
        cases q with
        | zero => simp [dp00, dp0s, dps0, dpss, hst']
        | succ q =>
          rw [show (((q + 1 : Nat) : Int) - 1).toNat = q by omega, hx.2 q (by omega), decide_eq_true (by omega)]
          simp [dp00, dp0s, dps0, dpss, hst']
      · have hst' : star k = false := by
          rw [← hst]
          refine decide_eq_false ?_
          intro e
          apply hc
          have e' : pat.getD k 0 = 42 := e
          rw [e']
          rfl
        refine ⟨fun _ => by simp only [In]; omega, fun h0 => by have := of_decide_eq_true h0; omega, fun _ => by simp only [In]; omega, fun h0 => ?_, fun _ => by omega, by omega, hx.next (by omega) ?_⟩
        · rw [Bool.and_eq_true] at h0
          have := of_decide_eq_true h0.1
          omega
        cases q with
        | zero => simp [dp00, dp0s, dps0, dpss, hst']
        | succ q =>
          rw [show (((q + 1 : Nat) : Int) - 1).toNat = q by omega, hm.2 q (by omega), decide_eq_true (by omega : (0 : Int) < ((q + 1 : Nat) : Int)), byteEq]
          simp only [dpss, hst', Bool.true_and, Bool.false_eq_true, if_false]
          rw [← heq]
          rfl
    · intro ys hy _
      exact ⟨by simp only [In]; omega, ⟨q + 1, by omega, by omega, hy⟩, by dsimp only; omega⟩
    · obtain rfl : q = s.length + 1 := by omega
      exact hx
  · obtain rfl : k = pat.length := by omega
    rw [Int.toNat_natCast, hm.2 _ (by omega)]
    exact h
theorem parts_M {pat l : List (List UInt8)} {K : Bool → Prop} (hp : pat.length ≤ 4000000000) (hl : l.length ≤ 4000000000) (hp1 : ∀ x ∈ pat, x.length ≤ 4000000000) (hl1 : ∀ x ∈ l, x.length ≤ 4000000000) (h : K (partsB pat l)) : M_path_parts pat l K := by
  unfold M_path_parts
  unfold partsB at h
  revert h
  generalize hst : (fun i => decide (pat.getD i [] = [42, 42])) = star
  generalize heq : (fun i j => partB (pat.getD i []) (l.getD j [])) = eq
  intro h _ _
  have e1 : ((l.length : Int) + 1).toNat = l.length + 1 := by omega
  rw [e1]
  refine ⟨by simp only [In]; omega, by omega, by omega, fun met i => ∃ k : Nat, i = k ∧ k ≤ pat.length ∧ RowIs (dp star eq k) l.length (l.length + 1) met, fun met i => pat.length - i.toNat, ⟨0, rfl, by omega, rowStart star eq l.length⟩, ?_⟩
  rintro met _ ⟨k, rfl, hk, hm⟩
  have hml := hm.1
  refine ⟨fun hlt => ⟨by omega, by simp only [In]; omega, by omega, fun j xs => ∃ q : Nat, j = q ∧ q ≤ l.length + 1 ∧ RowIs (dp star eq (k + 1)) l.length q xs, fun j xs => l.length + 1 - j.toNat, ⟨0, rfl, by omega, by simp, fun j hj => by omega⟩, ?_⟩, fun hge => ⟨by omega, ?_⟩⟩
  · rintro _ xs ⟨q, rfl, hq, hx⟩ hxl
    refine ⟨fun hj => ⟨fun ys => RowIs (dp star eq (k + 1)) l.length (q + 1) ys, ?_, ?_⟩, fun hj => ⟨by simp only [In]; omega, ⟨k + 1, by omega, by omega, ?_⟩, by dsimp only; omega⟩⟩
    · simp only [Int.toNat_natCast]
      refine ⟨fun hc => ?_, fun hc => ?_⟩
      · have hst' : star k = true := by rw [← hst]; exact decide_eq_true hc
        refine ⟨by omega, fun _ h0 => by simp only [In]; omega, fun _ h0 => by have := of_decide_eq_true h0; omega, by omega, hx.next (by omega) ?_⟩
        rw [hm.2 q (by omega)]
        cases q with
        | zero => simp [dp00, dp0s, dps0, dpss, hst']
        | succ q =>
          rw [show (((q + 1 : Nat) : Int) - 1).toNat = q by omega, hx.2 q (by omega), decide_eq_true (by omega)]
          simp [dp00, dp0s, dps0, dpss, hst']
      · have hst' : star k = false := by rw [← hst]; exact decide_eq_false hc
        refine ⟨fun _ => by simp only [In]; omega, fun h0 => by have := of_decide_eq_true h0; omega, fun b => b = dp star eq (k + 1) q, ⟨fun h0 => ?_, fun h0 => ?_⟩, fun b hb => ⟨by omega, hx.next (by omega) hb⟩⟩
        · rw [Bool.and_eq_true] at h0
          have h1 := of_decide_eq_true h0.1
          cases q with
          | zero => omega
          | succ q =>
            have h2 := h0.2
            rw [show (((q + 1 : Nat) : Int) - 1).toNat = q by omega] at h2 ⊢
            rw [hm.2 q (by omega)] at h2
            refine ⟨by simp only [In]; omega, by omega, part_M (hp1 _ (getD_mem (by omega))) (hl1 _ (getD_mem (by omega))) ?_⟩
            simp only [dpss, hst', h2, Bool.true_and, Bool.false_eq_true, if_false]
            rw [← heq]
        · cases q with
          | zero => simp [dp00, dp0s, dps0, dpss, hst']
          | succ q =>
            rw [show (((q + 1 : Nat) : Int) - 1).toNat = q by omega, hm.2 q (by omega), decide_eq_true (by omega : (0 : Int) < ((q + 1 : Nat) : Int)), Bool.true_and] at h0
            simp [dp00, dp0s, dps0, dpss, hst', h0]
    · intro ys hy _
      exact ⟨by simp only [In]; omega, ⟨q + 1, by omega, by omega, hy⟩, by dsimp only; omega⟩
    · obtain rfl : q = l.length + 1 := by omega
      exact hx
  · obtain rfl : k = pat.length := by omega
    rw [Int.toNat_natCast, hm.2 _ (by omega)]
    exact h
end Go.Proofs.YtcfljnfaakjdjaaDoor
 /- Paths, plainly: clean, match. -/
namespace Go.Proofs.YtcfljnfaakjdjaaDoor
open Go Go.RowKit
def glue : List (List UInt8) → List UInt8
  | [] => []
  | [x] => x
  | x :: y :: r => x ++ 47 :: glue (y :: r)
theorem joinTail_glue (x : List UInt8) (r : List (List UInt8)) : x ++ Lib.joinTail [47] r = glue (x :: r) := by
  induction r generalizing x with
  | nil => simp [Lib.joinTail, glue]
  | cons y r ih =>
    rw [glue, ← ih y]
    simp [Lib.joinTail]
theorem join_glue (l : List (List UInt8)) : Lib.join l [47] = glue l := by
  cases l with
  | nil => rfl
  | cons x r => rw [Lib.join_cons, joinTail_glue]
def wt : List (List UInt8) → Nat
  | [] => 0
  | x :: r => x.length + 1 + wt r
theorem wt_append (l r : List (List UInt8)) : wt (l ++ r) = wt l + wt r := by
  induction l with
  | nil => simp [wt]
  | cons x l ih => simp [wt, ih]; omega
theorem glue_length (l : List (List UInt8)) : (glue l).length ≤ wt l := by
  induction l with
  | nil => simp [glue, wt]
  | cons x l ih =>
    cases l with
    | nil => simp [glue, wt]
    | cons y r => simp [glue, wt] at ih ⊢; omega
theorem length_wt (l : List (List UInt8)) : l.length ≤ wt l := by
  induction l with
  | nil => simp [wt]
  | cons x l ih => simp [wt]; omega
theorem wt_cuts (s : List UInt8) : wt (cuts s) = s.length + 1 := by
  induction s with
  | nil => simp [cuts, wt]
  | cons c s ih =>
    unfold cuts
    split
    · simp [wt, ih]; omega
    · split
      · rename_i e; exact absurd e (cuts_ne s)
      · rename_i h t e; rw [e] at ih; simp [wt] at ih ⊢; omega
theorem wt_take (l : List (List UInt8)) (k : Nat) : wt (l.take k) ≤ wt l := by
  conv => rhs; rw [← List.take_append_drop k l]
  rw [wt_append]; omega
/-- Clean's loop -/
def cl (l : List (List UInt8)) : List (List UInt8) → Option (List (List UInt8))
  | [] => some l
  | x :: r => if decide (x = []) || decide (x = [46]) then cl l r else if decide (x = [46, 46]) && decide (0 < l.length) then cl (l.take (l.length - 1)) r else if fairB x then cl (l ++ [x]) r else none
def cleanP (p : List UInt8) : Option (List UInt8) := match cl [] (cuts p) with
  | none => none
  | some l => if (glue l).length ≤ 200 then some (glue l) else none
def KC (K : List UInt8 → Er → Prop) : Option (List UInt8) → Prop
  | none => K [] (.e 11)
  | some o => K o .ok
theorem clean_M {p : List UInt8} {K : List UInt8 → Er → Prop} (hp : p.length ≤ 4000000000) (h : KC K (cleanP p)) : M_path_Clean p K := by
  unfold M_path_Clean
  refine split_M hp ?_
  have hw := wt_cuts p
  have hn := length_wt (cuts p)
  refine ⟨fun l i => ∃ k : Nat, i = k ∧ k ≤ (cuts p).length ∧ wt l + wt ((cuts p).drop k) ≤ p.length + 1 ∧ cl l ((cuts p).drop k) = cl [] (cuts p), fun l i => (cuts p).length - i.toNat, ⟨0, rfl, by omega, by simp [wt, hw], by simp⟩, ?_⟩
  rintro l _ ⟨k, rfl, hk, hb, hc⟩
  have hl := length_wt l
  refine ⟨fun hlt => ?_, fun hge => ?_⟩
  · have hk' : k < (cuts p).length := by omega
    have hd : (cuts p).drop k = (cuts p).getD k [] :: (cuts p).drop (k + 1) := by
      rw [List.drop_eq_getElem_cons hk']
      simp [List.getD, hk']
    have hm : (cuts p).getD k [] ∈ cuts p := getD_mem hk'
    have hx := cuts_part hm
    rw [hd] at hb hc
    rw [Int.toNat_natCast]
    generalize (cuts p).getD k [] = x at hb hc hx hm
    simp only [wt, cl] at hb hc
    refine ⟨fun l' => wt l' + wt ((cuts p).drop (k + 1)) ≤ p.length + 1 ∧ cl l' ((cuts p).drop (k + 1)) = cl [] (cuts p), ⟨by omega, fun h1 => ?_, fun h1 => ⟨fun h2 => ?_, fun h2 => ?_⟩⟩, ?_⟩
    · rw [if_pos h1] at hc
      exact ⟨by omega, hc⟩
    · rw [if_neg (by rw [h1]; simp)] at hc
      rw [Bool.and_eq_true] at h2
      have h3 : 0 < l.length := by have := of_decide_eq_true h2.2; omega
      rw [if_pos (by rw [h2.1, decide_eq_true h3]; rfl)] at hc
      have ht := wt_take l (l.length - 1)
      rw [show ((l.length : Int) - 1).toNat = l.length - 1 by omega]
      exact ⟨by simp only [In]; omega, by omega, by omega, hc⟩
    · rw [if_neg (by rw [h1]; simp)] at hc
      rw [if_neg (by rw [show decide (0 < l.length) = decide ((0 : Int) < (l.length : Int)) by rw [decide_eq_decide]; omega, h2]; simp)] at hc
      refine fair_M (by omega) ⟨fun h3 => ?_, fun h3 => ?_⟩
      · have h4 : fairB x = false := by simpa using h3
        rw [if_neg (by rw [h4]; simp)] at hc
        unfold cleanP at h
        rw [← hc] at h
        exact h
      · have h4 : fairB x = true := by simpa using h3
        rw [if_pos h4] at hc
        refine ⟨by simp only [List.length_cons, List.length_nil]; omega, ?_, hc⟩
        rw [wt_append]
        simp only [wt]
        omega
    · intro l' h'
      exact ⟨by simp only [In]; omega, ⟨k + 1, by omega, by omega, h'.1, h'.2⟩, by dsimp only; omega⟩
  · obtain rfl : k = (cuts p).length := by omega
    rw [List.drop_length] at hb hc
    simp only [cl, wt] at hb hc
    have hg := glue_length l
    refine ⟨by omega, ?_, ?_⟩
    · rw [join_glue]; omega
    rw [join_glue]
    unfold cleanP at h
    rw [← hc] at h
    dsimp only at h
    refine ⟨fun h1 => ?_, fun h1 => ?_⟩
    · rw [if_neg (by omega)] at h
      exact h
    · rw [if_pos (by omega)] at h
      exact h
theorem replace_map : ∀ s : List UInt8, Lib.replaceAll s [42] [95] = s.map fun c => if c = 42 then 95 else c
  | [] => by simp [Lib.replaceAll, Lib.replace, Lib.replaceNum, Lib.count_miss, Lib.index, Lib.replaceK]
  | c :: s => by
    have ih := replace_map s
    have e : ∀ t, Lib.replaceAll t [42] [95] = Lib.replaceK [42] [95] (Lib.count t [42]) t := fun t => by
      simp [Lib.replaceAll, Lib.replace, Lib.replaceNum]
    rw [e] at ih ⊢
    by_cases hc : c = 42
    · subst hc
      have hix : Lib.index (42 :: s) [42] = ((0 : Nat) : Int) := by rw [Lib.index]; simp [List.isPrefixOf]
      rw [Lib.count_cons_eq, Nat.add_comm, Lib.replaceK_hit _ _ _ _ 0 hix]
      simp only [List.map_cons, if_true]
      rw [← ih]
      simp
    · have hp : ([42] : List UInt8).isPrefixOf (c :: s) = false := by simp [List.isPrefixOf, Ne.symm hc]
      have hix : Lib.index (c :: s) [42] = if Lib.index s [42] == -1 then -1 else Lib.index s [42] + 1 := by rw [Lib.index, hp]; simp
      rw [Lib.count_cons_ne c 42 s hc]
      simp only [List.map_cons, if_neg hc]
      rw [← ih]
      cases hk : Lib.count s [42] with
      | zero => simp [Lib.replaceK]
      | succ k =>
        obtain ⟨j, hj⟩ := Lib.index_of_count (s := s) (old := [42]) (by omega)
        have hix' : Lib.index (c :: s) [42] = ((j + 1 : Nat) : Int) := by rw [hix, if_neg (by rw [hj]; simp), hj]; omega
        rw [Lib.replaceK_hit _ _ _ _ _ hj, Lib.replaceK_hit _ _ _ _ _ hix']
        simp
/-- a part of a pattern -/
def patPart (x : List UInt8) : Bool := !((Lib.contains x [42, 42] && !decide (x = [42, 42])) || dotsB x || !fairB (x.map fun c => if c = 42 then 95 else c))
def patB (s : List UInt8) : Bool := (cuts s).all patPart && decide (s.length ≤ 200)
theorem pattern_M {s : List UInt8} {K : List (List UInt8) → Bool → Prop} (hs : s.length ≤ 4000000000) (h0 : patB s = false → ∀ l, K l false) (h1 : patB s = true → K (cuts s) true) : M_path_pattern s K := by
  unfold M_path_pattern
  refine split_M hs ?_
  have hn := cuts_length s
  refine ⟨fun i => ∃ k : Nat, i = k ∧ k ≤ (cuts s).length ∧ ((cuts s).take k).all patPart = true, fun i => (cuts s).length - i.toNat, ⟨0, rfl, by omega, by simp⟩, ?_⟩
  rintro _ ⟨k, rfl, hk, hall⟩
  refine ⟨fun hlt => ⟨by omega, ?_⟩, fun hge => ?_⟩
  · have hk' : k < (cuts s).length := by omega
    rw [Int.toNat_natCast]
    have hm : (cuts s).getD k [] ∈ cuts s := getD_mem hk'
    have hx := cuts_part hm
    have hstep : patPart ((cuts s).getD k []) = true → ((cuts s).take (k + 1)).all patPart = true := fun hl => by
      rw [List.take_succ_eq_append_getElem hk', List.all_append, hall]
      simpa [List.getD, hk'] using hl
    have hbad : patPart ((cuts s).getD k []) = false → patB s = false := fun hl => by
      unfold patB
      rw [List.all_eq_false.2 ⟨_, hm, by rw [hl]; simp⟩]
      rfl
    generalize (cuts s).getD k [] = x at hm hx hstep hbad
    refine ⟨by omega, ?_⟩
    refine ⟨fun b => b = ((Lib.contains x [42, 42] && !decide (x = [42, 42])) || dotsB x), ⟨fun h2 => by rw [h2]; rfl, fun h2 => by rw [h2]; rfl⟩, ?_⟩
    rintro _ rfl
    refine ⟨fun b => b = !patPart x, ⟨fun h2 => by unfold patPart; rw [h2]; rfl, fun h2 => ⟨by omega, by simp, ?_, ?_⟩⟩, ?_⟩
    · have := Lib.countB_le ⟨⟨[42]⟩⟩ (by decide) x.length ⟨⟨x⟩⟩ (Nat.le_refl _)
      have h3 : Lib.countB ⟨⟨x⟩⟩ ⟨⟨[42]⟩⟩ ≤ x.length := this
      simp only [List.length_cons, List.length_nil]
      omega
    · rw [replace_map]
      refine fair_M (by rw [List.length_map]; omega) ?_
      unfold patPart
      rw [h2]
      simp
    · rintro _ rfl
      refine ⟨fun h2 => h0 (hbad (by simpa using h2)) _, fun h2 => ⟨by simp only [In]; omega, ⟨k + 1, by omega, by omega, hstep (by simpa using h2)⟩, by dsimp only; omega⟩⟩
  · obtain rfl : k = (cuts s).length := by omega
    rw [List.take_length] at hall
    by_cases h200 : s.length ≤ 200
    · rw [decide_eq_true (by omega : (s.length : Int) ≤ 200)]
      exact h1 (by unfold patB; rw [hall, decide_eq_true h200]; rfl)
    · rw [decide_eq_false (by omega : ¬ (s.length : Int) ≤ 200)]
      exact h0 (by unfold patB; rw [decide_eq_false h200]; simp) _
def matchB (pat p : List UInt8) : Bool := validB p && partsB (cuts pat) (cuts p)
theorem match_M {pat p : List UInt8} {K : Bool → Er → Prop} (ha : pat.length ≤ 4000000000 - 1) (hp : p.length ≤ 4000000000 - 1) (h0 : patB pat = false → K false (.e 11)) (h1 : patB pat = true → K (matchB pat p) .ok) : M_path_Match pat p K := by
  unfold M_path_Match
  have hc1 := cuts_length pat
  have hc2 := cuts_length p
  refine pattern_M (by omega) (fun h2 l => ⟨fun _ => h0 h2, fun h3 => by simp at h3⟩) (fun h2 => ⟨fun h3 => by simp at h3, fun _ => valid_M (by omega) ⟨fun b => b = matchB pat p, ⟨fun h3 => split_M (by omega) (parts_M (by omega) (by omega) (fun x hx => ?_) (fun x hx => ?_) ?_), fun h3 => ?_⟩, ?_⟩⟩)
  · have := cuts_part hx; omega
  · have := cuts_part hx; omega
  · unfold matchB; rw [h3]; rfl
  · unfold matchB; rw [h3]; rfl
  · rintro _ rfl
    exact h1 h2
end Go.Proofs.YtcfljnfaakjdjaaDoor
 /- Printed by a program (wip/vg): what the functions mean, plainly, and their walks. -/
namespace Go.Proofs.YtcfljnfaakjdjaaDoor
open Go Go.RowKit
attribute [local irreducible] WL WC WX WQ WK WJ Yld Eff Ef0 Fn
def M_smithylaw1_first (K : Bool → Prop) : Prop :=
 M_path_Clean ([97, 47, 47, 98, 47, 46, 46, 47, 99, 47, 46] : List UInt8) (fun (t80 : List UInt8) (t81 : Er) =>
 M_path_Match ([97, 47, 42, 42, 47, 42, 46, 116, 120, 116] : List UInt8) ([97, 47, 120, 47, 121, 47, 122, 46, 116, 120, 116] : List UInt8) (fun (t120 : Bool) (t121 : Er) =>
 M_path_Match ([97, 47, 42, 42, 47, 42, 46, 116, 120, 116] : List UInt8) ([97, 47, 98, 46, 116, 120, 116] : List UInt8) (fun (t160 : Bool) (t161 : Er) =>
 K ((((((decide (t80 = ([97, 47, 99] : List UInt8))) && (decide (t81 = Er.ok))) && t120) && (decide (t121 = Er.ok))) && t160) && (decide (t161 = Er.ok))))))

def M_smithylaw1_PathDirs (p : List UInt8) (K : Bool → Prop) : Prop :=
 M_smithylaw1_first (fun (ok : Bool) =>
 (((!ok) = true → K false) ∧
 ((!ok) = false → ∃ J1 : Bool → Prop, ((((decide ((200 : Int) < (p.length : Int))) = true → J1 true) ∧
 ((decide ((200 : Int) < (p.length : Int))) = false → M_path_Valid p (fun (t17 : Bool) =>
 J1 (!t17))))) ∧
 (∀ q1 : Bool, J1 q1 → (((q1 || (!ok)) = true → K ok) ∧
 ((q1 || (!ok)) = false → Lp2 (fun (n : Int) (i : Int) k_1 => ((i < (p.length : Int) → ∃ J2 : Int → Prop, ((0 ≤ i ∧ i < p.length) ∧
 ((((p.getD i.toNat 0).toNat : Int) = (47 : Int) → (In .i64 (n + (1 : Int))) ∧
 J2 (n + (1 : Int))) ∧
 (¬ (((p.getD i.toNat 0).toNat : Int) = (47 : Int)) → J2 n))) ∧
 (∀ n2 : Int, J2 n2 → (In .i64 (i + (1 : Int))) ∧
 k_1 n2 (i + (1 : Int)))) ∧
 (¬ (i < (p.length : Int)) → Lp2 (fun (d : List UInt8) (i2 : Int) k_2 => ((i2 < n → M_path_Dir d (fun (up : List UInt8) =>
 M_path_Under p up (fun (t47 : Bool) =>
 ∃ J3 : Bool → Prop, ((((!t47) = true → J3 true) ∧
 ((!t47) = false → M_path_Under up d (fun (t52 : Bool) =>
 J3 t52)))) ∧
 (∀ q3 : Bool, J3 q3 → ((q3 = true → K false) ∧
 (q3 = false → (In .i64 (i2 + (1 : Int))) ∧
 k_2 up (i2 + (1 : Int)))))))) ∧
 (¬ (i2 < n) → ∃ J4 : Bool → Prop, ((((decide (d = ([] : List UInt8))) = true → M_path_Dir ([] : List UInt8) (fun (t58 : List UInt8) =>
 J4 (decide (t58 = ([] : List UInt8))))) ∧
 ((decide (d = ([] : List UInt8))) = false → J4 false))) ∧
 (∀ q4 : Bool, J4 q4 → ∃ J5 : Bool → Prop, (((q4 = true → M_path_Under ([] : List UInt8) ([] : List UInt8) (fun (t62 : Bool) =>
 J5 (!t62))) ∧
 (q4 = false → J5 false))) ∧
 (∀ q5 : Bool, J5 q5 → K (bif q5 then true else false)))))) p (0 : Int)))) (1 : Int) (0 : Int)))))))

def M_smithylaw1_PathAgain (p : List UInt8) (q : List UInt8) (K : Bool → Prop) : Prop :=
 M_smithylaw1_first (fun (ok : Bool) =>
 (((!ok) = true → K false) ∧
 ((!ok) = false → (((((decide ((300 : Int) < (p.length : Int))) || (decide ((300 : Int) < (q.length : Int)))) || (!ok)) = true → K ok) ∧
 ((((decide ((300 : Int) < (p.length : Int))) || (decide ((300 : Int) < (q.length : Int)))) || (!ok)) = false → M_path_Clean p (fun (t340 : List UInt8) (t341 : Er) =>
 ((¬ (t341 = Er.ok) → ∃ J1 : Bool → Prop, ((((decide (t340 = ([] : List UInt8))) = true → M_path_Valid p (fun (t43 : Bool) =>
 J1 (!t43))) ∧
 ((decide (t340 = ([] : List UInt8))) = false → J1 false))) ∧
 (∀ q3 : Bool, J1 q3 → K q3)) ∧
 (t341 = Er.ok → M_path_Clean t340 (fun (t480 : List UInt8) (t481 : Er) =>
 ∃ J2 : Bool → Prop, (((((!decide (t481 = Er.ok)) || (!decide (t480 = t340))) = true → J2 true) ∧
 (((!decide (t481 = Er.ok)) || (!decide (t480 = t340))) = false → (((!decide (t340 = ([] : List UInt8))) = true → M_path_Valid t340 (fun (t63 : Bool) =>
 J2 (!t63))) ∧
 ((!decide (t340 = ([] : List UInt8))) = false → J2 false))))) ∧
 (∀ q5 : Bool, J2 q5 → ((q5 = true → K false) ∧
 (q5 = false → M_path_Dir t340 (fun (t69 : List UInt8) =>
 M_path_Base t340 (fun (t71 : List UInt8) =>
 M_path_Join ([t69, t71] : List (List UInt8)) (fun (t730 : List UInt8) (t731 : Er) =>
 ((((!decide (t731 = Er.ok)) || (!decide (t730 = t340))) = true → K false) ∧
 (((!decide (t731 = Er.ok)) || (!decide (t730 = t340))) = false → M_path_Clean q (fun (t850 : List UInt8) (t851 : Er) =>
 ((((!decide (t851 = Er.ok)) || (decide (t850 = ([] : List UInt8)))) = true → K true) ∧
 (((!decide (t851 = Er.ok)) || (decide (t850 = ([] : List UInt8)))) = false → M_path_Join ([t340, t850] : List (List UInt8)) (fun (t980 : List UInt8) (t981 : Er) =>
 ((¬ (t981 = Er.ok) → (In .i64 ((t340.length : Int) + (t850.length : Int))) ∧
 (In .i64 (((t340.length : Int) + (t850.length : Int)) + (1 : Int))) ∧
 K (decide ((200 : Int) < (((t340.length : Int) + (t850.length : Int)) + (1 : Int))))) ∧
 (t981 = Er.ok → M_path_Under t980 t340 (fun (t112 : Bool) =>
 ∃ J3 : Bool → Prop, ((((t112 && (!decide (t980 = t340))) = true → M_path_Base t980 (fun (t120 : List UInt8) =>
 M_path_Base t850 (fun (t122 : List UInt8) =>
 J3 (decide (t120 = t122))))) ∧
 ((t112 && (!decide (t980 = t340))) = false → J3 false))) ∧
 (∀ q9 : Bool, J3 q9 → K q9)))))))))))))))))))))))))

def M_smithylaw1_PathStars (a : List UInt8) (b : List UInt8) (K : Bool → Prop) : Prop :=
 M_smithylaw1_first (fun (ok : Bool) =>
 (((!ok) = true → K false) ∧
 ((!ok) = false → ∃ J1 : Bool → Prop, (((((decide ((60 : Int) < (a.length : Int))) || (decide ((60 : Int) < (b.length : Int)))) = true → J1 true) ∧
 (((decide ((60 : Int) < (a.length : Int))) || (decide ((60 : Int) < (b.length : Int)))) = false → M_path_Valid a (fun (t30 : Bool) =>
 J1 (!t30))))) ∧
 (∀ q2 : Bool, J1 q2 → ∃ J2 : Bool → Prop, (((q2 = true → J2 true) ∧
 (q2 = false → M_path_Valid b (fun (t35 : Bool) =>
 J2 (!t35))))) ∧
 (∀ q3 : Bool, J2 q3 → (((q3 || (!ok)) = true → K ok) ∧
 ((q3 || (!ok)) = false → (a.length + ([47] : List UInt8).length ≤ 9223372036854775807) ∧
 ((a ++ ([47] : List UInt8)).length + b.length ≤ 9223372036854775807) ∧
 (a.length + ([47] : List UInt8).length ≤ 9223372036854775807) ∧
 ((a ++ ([47] : List UInt8)).length + b.length ≤ 9223372036854775807) ∧
 (a.length + ([47, 42, 42] : List UInt8).length ≤ 9223372036854775807) ∧
 (([42, 42, 47] : List UInt8).length + b.length ≤ 9223372036854775807) ∧
 (a.length + ([47, 42, 42, 47] : List UInt8).length ≤ 9223372036854775807) ∧
 ((a ++ ([47, 42, 42, 47] : List UInt8)).length + b.length ≤ 9223372036854775807) ∧
 M_path_Base b (fun (t60 : List UInt8) =>
 (([42, 42, 47] : List UInt8).length + t60.length ≤ 9223372036854775807) ∧
 (((a ++ ([47] : List UInt8)) ++ b).length + ([47, 42, 42] : List UInt8).length ≤ 9223372036854775807) ∧
 Lp1 (fun (i : Int) k_1 => ((i < (7 : Int) → (0 ≤ i ∧ i < (7 : Nat)) ∧
 M_path_Match (([([42, 42] : List UInt8), (a ++ ([47] : List UInt8)) ++ b, a ++ ([47, 42, 42] : List UInt8), ([42, 42, 47] : List UInt8) ++ b, (a ++ ([47, 42, 42, 47] : List UInt8)) ++ b, ([42, 42, 47] : List UInt8) ++ t60, ((a ++ ([47] : List UInt8)) ++ b) ++ ([47, 42, 42] : List UInt8)] : List (List UInt8)).getD i.toNat []) ((a ++ ([47] : List UInt8)) ++ b) (fun (t770 : Bool) (t771 : Er) =>
 ((((!decide (t771 = Er.ok)) || (!t770)) = true → K false) ∧
 (((!decide (t771 = Er.ok)) || (!t770)) = false → (In .i64 (i + (1 : Int))) ∧
 k_1 (i + (1 : Int)))))) ∧
 (¬ (i < (7 : Int)) → M_path_Match ([42] : List UInt8) ((a ++ ([47] : List UInt8)) ++ b) (fun (t880 : Bool) (t881 : Er) =>
 M_path_Base ((a ++ ([47] : List UInt8)) ++ b) (fun (t93 : List UInt8) =>
 M_path_Match ([42] : List UInt8) t93 (fun (t940 : Bool) (t941 : Er) =>
 (a.length + ([47, 42, 42] : List UInt8).length ≤ 9223372036854775807) ∧
 (a.length + ([120] : List UInt8).length ≤ 9223372036854775807) ∧
 M_path_Match (a ++ ([47, 42, 42] : List UInt8)) (a ++ ([120] : List UInt8)) (fun (t1020 : Bool) (t1021 : Er) =>
 K ((((((decide (t881 = Er.ok)) && (decide (t941 = Er.ok))) && (decide (t1021 = Er.ok))) && (!t880)) && t940) && (!t1020))))))))) (0 : Int)))))))))

set_option maxHeartbeats 8000000 in
theorem W_smithylaw1_first {S : List Nat} {w : World} {K : Bool → Prop} (hG : GOK S w) (hS11 : 11 ∈ S) (hS100 : 100 ∈ S) (H : M_smithylaw1_first  K) : Fn Tryd.prog 37 ⟨[]⟩ w (fun v w' => w.grownBy w' none ∧ ∃ (r : Bool), v = .bool r ∧ K r) := by
  unfold M_smithylaw1_first at H
  refine Fn.enter (by kernel_rfl) Tryd.func37 rfl Tryd.ntmps37 rfl ?_
  refine WC.seq ?_
  refine WC.region ?_
  refine WL.y rfl (Yld.pure tab_ok rfl) ?_
  refine WL.nil (WX.then_normal ?_)
  refine WC.seq ?_
  refine WC.region ?_
  refine WL.call rfl rfl (W_path_Clean hG hS11 hS100 H) ?_
  rintro _ w1 ⟨hg1, t80, v_t81, t81, rfl, ht81, H⟩
  have gr1 := hg1
  refine WL.y rfl (Yld.pure tab_ok rfl) ?_
  refine WL.y rfl (Yld.pure tab_ok rfl) ?_
  refine WL.y rfl (Yld.pure tab_ok rfl) ?_
  refine WL.y rfl (Yld.pure tab_ok rfl) ?_
  refine WL.y rfl (Yld.pure tab_ok rfl) ?_
  refine WL.nil (WX.then_normal ?_)
  refine WC.seq ?_
  refine WC.region ?_
  refine WL.call rfl rfl (W_path_Match (hG.grown gr1) hS11 hS100 H) ?_
  rintro _ w2 ⟨hg2, t120, v_t121, t121, rfl, ht121, H⟩
  have gr2 := gr_trans gr1 hg2
  have k1 := ht81.grown hg2
  refine WL.y rfl (Yld.pure tab_ok rfl) ?_
  refine WL.y rfl (Yld.pure tab_ok rfl) ?_
  refine WL.y rfl (Yld.pure tab_ok rfl) ?_
  refine WL.y rfl (Yld.pure tab_ok rfl) ?_
  refine WL.y rfl (Yld.pure tab_ok rfl) ?_
  refine WL.nil (WX.then_normal ?_)
  refine WC.seq ?_
  refine WC.region ?_
  refine WL.call rfl rfl (W_path_Match (hG.grown gr2) hS11 hS100 H) ?_
  rintro _ w3 ⟨hg3, t160, v_t161, t161, rfl, ht161, H⟩
  have gr3 := gr_trans gr2 hg3
  have k2 := k1.grown hg3
  have k3 := ht121.grown hg3
  refine WL.y rfl (Yld.pure tab_ok rfl) ?_
  refine WL.y rfl (Yld.pure tab_ok rfl) ?_
  refine WL.y rfl (Yld.pure tab_ok rfl) ?_
  refine WL.y rfl (Yld.pure tab_ok rfl) ?_
  refine WL.y rfl (Yld.pure tab_ok rfl) ?_
  refine WL.nil (WX.then_normal ?_)
  refine WC.seq ?_
  refine WC.region ?_
  refine WL.y rfl (Yld.pure tab_ok rfl) ?_
  refine WL.y rfl (Yld.pure tab_ok rfl) ?_
  refine WL.y rfl (Yld.pure tab_ok rfl) ?_
  refine WL.midF 3 (fun L' w' => ∃ q1 : Bool, L' = [(24, .bool q1), (3, .bool t120), (4, v_t121), (5, .bool t160), (6, v_t161)] ∧ q1 = ((decide (t80 = ([97, 47, 99] : List UInt8))) && (decide (t81 = Er.ok))) ∧ w3 = w') ?_ (fun hQ => ?_)
  · rintro _ _ ⟨q1, rfl, rfl, rfl⟩
    refine WL.y rfl (Yld.pure tab_ok rfl) ?_
    refine WL.midF 2 (fun L' w' => ∃ q2 : Bool, L' = [(27, .bool q2), (4, v_t121), (5, .bool t160), (6, v_t161)] ∧ q2 = (((decide (t80 = ([97, 47, 99] : List UInt8))) && (decide (t81 = Er.ok))) && t120) ∧ w3 = w') ?_ (fun hQ => ?_)
    · rintro _ _ ⟨q2, rfl, rfl, rfl⟩
      refine WL.y rfl (Yld.pure tab_ok rfl) ?_
      refine WL.midF 3 (fun L' w' => ∃ q3 : Bool, L' = [(31, .bool q3), (5, .bool t160), (6, v_t161)] ∧ q3 = ((((decide (t80 = ([97, 47, 99] : List UInt8))) && (decide (t81 = Er.ok))) && t120) && (decide (t121 = Er.ok))) ∧ w3 = w') ?_ (fun hQ => ?_)
      · rintro _ _ ⟨q3, rfl, rfl, rfl⟩
        refine WL.y rfl (Yld.pure tab_ok rfl) ?_
        refine WL.midF 2 (fun L' w' => ∃ q4 : Bool, L' = [(34, .bool q4), (6, v_t161)] ∧ q4 = (((((decide (t80 = ([97, 47, 99] : List UInt8))) && (decide (t81 = Er.ok))) && t120) && (decide (t121 = Er.ok))) && t160) ∧ w3 = w') ?_ (fun hQ => ?_)
        · rintro _ _ ⟨q4, rfl, rfl, rfl⟩
          refine WL.y rfl (Yld.pure tab_ok rfl) ?_
          refine WL.midF 3 (fun L' w' => ∃ q5 : Bool, L' = [(38, .bool q5)] ∧ q5 = ((((((decide (t80 = ([97, 47, 99] : List UInt8))) && (decide (t81 = Er.ok))) && t120) && (decide (t121 = Er.ok))) && t160) && (decide (t161 = Er.ok))) ∧ w3 = w') ?_ (fun hQ => ?_)
          · rintro _ _ ⟨q5, rfl, rfl, rfl⟩
            refine WL.y rfl (Yld.pure tab_ok rfl) ?_
            refine WL.nil (WX.then_normal ?_)
            refine WC.ret ?_
            exact WX.ret1 rfl rfl ⟨gr3, (((((decide (t80 = ([97, 47, 99] : List UInt8))) && (decide (t81 = Er.ok))) && t120) && (decide (t121 = Er.ok))) && t160) && (decide (t161 = Er.ok)), rfl, H⟩
          · clear H
            rcases Bool.eq_false_or_eq_true (((((decide (t80 = ([97, 47, 99] : List UInt8))) && (decide (t81 = Er.ok))) && t120) && (decide (t121 = Er.ok))) && t160) with b1 | b1
            · refine WL.gyes rfl rfl (okb b1) rfl (Yld.pure tab_ok rfl) ?_
              refine WL.gyes rfl rfl (okb b1) rfl (Yld.erreql Tryd.underlying30 ht161 rfl) ?_
              refine WL.y rfl (Yld.pickT (okb b1) rfl) ?_
              exact WL.weaken (by repeat (first | exact Sub.nil | refine Sub.cons rfl ?_)) (hQ _ _ ⟨decide (t161 = Er.ok), rfl, by rw [b1] <;> rfl, rfl⟩)
            · refine WL.gno rfl rfl (okb b1) rfl ?_
              refine WL.gno rfl rfl (okb b1) rfl ?_
              refine WL.y rfl (Yld.pickF (okb b1) rfl) ?_
              exact WL.weaken (by repeat (first | exact Sub.nil | refine Sub.cons rfl ?_)) (hQ _ _ ⟨false, rfl, by rw [b1] <;> rfl, rfl⟩)
        · clear H
          rcases Bool.eq_false_or_eq_true ((((decide (t80 = ([97, 47, 99] : List UInt8))) && (decide (t81 = Er.ok))) && t120) && (decide (t121 = Er.ok))) with b2 | b2
          · refine WL.gyes rfl rfl (okb b2) rfl (Yld.pure tab_ok rfl) ?_
            refine WL.y rfl (Yld.pickT (okb b2) rfl) ?_
            exact WL.weaken (by repeat (first | exact Sub.nil | refine Sub.cons rfl ?_)) (hQ _ _ ⟨t160, rfl, by rw [b2] <;> rfl, rfl⟩)
          · refine WL.gno rfl rfl (okb b2) rfl ?_
            refine WL.y rfl (Yld.pickF (okb b2) rfl) ?_
            exact WL.weaken (by repeat (first | exact Sub.nil | refine Sub.cons rfl ?_)) (hQ _ _ ⟨false, rfl, by rw [b2] <;> rfl, rfl⟩)
      · clear H
        rcases Bool.eq_false_or_eq_true (((decide (t80 = ([97, 47, 99] : List UInt8))) && (decide (t81 = Er.ok))) && t120) with b3 | b3
        · refine WL.gyes rfl rfl (okb b3) rfl (Yld.pure tab_ok rfl) ?_
          refine WL.gyes rfl rfl (okb b3) rfl (Yld.erreql Tryd.underlying30 k3 rfl) ?_
          refine WL.y rfl (Yld.pickT (okb b3) rfl) ?_
          exact WL.weaken (by repeat (first | exact Sub.nil | refine Sub.cons rfl ?_)) (hQ _ _ ⟨decide (t121 = Er.ok), rfl, by rw [b3] <;> rfl, rfl⟩)
        · refine WL.gno rfl rfl (okb b3) rfl ?_
          refine WL.gno rfl rfl (okb b3) rfl ?_
          refine WL.y rfl (Yld.pickF (okb b3) rfl) ?_
          exact WL.weaken (by repeat (first | exact Sub.nil | refine Sub.cons rfl ?_)) (hQ _ _ ⟨false, rfl, by rw [b3] <;> rfl, rfl⟩)
    · clear H
      rcases Bool.eq_false_or_eq_true ((decide (t80 = ([97, 47, 99] : List UInt8))) && (decide (t81 = Er.ok))) with b4 | b4
      · refine WL.gyes rfl rfl (okb b4) rfl (Yld.pure tab_ok rfl) ?_
        refine WL.y rfl (Yld.pickT (okb b4) rfl) ?_
        exact WL.weaken (by repeat (first | exact Sub.nil | refine Sub.cons rfl ?_)) (hQ _ _ ⟨t120, rfl, by rw [b4] <;> rfl, rfl⟩)
      · refine WL.gno rfl rfl (okb b4) rfl ?_
        refine WL.y rfl (Yld.pickF (okb b4) rfl) ?_
        exact WL.weaken (by repeat (first | exact Sub.nil | refine Sub.cons rfl ?_)) (hQ _ _ ⟨false, rfl, by rw [b4] <;> rfl, rfl⟩)
  · clear H
    rcases Bool.eq_false_or_eq_true (decide (t80 = ([97, 47, 99] : List UInt8))) with b5 | b5
    · refine WL.gyes rfl rfl (okb b5) rfl (Yld.pure tab_ok rfl) ?_
      refine WL.gyes rfl rfl (okb b5) rfl (Yld.erreql Tryd.underlying30 k2 rfl) ?_
      refine WL.y rfl (Yld.pickT (okb b5) rfl) ?_
      exact WL.weaken (by repeat (first | exact Sub.nil | refine Sub.cons rfl ?_)) (hQ _ _ ⟨decide (t81 = Er.ok), rfl, by rw [b5] <;> rfl, rfl⟩)
    · refine WL.gno rfl rfl (okb b5) rfl ?_
      refine WL.gno rfl rfl (okb b5) rfl ?_
      refine WL.y rfl (Yld.pickF (okb b5) rfl) ?_
      exact WL.weaken (by repeat (first | exact Sub.nil | refine Sub.cons rfl ?_)) (hQ _ _ ⟨false, rfl, by rw [b5] <;> rfl, rfl⟩)

set_option maxHeartbeats 8000000 in
theorem W_smithylaw1_PathDirs {S : List Nat} {w : World} {p : List UInt8} {K : Bool → Prop} (hG : GOK S w) (hS11 : 11 ∈ S) (hS100 : 100 ∈ S) (H : M_smithylaw1_PathDirs p K) : Fn Tryd.prog 10 ⟨[vs p]⟩ w (fun v w' => w.grownBy w' none ∧ ∃ (r : Bool), v = .bool r ∧ K r) := by
  unfold M_smithylaw1_PathDirs at H
  refine Fn.enter (by kernel_rfl) Tryd.func10 rfl Tryd.ntmps10 rfl ?_
  refine WC.seq ?_
  refine WC.region ?_
  refine WL.y rfl (Yld.pure tab_ok rfl) ?_
  refine WL.nil (WX.then_normal ?_)
  refine WC.seq ?_
  refine WC.region ?_
  refine WL.call rfl rfl (W_smithylaw1_first hG hS11 hS100 H) ?_
  rintro _ w1 ⟨hg1, ok, rfl, H⟩
  have gr1 := hg1
  refine WL.y rfl (Yld.pure tab_ok rfl) ?_
  refine WL.nil (WX.then_normal ?_)
  refine WC.seq ?_
  refine WC.seq ?_
  refine WC.region ?_
  refine WL.y rfl (Yld.pure tab_ok rfl) ?_
  refine WL.y rfl (Yld.pure tab_ok rfl) ?_
  refine WL.nil (WX.then_normal ?_)
  refine WC.cond rfl (fun b1 => ?_) (fun b1 => ?_)
  · replace H := H.1 (b1)
    refine WC.seq ?_
    refine WC.region ?_
    refine WL.y rfl (Yld.pure tab_ok rfl) ?_
    refine WL.nil (WX.then_normal ?_)
    refine WC.ret (WX.then_ret ?_)
    exact WX.ret1 rfl rfl ⟨gr1, false, rfl, H⟩
  · replace H := H.2 (b1)
    refine WC.skip (WX.then_normal ?_)
    refine WC.seq ?_
    refine WC.seq ?_
    refine WC.region ?_
    refine WL.y rfl (Yld.pure tab_ok rfl) ?_
    refine WL.y rfl (Yld.pure tab_ok rfl) ?_
    refine WL.y rfl (Yld.pure tab_ok rfl) ?_
    refine WL.y rfl (Yld.pure tab_ok rfl) ?_
    obtain ⟨J1, H, hJ1⟩ := H
    refine WL.midF 4 (fun L' w' => ∃ q1 : Bool, L' = [(19, .bool q1), (0, vs p), (3, .bool ok)] ∧ J1 q1 ∧ w.grownBy w' none) ?_ (fun hQ => ?_)
    · clear H
      rintro _ w2 ⟨q1, rfl, H, gr2⟩
      replace H := hJ1 q1 H
      refine WL.y rfl (Yld.pure tab_ok rfl) ?_
      refine WL.midF 3 (fun L' w' => ∃ q2 : Bool, L' = [(23, .bool q2), (0, vs p), (3, .bool ok)] ∧ q2 = (q1 || (!ok)) ∧ w2 = w') ?_ (fun hQ => ?_)
      · rintro _ _ ⟨q2, rfl, rfl, rfl⟩
        refine WL.nil (WX.then_normal ?_)
        refine WC.cond rfl (fun b2 => ?_) (fun b2 => ?_)
        · replace H := H.1 (b2)
          refine WC.seq ?_
          refine WC.region ?_
          refine WL.y rfl (Yld.pure tab_ok rfl) ?_
          refine WL.y rfl (Yld.pure tab_ok rfl) ?_
          refine WL.nil (WX.then_normal ?_)
          refine WC.ret (WX.then_ret ?_)
          exact WX.ret1 rfl rfl ⟨gr2, ok, rfl, H⟩
        · replace H := H.2 (b2)
          refine WC.skip (WX.then_normal ?_)
          refine WC.seq ?_
          refine WC.region ?_
          refine WL.y rfl (Yld.pure tab_ok rfl) ?_
          refine WL.nil (WX.then_normal ?_)
          refine WC.seq ?_
          refine WC.seq ?_
          refine WC.region ?_
          refine WL.y rfl (Yld.pure tab_ok rfl) ?_
          refine WL.nil (WX.then_normal ?_)
          refine WC.block ?_
          obtain ⟨I1, mu1, h0_1, HR1⟩ := H
          refine WC.loopF (fun n' L' w' => ∃ (n : Int), ∃ (i : Int), n' = mu1 n i ∧ L' = [(0, vs p), (4, .int .i64 n), (5, .int .i64 i)] ∧ I1 n i ∧ w2 = w') _ _ ⟨(1 : Int), (0 : Int), rfl, rfl, h0_1, rfl⟩ (by repeat (first | exact Sub.nil | refine Sub.cons rfl ?_)) ?_
          clear h0_1
          rintro _ _ _ ⟨n, i, rfl, rfl, hI1, rfl⟩
          have H := HR1 n i hI1
          refine WC.seq ?_
          refine WC.seq ?_
          refine WC.region ?_
          refine WL.y rfl (Yld.pure tab_ok rfl) ?_
          refine WL.y rfl (Yld.pure tab_ok rfl) ?_
          refine WL.y rfl (Yld.pure tab_ok rfl) ?_
          refine WL.y rfl (Yld.pure tab_ok rfl) ?_
          refine WL.nil (WX.then_normal ?_)
          refine WC.cond rfl (fun b3 => ?_) (fun b3 => ?_)
          · replace H := H.1 (of_decide_eq_true b3)
            refine WC.skip (WX.then_normal ?_)
            refine WC.seq ?_
            obtain ⟨J2, H, hJ2⟩ := H
            refine WC.midF (fun L' w' => ∃ (n2 : Int), L' = [(0, vs p), (4, .int .i64 n2), (5, .int .i64 i)] ∧ J2 n2 ∧ w2 = w') ?_ (fun hQ => ?_)
            · clear H
              rintro _ _ ⟨n2, rfl, H, rfl⟩
              replace H := hJ2 n2 H
              refine WX.then_normal ?_
              refine WC.region ?_
              refine WL.y rfl (Yld.pure tab_ok rfl) ?_
              obtain ⟨h1, H⟩ := H
              refine WL.y rfl (Yld.add rfl rfl h1) ?_
              refine WL.y rfl (Yld.pure tab_ok rfl) ?_
              refine WL.nil ?_
              exact WX.roundF _ ⟨n2, i + (1 : Int), rfl, rfl, H.1, rfl⟩ (by repeat (first | exact Sub.nil | refine Sub.cons rfl ?_)) H.2
            · clear hJ2
              refine WC.block ?_
              refine WC.seq ?_
              refine WC.region ?_
              refine WL.y rfl (Yld.pure tab_ok rfl) ?_
              refine WL.y rfl (Yld.pure tab_ok rfl) ?_
              obtain ⟨h2, H⟩ := H
              refine WL.y rfl (Yld.sidx tab_ok rfl rfl rfl h2.1 h2.2) ?_
              refine WL.y rfl (Yld.pure tab_ok rfl) ?_
              refine WL.nil (WX.then_normal ?_)
              refine WC.cond rfl (fun b4 => ?_) (fun b4 => ?_)
              · replace H := H.1 (of_decide_eq_true b4)
                refine WC.region ?_
                refine WL.y rfl (Yld.pure tab_ok rfl) ?_
                obtain ⟨h3, H⟩ := H
                refine WL.y rfl (Yld.add rfl rfl h3) ?_
                refine WL.y rfl (Yld.pure tab_ok rfl) ?_
                refine WL.nil (WX.block_normal ?_)
                exact WX.weaken (by repeat (first | exact Sub.nil | refine Sub.cons rfl ?_)) (hQ _ _ ⟨n + (1 : Int), rfl, H, rfl⟩)
              · replace H := H.2 (of_decide_eq_false b4)
                refine WC.skip (WX.block_normal ?_)
                exact WX.weaken (by repeat (first | exact Sub.nil | refine Sub.cons rfl ?_)) (hQ _ _ ⟨n, rfl, H, rfl⟩)
          · replace H := H.2 (of_decide_eq_false b3)
            refine WC.exit (WX.then_exit (WX.then_exit (WX.block_same (WX.then_normal ?_))))
            refine WC.seq ?_
            refine WC.region ?_
            refine WL.y rfl (Yld.pure tab_ok rfl) ?_
            refine WL.y rfl (Yld.pure tab_ok rfl) ?_
            refine WL.nil (WX.then_normal ?_)
            refine WC.seq ?_
            refine WC.seq ?_
            refine WC.region ?_
            refine WL.y rfl (Yld.pure tab_ok rfl) ?_
            refine WL.nil (WX.then_normal ?_)
            refine WC.block ?_
            obtain ⟨I2, mu2, h0_2, HR2⟩ := H
            refine WC.loopF (fun n' L' w' => ∃ (d : List UInt8), ∃ (i2 : Int), n' = mu2 d i2 ∧ L' = [(0, vs p), (4, .int .i64 n), (6, vs d), (7, .int .i64 i2)] ∧ I2 d i2 ∧ w2 = w') _ _ ⟨p, (0 : Int), rfl, rfl, h0_2, rfl⟩ (by repeat (first | exact Sub.nil | refine Sub.cons rfl ?_)) ?_
            clear h0_2
            rintro _ _ _ ⟨d, i2, rfl, rfl, hI2, rfl⟩
            have H := HR2 d i2 hI2
            refine WC.seq ?_
            refine WC.seq ?_
            refine WC.region ?_
            refine WL.y rfl (Yld.pure tab_ok rfl) ?_
            refine WL.y rfl (Yld.pure tab_ok rfl) ?_
            refine WL.y rfl (Yld.pure tab_ok rfl) ?_
            refine WL.nil (WX.then_normal ?_)
            refine WC.cond rfl (fun b5 => ?_) (fun b5 => ?_)
            · replace H := H.1 (of_decide_eq_true b5)
              refine WC.skip (WX.then_normal ?_)
              refine WC.seq ?_
              refine WC.block ?_
              refine WC.seq ?_
              refine WC.region ?_
              refine WL.y rfl (Yld.pure tab_ok rfl) ?_
              refine WL.call rfl rfl (W_path_Dir H) ?_
              rintro _ _ ⟨rfl, up, rfl, H⟩
              refine WL.y rfl (Yld.pure tab_ok rfl) ?_
              refine WL.nil (WX.then_normal ?_)
              refine WC.seq ?_
              refine WC.seq ?_
              refine WC.region ?_
              refine WL.y rfl (Yld.pure tab_ok rfl) ?_
              refine WL.y rfl (Yld.pure tab_ok rfl) ?_
              refine WL.call rfl rfl (W_path_Under H) ?_
              rintro _ _ ⟨rfl, t47, rfl, H⟩
              refine WL.y rfl (Yld.pure tab_ok rfl) ?_
              refine WL.y rfl (Yld.pure tab_ok rfl) ?_
              obtain ⟨J3, H, hJ3⟩ := H
              refine WL.midF 4 (fun L' w' => ∃ q3 : Bool, L' = [(53, .bool q3), (0, vs p), (4, .int .i64 n), (7, .int .i64 i2), (8, vs up)] ∧ J3 q3 ∧ w2 = w') ?_ (fun hQ => ?_)
              · clear H
                rintro _ _ ⟨q3, rfl, H, rfl⟩
                replace H := hJ3 q3 H
                refine WL.nil (WX.then_normal ?_)
                refine WC.cond rfl (fun b6 => ?_) (fun b6 => ?_)
                · replace H := H.1 (b6)
                  refine WC.seq ?_
                  refine WC.region ?_
                  refine WL.y rfl (Yld.pure tab_ok rfl) ?_
                  refine WL.nil (WX.then_normal ?_)
                  refine WC.ret (WX.then_ret (WX.block_ret (WX.then_ret (WX.then_ret (WX.block_ret (WX.then_ret ?_))))))
                  exact WX.ret1 rfl rfl ⟨gr2, false, rfl, H⟩
                · replace H := H.2 (b6)
                  refine WC.skip (WX.then_normal ?_)
                  refine WC.region ?_
                  refine WL.y rfl (Yld.pure tab_ok rfl) ?_
                  refine WL.y rfl (Yld.pure tab_ok rfl) ?_
                  refine WL.nil (WX.block_normal (WX.then_normal ?_))
                  refine WC.region ?_
                  refine WL.y rfl (Yld.pure tab_ok rfl) ?_
                  obtain ⟨h4, H⟩ := H
                  refine WL.y rfl (Yld.add rfl rfl h4) ?_
                  refine WL.y rfl (Yld.pure tab_ok rfl) ?_
                  refine WL.nil ?_
                  exact WX.roundF _ ⟨up, i2 + (1 : Int), rfl, rfl, H.1, rfl⟩ (by repeat (first | exact Sub.nil | refine Sub.cons rfl ?_)) H.2
              · clear hJ3
                rcases Bool.eq_false_or_eq_true (!t47) with b7 | b7
                · replace H := H.1 b7
                  refine WL.gno rfl rfl (okb b7) rfl ?_
                  refine WL.gno rfl rfl (okb b7) rfl ?_
                  refine WL.gno rfl rfl (okb b7) rfl ?_
                  refine WL.y rfl (Yld.pickT (okb b7) rfl) ?_
                  exact WL.weaken (by repeat (first | exact Sub.nil | refine Sub.cons rfl ?_)) (hQ _ _ ⟨true, rfl, H, rfl⟩)
                · replace H := H.2 b7
                  refine WL.gyes rfl rfl (okb b7) rfl (Yld.pure tab_ok rfl) ?_
                  refine WL.gyes rfl rfl (okb b7) rfl (Yld.pure tab_ok rfl) ?_
                  refine WL.callw (wants_some rfl rfl (okb b7)) rfl rfl (W_path_Under H) ?_
                  rintro _ _ ⟨rfl, t52, rfl, H⟩
                  refine WL.y rfl (Yld.pickF (okb b7) rfl) ?_
                  exact WL.weaken (by repeat (first | exact Sub.nil | refine Sub.cons rfl ?_)) (hQ _ _ ⟨t52, rfl, H, rfl⟩)
            · replace H := H.2 (of_decide_eq_false b5)
              refine WC.exit (WX.then_exit (WX.then_exit (WX.block_same (WX.then_normal ?_))))
              refine WC.seq ?_
              refine WC.region ?_
              refine WL.y rfl (Yld.pure tab_ok rfl) ?_
              refine WL.y rfl (Yld.pure tab_ok rfl) ?_
              refine WL.y rfl (Yld.pure tab_ok rfl) ?_
              obtain ⟨J4, H, hJ4⟩ := H
              refine WL.midF 3 (fun L' w' => ∃ q4 : Bool, L' = [(60, .bool q4)] ∧ J4 q4 ∧ w2 = w') ?_ (fun hQ => ?_)
              · clear H
                rintro _ _ ⟨q4, rfl, H, rfl⟩
                replace H := hJ4 q4 H
                refine WL.y rfl (Yld.pure tab_ok rfl) ?_
                obtain ⟨J5, H, hJ5⟩ := H
                refine WL.midF 3 (fun L' w' => ∃ q5 : Bool, L' = [(64, .bool q5)] ∧ J5 q5 ∧ w2 = w') ?_ (fun hQ => ?_)
                · clear H
                  rintro _ _ ⟨q5, rfl, H, rfl⟩
                  replace H := hJ5 q5 H
                  refine WL.y rfl (Yld.pure tab_ok rfl) ?_
                  refine WL.y rfl (Yld.pure tab_ok rfl) ?_
                  refine WL.y rfl (Yld.pure tab_ok rfl) ?_
                  refine WL.nil (WX.then_normal ?_)
                  refine WC.ret ?_
                  exact WX.ret1 rfl rfl ⟨gr2, bif q5 then true else false, rfl, H⟩
                · clear hJ5
                  rcases Bool.eq_false_or_eq_true (q4) with b8 | b8
                  · replace H := H.1 b8
                    refine WL.callw (wants_some rfl rfl (okb b8)) rfl rfl (W_path_Under H) ?_
                    rintro _ _ ⟨rfl, t62, rfl, H⟩
                    refine WL.gyes rfl rfl (okb b8) rfl (Yld.pure tab_ok rfl) ?_
                    refine WL.y rfl (Yld.pickT (okb b8) rfl) ?_
                    exact WL.weaken (by repeat (first | exact Sub.nil | refine Sub.cons rfl ?_)) (hQ _ _ ⟨!t62, rfl, H, rfl⟩)
                  · replace H := H.2 b8
                    refine WL.gno rfl rfl (okb b8) rfl ?_
                    refine WL.gno rfl rfl (okb b8) rfl ?_
                    refine WL.y rfl (Yld.pickF (okb b8) rfl) ?_
                    exact WL.weaken (by repeat (first | exact Sub.nil | refine Sub.cons rfl ?_)) (hQ _ _ ⟨false, rfl, H, rfl⟩)
              · clear hJ4
                rcases Bool.eq_false_or_eq_true (decide (d = ([] : List UInt8))) with b9 | b9
                · replace H := H.1 b9
                  refine WL.callw (wants_some rfl rfl (okb b9)) rfl rfl (W_path_Dir H) ?_
                  rintro _ _ ⟨rfl, t58, rfl, H⟩
                  refine WL.gyes rfl rfl (okb b9) rfl (Yld.pure tab_ok rfl) ?_
                  refine WL.y rfl (Yld.pickT (okb b9) rfl) ?_
                  exact WL.weaken (by repeat (first | exact Sub.nil | refine Sub.cons rfl ?_)) (hQ _ _ ⟨decide (t58 = ([] : List UInt8)), rfl, H, rfl⟩)
                · replace H := H.2 b9
                  refine WL.gno rfl rfl (okb b9) rfl ?_
                  refine WL.gno rfl rfl (okb b9) rfl ?_
                  refine WL.y rfl (Yld.pickF (okb b9) rfl) ?_
                  exact WL.weaken (by repeat (first | exact Sub.nil | refine Sub.cons rfl ?_)) (hQ _ _ ⟨false, rfl, H, rfl⟩)
      · clear H
        rcases Bool.eq_false_or_eq_true (q1) with b10 | b10
        · refine WL.gno rfl rfl (okb b10) rfl ?_
          refine WL.gno rfl rfl (okb b10) rfl ?_
          refine WL.y rfl (Yld.pickT (okb b10) rfl) ?_
          exact WL.weaken (by repeat (first | exact Sub.nil | refine Sub.cons rfl ?_)) (hQ _ _ ⟨true, rfl, by rw [b10] <;> rfl, rfl⟩)
        · refine WL.gyes rfl rfl (okb b10) rfl (Yld.pure tab_ok rfl) ?_
          refine WL.gyes rfl rfl (okb b10) rfl (Yld.pure tab_ok rfl) ?_
          refine WL.y rfl (Yld.pickF (okb b10) rfl) ?_
          exact WL.weaken (by repeat (first | exact Sub.nil | refine Sub.cons rfl ?_)) (hQ _ _ ⟨!ok, rfl, by rw [b10] <;> rfl, rfl⟩)
    · clear hJ1
      rcases Bool.eq_false_or_eq_true (decide ((200 : Int) < (p.length : Int))) with b11 | b11
      · replace H := H.1 b11
        refine WL.gno rfl rfl (okb b11) rfl ?_
        refine WL.gno rfl rfl (okb b11) rfl ?_
        refine WL.gno rfl rfl (okb b11) rfl ?_
        refine WL.y rfl (Yld.pickT (okb b11) rfl) ?_
        exact WL.weaken (by repeat (first | exact Sub.nil | refine Sub.cons rfl ?_)) (hQ _ _ ⟨true, rfl, H, gr1⟩)
      · replace H := H.2 b11
        refine WL.gyes rfl rfl (okb b11) rfl (Yld.pure tab_ok rfl) ?_
        refine WL.callw (wants_some rfl rfl (okb b11)) rfl rfl (W_path_Valid (hG.grown gr1) hS100 H) ?_
        rintro _ w3 ⟨hg2, t17, rfl, H⟩
        have gr3 := gr_trans gr1 hg2
        refine WL.gyes rfl rfl (okb b11) rfl (Yld.pure tab_ok rfl) ?_
        refine WL.y rfl (Yld.pickF (okb b11) rfl) ?_
        exact WL.weaken (by repeat (first | exact Sub.nil | refine Sub.cons rfl ?_)) (hQ _ _ ⟨!t17, rfl, H, gr3⟩)

set_option maxHeartbeats 8000000 in
theorem W_smithylaw1_PathAgain {S : List Nat} {w : World} {p : List UInt8} {q : List UInt8} {K : Bool → Prop} (hG : GOK S w) (hS11 : 11 ∈ S) (hS100 : 100 ∈ S) (H : M_smithylaw1_PathAgain p q K) : Fn Tryd.prog 12 ⟨[vs p, vs q]⟩ w (fun v w' => w.grownBy w' none ∧ ∃ (r : Bool), v = .bool r ∧ K r) := by
  unfold M_smithylaw1_PathAgain at H
  refine Fn.enter (by kernel_rfl) Tryd.func12 rfl Tryd.ntmps12 rfl ?_
  refine WC.seq ?_
  refine WC.region ?_
  refine WL.y rfl (Yld.pure tab_ok rfl) ?_
  refine WL.nil (WX.then_normal ?_)
  refine WC.seq ?_
  refine WC.region ?_
  refine WL.call rfl rfl (W_smithylaw1_first hG hS11 hS100 H) ?_
  rintro _ w1 ⟨hg1, ok, rfl, H⟩
  have gr1 := hg1
  refine WL.y rfl (Yld.pure tab_ok rfl) ?_
  refine WL.nil (WX.then_normal ?_)
  refine WC.seq ?_
  refine WC.seq ?_
  refine WC.region ?_
  refine WL.y rfl (Yld.pure tab_ok rfl) ?_
  refine WL.y rfl (Yld.pure tab_ok rfl) ?_
  refine WL.nil (WX.then_normal ?_)
  refine WC.cond rfl (fun b1 => ?_) (fun b1 => ?_)
  · replace H := H.1 (b1)
    refine WC.seq ?_
    refine WC.region ?_
    refine WL.y rfl (Yld.pure tab_ok rfl) ?_
    refine WL.nil (WX.then_normal ?_)
    refine WC.ret (WX.then_ret ?_)
    exact WX.ret1 rfl rfl ⟨gr1, false, rfl, H⟩
  · replace H := H.2 (b1)
    refine WC.skip (WX.then_normal ?_)
    refine WC.seq ?_
    refine WC.seq ?_
    refine WC.region ?_
    refine WL.y rfl (Yld.pure tab_ok rfl) ?_
    refine WL.y rfl (Yld.pure tab_ok rfl) ?_
    refine WL.y rfl (Yld.pure tab_ok rfl) ?_
    refine WL.y rfl (Yld.pure tab_ok rfl) ?_
    refine WL.midF 4 (fun L' w' => ∃ q1 : Bool, L' = [(26, .bool q1), (0, vs p), (1, vs q), (5, .bool ok)] ∧ q1 = ((decide ((300 : Int) < (p.length : Int))) || (decide ((300 : Int) < (q.length : Int)))) ∧ w1 = w') ?_ (fun hQ => ?_)
    · rintro _ _ ⟨q1, rfl, rfl, rfl⟩
      refine WL.y rfl (Yld.pure tab_ok rfl) ?_
      refine WL.midF 3 (fun L' w' => ∃ q2 : Bool, L' = [(30, .bool q2), (0, vs p), (1, vs q), (5, .bool ok)] ∧ q2 = (((decide ((300 : Int) < (p.length : Int))) || (decide ((300 : Int) < (q.length : Int)))) || (!ok)) ∧ w1 = w') ?_ (fun hQ => ?_)
      · rintro _ _ ⟨q2, rfl, rfl, rfl⟩
        refine WL.nil (WX.then_normal ?_)
        refine WC.cond rfl (fun b2 => ?_) (fun b2 => ?_)
        · replace H := H.1 (b2)
          refine WC.seq ?_
          refine WC.region ?_
          refine WL.y rfl (Yld.pure tab_ok rfl) ?_
          refine WL.y rfl (Yld.pure tab_ok rfl) ?_
          refine WL.nil (WX.then_normal ?_)
          refine WC.ret (WX.then_ret ?_)
          exact WX.ret1 rfl rfl ⟨gr1, ok, rfl, H⟩
        · replace H := H.2 (b2)
          refine WC.skip (WX.then_normal ?_)
          refine WC.seq ?_
          refine WC.region ?_
          refine WL.y rfl (Yld.pure tab_ok rfl) ?_
          refine WL.call rfl rfl (W_path_Clean (hG.grown gr1) hS11 hS100 H) ?_
          rintro _ w2 ⟨hg2, t340, v_t341, t341, rfl, ht341, H⟩
          have gr2 := gr_trans gr1 hg2
          refine WL.y rfl (Yld.pure tab_ok rfl) ?_
          refine WL.y rfl (Yld.pure tab_ok rfl) ?_
          refine WL.y rfl (Yld.pure tab_ok rfl) ?_
          refine WL.y rfl (Yld.pure tab_ok rfl) ?_
          refine WL.y rfl (Yld.pure tab_ok rfl) ?_
          refine WL.nil (WX.then_normal ?_)
          refine WC.seq ?_
          refine WC.seq ?_
          refine WC.region ?_
          refine WL.y rfl (Yld.pure tab_ok rfl) ?_
          refine WL.y rfl (Yld.errneq Tryd.underlying30 ht341 rfl) ?_
          refine WL.nil (WX.then_normal ?_)
          refine WC.cond rfl (fun b3 => ?_) (fun b3 => ?_)
          · replace H := H.1 (nd_true b3)
            refine WC.seq ?_
            refine WC.region ?_
            refine WL.y rfl (Yld.pure tab_ok rfl) ?_
            refine WL.y rfl (Yld.pure tab_ok rfl) ?_
            refine WL.y rfl (Yld.pure tab_ok rfl) ?_
            obtain ⟨J1, H, hJ1⟩ := H
            refine WL.midF 4 (fun L' w' => ∃ q3 : Bool, L' = [(45, .bool q3)] ∧ J1 q3 ∧ w.grownBy w' none) ?_ (fun hQ => ?_)
            · clear H
              rintro _ w3 ⟨q3, rfl, H, gr3⟩
              replace H := hJ1 q3 H
              refine WL.y rfl (Yld.pure tab_ok rfl) ?_
              refine WL.nil (WX.then_normal ?_)
              refine WC.ret (WX.then_ret ?_)
              exact WX.ret1 rfl rfl ⟨gr3, q3, rfl, H⟩
            · clear hJ1
              rcases Bool.eq_false_or_eq_true (decide (t340 = ([] : List UInt8))) with b4 | b4
              · replace H := H.1 b4
                refine WL.gyes rfl rfl (okb b4) rfl (Yld.pure tab_ok rfl) ?_
                refine WL.callw (wants_some rfl rfl (okb b4)) rfl rfl (W_path_Valid (hG.grown gr2) hS100 H) ?_
                rintro _ w4 ⟨hg3, t43, rfl, H⟩
                have gr4 := gr_trans gr2 hg3
                refine WL.gyes rfl rfl (okb b4) rfl (Yld.pure tab_ok rfl) ?_
                refine WL.y rfl (Yld.pickT (okb b4) rfl) ?_
                exact WL.weaken (by repeat (first | exact Sub.nil | refine Sub.cons rfl ?_)) (hQ _ _ ⟨!t43, rfl, H, gr4⟩)
              · replace H := H.2 b4
                refine WL.gno rfl rfl (okb b4) rfl ?_
                refine WL.gno rfl rfl (okb b4) rfl ?_
                refine WL.gno rfl rfl (okb b4) rfl ?_
                refine WL.y rfl (Yld.pickF (okb b4) rfl) ?_
                exact WL.weaken (by repeat (first | exact Sub.nil | refine Sub.cons rfl ?_)) (hQ _ _ ⟨false, rfl, H, gr2⟩)
          · replace H := H.2 (nd_false b3)
            refine WC.skip (WX.then_normal ?_)
            refine WC.seq ?_
            refine WC.region ?_
            refine WL.y rfl (Yld.pure tab_ok rfl) ?_
            refine WL.call rfl rfl (W_path_Clean (hG.grown gr2) hS11 hS100 H) ?_
            rintro _ w5 ⟨hg4, t480, v_t481, t481, rfl, ht481, H⟩
            have gr5 := gr_trans gr2 hg4
            refine WL.y rfl (Yld.pure tab_ok rfl) ?_
            refine WL.y rfl (Yld.pure tab_ok rfl) ?_
            refine WL.y rfl (Yld.pure tab_ok rfl) ?_
            refine WL.y rfl (Yld.pure tab_ok rfl) ?_
            refine WL.y rfl (Yld.pure tab_ok rfl) ?_
            refine WL.nil (WX.then_normal ?_)
            refine WC.seq ?_
            refine WC.seq ?_
            refine WC.region ?_
            refine WL.y rfl (Yld.pure tab_ok rfl) ?_
            refine WL.y rfl (Yld.errneq Tryd.underlying30 ht481 rfl) ?_
            refine WL.y rfl (Yld.pure tab_ok rfl) ?_
            refine WL.midF 4 (fun L' w' => ∃ q4 : Bool, L' = [(57, .bool q4), (1, vs q), (6, vs t340)] ∧ q4 = ((!decide (t481 = Er.ok)) || (!decide (t480 = t340))) ∧ w5 = w') ?_ (fun hQ => ?_)
            · rintro _ _ ⟨q4, rfl, rfl, rfl⟩
              refine WL.y rfl (Yld.pure tab_ok rfl) ?_
              obtain ⟨J2, H, hJ2⟩ := H
              refine WL.midF 8 (fun L' w' => ∃ q5 : Bool, L' = [(66, .bool q5), (1, vs q), (6, vs t340)] ∧ J2 q5 ∧ w.grownBy w' none) ?_ (fun hQ => ?_)
              · clear H
                rintro _ w6 ⟨q5, rfl, H, gr6⟩
                replace H := hJ2 q5 H
                refine WL.nil (WX.then_normal ?_)
                refine WC.cond rfl (fun b5 => ?_) (fun b5 => ?_)
                · replace H := H.1 (b5)
                  refine WC.seq ?_
                  refine WC.region ?_
                  refine WL.y rfl (Yld.pure tab_ok rfl) ?_
                  refine WL.nil (WX.then_normal ?_)
                  refine WC.ret (WX.then_ret ?_)
                  exact WX.ret1 rfl rfl ⟨gr6, false, rfl, H⟩
                · replace H := H.2 (b5)
                  refine WC.skip (WX.then_normal ?_)
                  refine WC.seq ?_
                  refine WC.region ?_
                  refine WL.y rfl (Yld.pure tab_ok rfl) ?_
                  refine WL.call rfl rfl (W_path_Dir H) ?_
                  rintro _ _ ⟨rfl, t69, rfl, H⟩
                  refine WL.y rfl (Yld.pure tab_ok rfl) ?_
                  refine WL.call rfl rfl (W_path_Base H) ?_
                  rintro _ _ ⟨rfl, t71, rfl, H⟩
                  refine WL.lit tab_ok rfl rfl rfl (all1c rfl (all1c rfl all1n)) rfl (by omega) (fun g1 w7 hB1 hg5 hl1 => ?_)
                  have hO1 : Own vs w7 w.heap.size 9 (some ⟨g1, 0, none⟩) 2 ([t69, t71] : List (List UInt8)) := Own.ofBl hB1 (Nat.le_trans (size_le gr6) hl1) (by simp [maxLen]) rfl
                  have gr7 := gr_trans gr6 hg5
                  refine WL.call rfl rfl (W_path_Join (hG.grown gr7) hS11 hS100 hO1.rd rfl H) ?_
                  rintro _ w8 ⟨hg6, t730, v_t731, t731, rfl, ht731, H⟩
                  have gr8 := gr_trans gr7 hg6
                  refine WL.y rfl (Yld.pure tab_ok rfl) ?_
                  refine WL.y rfl (Yld.pure tab_ok rfl) ?_
                  refine WL.y rfl (Yld.pure tab_ok rfl) ?_
                  refine WL.y rfl (Yld.pure tab_ok rfl) ?_
                  refine WL.y rfl (Yld.pure tab_ok rfl) ?_
                  refine WL.nil (WX.then_normal ?_)
                  refine WC.seq ?_
                  refine WC.seq ?_
                  refine WC.region ?_
                  refine WL.y rfl (Yld.pure tab_ok rfl) ?_
                  refine WL.y rfl (Yld.errneq Tryd.underlying30 ht731 rfl) ?_
                  refine WL.y rfl (Yld.pure tab_ok rfl) ?_
                  refine WL.midF 4 (fun L' w' => ∃ q6 : Bool, L' = [(82, .bool q6), (1, vs q), (6, vs t340)] ∧ q6 = ((!decide (t731 = Er.ok)) || (!decide (t730 = t340))) ∧ w8 = w') ?_ (fun hQ => ?_)
                  · rintro _ _ ⟨q6, rfl, rfl, rfl⟩
                    refine WL.nil (WX.then_normal ?_)
                    refine WC.cond rfl (fun b6 => ?_) (fun b6 => ?_)
                    · replace H := H.1 (b6)
                      refine WC.seq ?_
                      refine WC.region ?_
                      refine WL.y rfl (Yld.pure tab_ok rfl) ?_
                      refine WL.nil (WX.then_normal ?_)
                      refine WC.ret (WX.then_ret ?_)
                      exact WX.ret1 rfl rfl ⟨gr8, false, rfl, H⟩
                    · replace H := H.2 (b6)
                      refine WC.skip (WX.then_normal ?_)
                      refine WC.seq ?_
                      refine WC.region ?_
                      refine WL.y rfl (Yld.pure tab_ok rfl) ?_
                      refine WL.call rfl rfl (W_path_Clean (hG.grown gr8) hS11 hS100 H) ?_
                      rintro _ w9 ⟨hg7, t850, v_t851, t851, rfl, ht851, H⟩
                      have gr9 := gr_trans gr8 hg7
                      refine WL.y rfl (Yld.pure tab_ok rfl) ?_
                      refine WL.y rfl (Yld.pure tab_ok rfl) ?_
                      refine WL.y rfl (Yld.pure tab_ok rfl) ?_
                      refine WL.y rfl (Yld.pure tab_ok rfl) ?_
                      refine WL.y rfl (Yld.pure tab_ok rfl) ?_
                      refine WL.nil (WX.then_normal ?_)
                      refine WC.seq ?_
                      refine WC.seq ?_
                      refine WC.region ?_
                      refine WL.y rfl (Yld.pure tab_ok rfl) ?_
                      refine WL.y rfl (Yld.errneq Tryd.underlying30 ht851 rfl) ?_
                      refine WL.y rfl (Yld.pure tab_ok rfl) ?_
                      refine WL.midF 3 (fun L' w' => ∃ q7 : Bool, L' = [(93, .bool q7), (6, vs t340), (12, vs t850)] ∧ q7 = ((!decide (t851 = Er.ok)) || (decide (t850 = ([] : List UInt8)))) ∧ w9 = w') ?_ (fun hQ => ?_)
                      · rintro _ _ ⟨q7, rfl, rfl, rfl⟩
                        refine WL.nil (WX.then_normal ?_)
                        refine WC.cond rfl (fun b7 => ?_) (fun b7 => ?_)
                        · replace H := H.1 (b7)
                          refine WC.seq ?_
                          refine WC.region ?_
                          refine WL.y rfl (Yld.pure tab_ok rfl) ?_
                          refine WL.nil (WX.then_normal ?_)
                          refine WC.ret (WX.then_ret ?_)
                          exact WX.ret1 rfl rfl ⟨gr9, true, rfl, H⟩
                        · replace H := H.2 (b7)
                          refine WC.skip (WX.then_normal ?_)
                          refine WC.seq ?_
                          refine WC.region ?_
                          refine WL.y rfl (Yld.pure tab_ok rfl) ?_
                          refine WL.y rfl (Yld.pure tab_ok rfl) ?_
                          refine WL.lit tab_ok rfl rfl rfl (all1c rfl (all1c rfl all1n)) rfl (by omega) (fun g2 w10 hB2 hg8 hl2 => ?_)
                          have hO2 : Own vs w10 w.heap.size 9 (some ⟨g2, 0, none⟩) 2 ([t340, t850] : List (List UInt8)) := Own.ofBl hB2 (Nat.le_trans (size_le gr9) hl2) (by simp [maxLen]) rfl
                          have gr10 := gr_trans gr9 hg8
                          refine WL.call rfl rfl (W_path_Join (hG.grown gr10) hS11 hS100 hO2.rd rfl H) ?_
                          rintro _ w11 ⟨hg9, t980, v_t981, t981, rfl, ht981, H⟩
                          have gr11 := gr_trans gr10 hg9
                          refine WL.y rfl (Yld.pure tab_ok rfl) ?_
                          refine WL.y rfl (Yld.pure tab_ok rfl) ?_
                          refine WL.y rfl (Yld.pure tab_ok rfl) ?_
                          refine WL.y rfl (Yld.pure tab_ok rfl) ?_
                          refine WL.y rfl (Yld.pure tab_ok rfl) ?_
                          refine WL.nil (WX.then_normal ?_)
                          refine WC.seq ?_
                          refine WC.seq ?_
                          refine WC.region ?_
                          refine WL.y rfl (Yld.pure tab_ok rfl) ?_
                          refine WL.y rfl (Yld.errneq Tryd.underlying30 ht981 rfl) ?_
                          refine WL.nil (WX.then_normal ?_)
                          refine WC.cond rfl (fun b8 => ?_) (fun b8 => ?_)
                          · replace H := H.1 (nd_true b8)
                            refine WC.seq ?_
                            refine WC.region ?_
                            refine WL.y rfl (Yld.pure tab_ok rfl) ?_
                            refine WL.y rfl (Yld.pure tab_ok rfl) ?_
                            refine WL.y rfl (Yld.pure tab_ok rfl) ?_
                            refine WL.y rfl (Yld.pure tab_ok rfl) ?_
                            obtain ⟨h1, H⟩ := H
                            refine WL.y rfl (Yld.add rfl rfl h1) ?_
                            obtain ⟨h2, H⟩ := H
                            refine WL.y rfl (Yld.add rfl rfl h2) ?_
                            refine WL.y rfl (Yld.pure tab_ok rfl) ?_
                            refine WL.y rfl (Yld.pure tab_ok rfl) ?_
                            refine WL.nil (WX.then_normal ?_)
                            refine WC.ret (WX.then_ret ?_)
                            exact WX.ret1 rfl rfl ⟨gr11, decide ((200 : Int) < (((t340.length : Int) + (t850.length : Int)) + (1 : Int))), rfl, H⟩
                          · replace H := H.2 (nd_false b8)
                            refine WC.skip (WX.then_normal ?_)
                            refine WC.seq ?_
                            refine WC.region ?_
                            refine WL.y rfl (Yld.pure tab_ok rfl) ?_
                            refine WL.y rfl (Yld.pure tab_ok rfl) ?_
                            refine WL.call rfl rfl (W_path_Under H) ?_
                            rintro _ _ ⟨rfl, t112, rfl, H⟩
                            refine WL.y rfl (Yld.pure tab_ok rfl) ?_
                            refine WL.midF 4 (fun L' w' => ∃ q8 : Bool, L' = [(117, .bool q8), (12, vs t850), (14, vs t980)] ∧ q8 = (t112 && (!decide (t980 = t340))) ∧ w11 = w') ?_ (fun hQ => ?_)
                            · rintro _ _ ⟨q8, rfl, rfl, rfl⟩
                              refine WL.y rfl (Yld.pure tab_ok rfl) ?_
                              obtain ⟨J3, H, hJ3⟩ := H
                              refine WL.midF 6 (fun L' w' => ∃ q9 : Bool, L' = [(124, .bool q9)] ∧ J3 q9 ∧ w11 = w') ?_ (fun hQ => ?_)
                              · clear H
                                rintro _ _ ⟨q9, rfl, H, rfl⟩
                                replace H := hJ3 q9 H
                                refine WL.y rfl (Yld.pure tab_ok rfl) ?_
                                refine WL.nil (WX.then_normal ?_)
                                refine WC.ret ?_
                                exact WX.ret1 rfl rfl ⟨gr11, q9, rfl, H⟩
                              · clear hJ3
                                rcases Bool.eq_false_or_eq_true (t112 && (!decide (t980 = t340))) with b9 | b9
                                · replace H := H.1 b9
                                  refine WL.gyes rfl rfl (okb b9) rfl (Yld.pure tab_ok rfl) ?_
                                  refine WL.callw (wants_some rfl rfl (okb b9)) rfl rfl (W_path_Base H) ?_
                                  rintro _ _ ⟨rfl, t120, rfl, H⟩
                                  refine WL.gyes rfl rfl (okb b9) rfl (Yld.pure tab_ok rfl) ?_
                                  refine WL.callw (wants_some rfl rfl (okb b9)) rfl rfl (W_path_Base H) ?_
                                  rintro _ _ ⟨rfl, t122, rfl, H⟩
                                  refine WL.gyes rfl rfl (okb b9) rfl (Yld.pure tab_ok rfl) ?_
                                  refine WL.y rfl (Yld.pickT (okb b9) rfl) ?_
                                  exact WL.weaken (by repeat (first | exact Sub.nil | refine Sub.cons rfl ?_)) (hQ _ _ ⟨decide (t120 = t122), rfl, H, rfl⟩)
                                · replace H := H.2 b9
                                  refine WL.gno rfl rfl (okb b9) rfl ?_
                                  refine WL.gno rfl rfl (okb b9) rfl ?_
                                  refine WL.gno rfl rfl (okb b9) rfl ?_
                                  refine WL.gno rfl rfl (okb b9) rfl ?_
                                  refine WL.gno rfl rfl (okb b9) rfl ?_
                                  refine WL.y rfl (Yld.pickF (okb b9) rfl) ?_
                                  exact WL.weaken (by repeat (first | exact Sub.nil | refine Sub.cons rfl ?_)) (hQ _ _ ⟨false, rfl, H, rfl⟩)
                            · clear H
                              rcases Bool.eq_false_or_eq_true (t112) with b10 | b10
                              · refine WL.gyes rfl rfl (okb b10) rfl (Yld.pure tab_ok rfl) ?_
                                refine WL.gyes rfl rfl (okb b10) rfl (Yld.pure tab_ok rfl) ?_
                                refine WL.gyes rfl rfl (okb b10) rfl (Yld.pure tab_ok rfl) ?_
                                refine WL.y rfl (Yld.pickT (okb b10) rfl) ?_
                                exact WL.weaken (by repeat (first | exact Sub.nil | refine Sub.cons rfl ?_)) (hQ _ _ ⟨!decide (t980 = t340), rfl, by rw [b10] <;> rfl, rfl⟩)
                              · refine WL.gno rfl rfl (okb b10) rfl ?_
                                refine WL.gno rfl rfl (okb b10) rfl ?_
                                refine WL.gno rfl rfl (okb b10) rfl ?_
                                refine WL.y rfl (Yld.pickF (okb b10) rfl) ?_
                                exact WL.weaken (by repeat (first | exact Sub.nil | refine Sub.cons rfl ?_)) (hQ _ _ ⟨false, rfl, by rw [b10] <;> rfl, rfl⟩)
                      · clear H
                        rcases Bool.eq_false_or_eq_true (!decide (t851 = Er.ok)) with b11 | b11
                        · refine WL.gno rfl rfl (okb b11) rfl ?_
                          refine WL.gno rfl rfl (okb b11) rfl ?_
                          refine WL.y rfl (Yld.pickT (okb b11) rfl) ?_
                          exact WL.weaken (by repeat (first | exact Sub.nil | refine Sub.cons rfl ?_)) (hQ _ _ ⟨true, rfl, by rw [b11] <;> rfl, rfl⟩)
                        · refine WL.gyes rfl rfl (okb b11) rfl (Yld.pure tab_ok rfl) ?_
                          refine WL.gyes rfl rfl (okb b11) rfl (Yld.pure tab_ok rfl) ?_
                          refine WL.y rfl (Yld.pickF (okb b11) rfl) ?_
                          exact WL.weaken (by repeat (first | exact Sub.nil | refine Sub.cons rfl ?_)) (hQ _ _ ⟨decide (t850 = ([] : List UInt8)), rfl, by rw [b11] <;> rfl, rfl⟩)
                  · clear H
                    rcases Bool.eq_false_or_eq_true (!decide (t731 = Er.ok)) with b12 | b12
                    · refine WL.gno rfl rfl (okb b12) rfl ?_
                      refine WL.gno rfl rfl (okb b12) rfl ?_
                      refine WL.gno rfl rfl (okb b12) rfl ?_
                      refine WL.y rfl (Yld.pickT (okb b12) rfl) ?_
                      exact WL.weaken (by repeat (first | exact Sub.nil | refine Sub.cons rfl ?_)) (hQ _ _ ⟨true, rfl, by rw [b12] <;> rfl, rfl⟩)
                    · refine WL.gyes rfl rfl (okb b12) rfl (Yld.pure tab_ok rfl) ?_
                      refine WL.gyes rfl rfl (okb b12) rfl (Yld.pure tab_ok rfl) ?_
                      refine WL.gyes rfl rfl (okb b12) rfl (Yld.pure tab_ok rfl) ?_
                      refine WL.y rfl (Yld.pickF (okb b12) rfl) ?_
                      exact WL.weaken (by repeat (first | exact Sub.nil | refine Sub.cons rfl ?_)) (hQ _ _ ⟨!decide (t730 = t340), rfl, by rw [b12] <;> rfl, rfl⟩)
              · clear hJ2
                rcases Bool.eq_false_or_eq_true ((!decide (t481 = Er.ok)) || (!decide (t480 = t340))) with b13 | b13
                · replace H := H.1 b13
                  refine WL.gno rfl rfl (okb b13) rfl ?_
                  refine WL.gno rfl rfl (okb b13) rfl ?_
                  refine WL.gno rfl rfl (okb b13) rfl ?_
                  refine WL.gun rfl rfl rfl rfl ?_
                  refine WL.gun rfl rfl rfl rfl ?_
                  refine WL.gun rfl rfl rfl rfl ?_
                  refine WL.gno rfl rfl (okb b13) rfl ?_
                  refine WL.y rfl (Yld.pickT (okb b13) rfl) ?_
                  exact WL.weaken (by repeat (first | exact Sub.nil | refine Sub.cons rfl ?_)) (hQ _ _ ⟨true, rfl, H, gr5⟩)
                · replace H := H.2 b13
                  refine WL.gyes rfl rfl (okb b13) rfl (Yld.pure tab_ok rfl) ?_
                  refine WL.gyes rfl rfl (okb b13) rfl (Yld.pure tab_ok rfl) ?_
                  refine WL.gyes rfl rfl (okb b13) rfl (Yld.pure tab_ok rfl) ?_
                  rcases Bool.eq_false_or_eq_true (!decide (t340 = ([] : List UInt8))) with b14 | b14
                  · replace H := H.1 b14
                    refine WL.gyes rfl rfl (okb b14) rfl (Yld.pure tab_ok rfl) ?_
                    refine WL.callw (wants_some rfl rfl (okb b14)) rfl rfl (W_path_Valid (hG.grown gr5) hS100 H) ?_
                    rintro _ w12 ⟨hg10, t63, rfl, H⟩
                    have gr12 := gr_trans gr5 hg10
                    refine WL.gyes rfl rfl (okb b14) rfl (Yld.pure tab_ok rfl) ?_
                    refine WL.gyes rfl rfl (okb b13) rfl (Yld.pickT (okb b14) rfl) ?_
                    refine WL.y rfl (Yld.pickF (okb b13) rfl) ?_
                    exact WL.weaken (by repeat (first | exact Sub.nil | refine Sub.cons rfl ?_)) (hQ _ _ ⟨!t63, rfl, H, gr12⟩)
                  · replace H := H.2 b14
                    refine WL.gno rfl rfl (okb b14) rfl ?_
                    refine WL.gno rfl rfl (okb b14) rfl ?_
                    refine WL.gno rfl rfl (okb b14) rfl ?_
                    refine WL.gyes rfl rfl (okb b13) rfl (Yld.pickF (okb b14) rfl) ?_
                    refine WL.y rfl (Yld.pickF (okb b13) rfl) ?_
                    exact WL.weaken (by repeat (first | exact Sub.nil | refine Sub.cons rfl ?_)) (hQ _ _ ⟨false, rfl, H, gr5⟩)
            · clear H
              rcases Bool.eq_false_or_eq_true (!decide (t481 = Er.ok)) with b15 | b15
              · refine WL.gno rfl rfl (okb b15) rfl ?_
                refine WL.gno rfl rfl (okb b15) rfl ?_
                refine WL.gno rfl rfl (okb b15) rfl ?_
                refine WL.y rfl (Yld.pickT (okb b15) rfl) ?_
                exact WL.weaken (by repeat (first | exact Sub.nil | refine Sub.cons rfl ?_)) (hQ _ _ ⟨true, rfl, by rw [b15] <;> rfl, rfl⟩)
              · refine WL.gyes rfl rfl (okb b15) rfl (Yld.pure tab_ok rfl) ?_
                refine WL.gyes rfl rfl (okb b15) rfl (Yld.pure tab_ok rfl) ?_
                refine WL.gyes rfl rfl (okb b15) rfl (Yld.pure tab_ok rfl) ?_
                refine WL.y rfl (Yld.pickF (okb b15) rfl) ?_
                exact WL.weaken (by repeat (first | exact Sub.nil | refine Sub.cons rfl ?_)) (hQ _ _ ⟨!decide (t480 = t340), rfl, by rw [b15] <;> rfl, rfl⟩)
      · clear H
        rcases Bool.eq_false_or_eq_true ((decide ((300 : Int) < (p.length : Int))) || (decide ((300 : Int) < (q.length : Int)))) with b16 | b16
        · refine WL.gno rfl rfl (okb b16) rfl ?_
          refine WL.gno rfl rfl (okb b16) rfl ?_
          refine WL.y rfl (Yld.pickT (okb b16) rfl) ?_
          exact WL.weaken (by repeat (first | exact Sub.nil | refine Sub.cons rfl ?_)) (hQ _ _ ⟨true, rfl, by rw [b16] <;> rfl, rfl⟩)
        · refine WL.gyes rfl rfl (okb b16) rfl (Yld.pure tab_ok rfl) ?_
          refine WL.gyes rfl rfl (okb b16) rfl (Yld.pure tab_ok rfl) ?_
          refine WL.y rfl (Yld.pickF (okb b16) rfl) ?_
          exact WL.weaken (by repeat (first | exact Sub.nil | refine Sub.cons rfl ?_)) (hQ _ _ ⟨!ok, rfl, by rw [b16] <;> rfl, rfl⟩)
    · clear H
      rcases Bool.eq_false_or_eq_true (decide ((300 : Int) < (p.length : Int))) with b17 | b17
      · refine WL.gno rfl rfl (okb b17) rfl ?_
        refine WL.gno rfl rfl (okb b17) rfl ?_
        refine WL.gno rfl rfl (okb b17) rfl ?_
        refine WL.y rfl (Yld.pickT (okb b17) rfl) ?_
        exact WL.weaken (by repeat (first | exact Sub.nil | refine Sub.cons rfl ?_)) (hQ _ _ ⟨true, rfl, by rw [b17] <;> rfl, rfl⟩)
      · refine WL.gyes rfl rfl (okb b17) rfl (Yld.pure tab_ok rfl) ?_
        refine WL.gyes rfl rfl (okb b17) rfl (Yld.pure tab_ok rfl) ?_
        refine WL.gyes rfl rfl (okb b17) rfl (Yld.pure tab_ok rfl) ?_
        refine WL.y rfl (Yld.pickF (okb b17) rfl) ?_
        exact WL.weaken (by repeat (first | exact Sub.nil | refine Sub.cons rfl ?_)) (hQ _ _ ⟨decide ((300 : Int) < (q.length : Int)), rfl, by rw [b17] <;> rfl, rfl⟩)

set_option maxHeartbeats 8000000 in
theorem W_smithylaw1_PathStars {S : List Nat} {w : World} {a : List UInt8} {b : List UInt8} {K : Bool → Prop} (hG : GOK S w) (hS11 : 11 ∈ S) (hS100 : 100 ∈ S) (H : M_smithylaw1_PathStars a b K) : Fn Tryd.prog 9 ⟨[vs a, vs b]⟩ w (fun v w' => w.grownBy w' none ∧ ∃ (r : Bool), v = .bool r ∧ K r) := by
  unfold M_smithylaw1_PathStars at H
  refine Fn.enter (by kernel_rfl) Tryd.func9 rfl Tryd.ntmps9 rfl ?_
  refine WC.seq ?_
  refine WC.region ?_
  refine WL.y rfl (Yld.pure tab_ok rfl) ?_
  refine WL.nil (WX.then_normal ?_)
  refine WC.seq ?_
  refine WC.region ?_
  refine WL.call rfl rfl (W_smithylaw1_first hG hS11 hS100 H) ?_
  rintro _ w1 ⟨hg1, ok, rfl, H⟩
  have gr1 := hg1
  refine WL.y rfl (Yld.pure tab_ok rfl) ?_
  refine WL.nil (WX.then_normal ?_)
  refine WC.seq ?_
  refine WC.seq ?_
  refine WC.region ?_
  refine WL.y rfl (Yld.pure tab_ok rfl) ?_
  refine WL.y rfl (Yld.pure tab_ok rfl) ?_
  refine WL.nil (WX.then_normal ?_)
  refine WC.cond rfl (fun b1 => ?_) (fun b1 => ?_)
  · replace H := H.1 (b1)
    refine WC.seq ?_
    refine WC.region ?_
    refine WL.y rfl (Yld.pure tab_ok rfl) ?_
    refine WL.nil (WX.then_normal ?_)
    refine WC.ret (WX.then_ret ?_)
    exact WX.ret1 rfl rfl ⟨gr1, false, rfl, H⟩
  · replace H := H.2 (b1)
    refine WC.skip (WX.then_normal ?_)
    refine WC.seq ?_
    refine WC.seq ?_
    refine WC.region ?_
    refine WL.y rfl (Yld.pure tab_ok rfl) ?_
    refine WL.y rfl (Yld.pure tab_ok rfl) ?_
    refine WL.y rfl (Yld.pure tab_ok rfl) ?_
    refine WL.y rfl (Yld.pure tab_ok rfl) ?_
    refine WL.midF 4 (fun L' w' => ∃ q1 : Bool, L' = [(27, .bool q1), (0, vs a), (1, vs b), (5, .bool ok)] ∧ q1 = ((decide ((60 : Int) < (a.length : Int))) || (decide ((60 : Int) < (b.length : Int)))) ∧ w1 = w') ?_ (fun hQ => ?_)
    · rintro _ _ ⟨q1, rfl, rfl, rfl⟩
      refine WL.y rfl (Yld.pure tab_ok rfl) ?_
      obtain ⟨J1, H, hJ1⟩ := H
      refine WL.midF 4 (fun L' w' => ∃ q2 : Bool, L' = [(32, .bool q2), (0, vs a), (1, vs b), (5, .bool ok)] ∧ J1 q2 ∧ w.grownBy w' none) ?_ (fun hQ => ?_)
      · clear H
        rintro _ w2 ⟨q2, rfl, H, gr2⟩
        replace H := hJ1 q2 H
        refine WL.y rfl (Yld.pure tab_ok rfl) ?_
        obtain ⟨J2, H, hJ2⟩ := H
        refine WL.midF 4 (fun L' w' => ∃ q3 : Bool, L' = [(37, .bool q3), (0, vs a), (1, vs b), (5, .bool ok)] ∧ J2 q3 ∧ w.grownBy w' none) ?_ (fun hQ => ?_)
        · clear H
          rintro _ w3 ⟨q3, rfl, H, gr3⟩
          replace H := hJ2 q3 H
          refine WL.y rfl (Yld.pure tab_ok rfl) ?_
          refine WL.midF 3 (fun L' w' => ∃ q4 : Bool, L' = [(41, .bool q4), (0, vs a), (1, vs b), (5, .bool ok)] ∧ q4 = (q3 || (!ok)) ∧ w3 = w') ?_ (fun hQ => ?_)
          · rintro _ _ ⟨q4, rfl, rfl, rfl⟩
            refine WL.nil (WX.then_normal ?_)
            refine WC.cond rfl (fun b2 => ?_) (fun b2 => ?_)
            · replace H := H.1 (b2)
              refine WC.seq ?_
              refine WC.region ?_
              refine WL.y rfl (Yld.pure tab_ok rfl) ?_
              refine WL.y rfl (Yld.pure tab_ok rfl) ?_
              refine WL.nil (WX.then_normal ?_)
              refine WC.ret (WX.then_ret ?_)
              exact WX.ret1 rfl rfl ⟨gr3, ok, rfl, H⟩
            · replace H := H.2 (b2)
              refine WC.skip (WX.then_normal ?_)
              refine WC.seq ?_
              refine WC.region ?_
              refine WL.y rfl (Yld.pure tab_ok rfl) ?_
              obtain ⟨h1, H⟩ := H
              refine WL.y rfl (Yld.sadd rfl rfl h1) ?_
              refine WL.y rfl (Yld.pure tab_ok rfl) ?_
              obtain ⟨h2, H⟩ := H
              refine WL.y rfl (Yld.sadd rfl rfl h2) ?_
              refine WL.y rfl (Yld.pure tab_ok rfl) ?_
              refine WL.nil (WX.then_normal ?_)
              refine WC.seq ?_
              refine WC.region ?_
              refine WL.y rfl (Yld.pure tab_ok rfl) ?_
              obtain ⟨h3, H⟩ := H
              refine WL.y rfl (Yld.sadd rfl rfl h3) ?_
              refine WL.y rfl (Yld.pure tab_ok rfl) ?_
              obtain ⟨h4, H⟩ := H
              refine WL.y rfl (Yld.sadd rfl rfl h4) ?_
              refine WL.y rfl (Yld.pure tab_ok rfl) ?_
              obtain ⟨h5, H⟩ := H
              refine WL.y rfl (Yld.sadd rfl rfl h5) ?_
              refine WL.y rfl (Yld.pure tab_ok rfl) ?_
              obtain ⟨h6, H⟩ := H
              refine WL.y rfl (Yld.sadd rfl rfl h6) ?_
              refine WL.y rfl (Yld.pure tab_ok rfl) ?_
              obtain ⟨h7, H⟩ := H
              refine WL.y rfl (Yld.sadd rfl rfl h7) ?_
              refine WL.y rfl (Yld.pure tab_ok rfl) ?_
              obtain ⟨h8, H⟩ := H
              refine WL.y rfl (Yld.sadd rfl rfl h8) ?_
              refine WL.y rfl (Yld.pure tab_ok rfl) ?_
              refine WL.call rfl rfl (W_path_Base H) ?_
              rintro _ _ ⟨rfl, t60, rfl, H⟩
              obtain ⟨h9, H⟩ := H
              refine WL.y rfl (Yld.sadd rfl rfl h9) ?_
              refine WL.y rfl (Yld.pure tab_ok rfl) ?_
              obtain ⟨h10, H⟩ := H
              refine WL.y rfl (Yld.sadd rfl rfl h10) ?_
              refine WL.lit tab_ok rfl rfl rfl (all1c rfl (all1c rfl (all1c rfl (all1c rfl (all1c rfl (all1c rfl (all1c rfl all1n))))))) rfl (by omega) (fun g1 w4 hB1 hg2 hl1 => ?_)
              have hO1 : Own vs w4 w.heap.size 9 (some ⟨g1, 0, none⟩) 7 ([([42, 42] : List UInt8), (a ++ ([47] : List UInt8)) ++ b, a ++ ([47, 42, 42] : List UInt8), ([42, 42, 47] : List UInt8) ++ b, (a ++ ([47, 42, 42, 47] : List UInt8)) ++ b, ([42, 42, 47] : List UInt8) ++ t60, ((a ++ ([47] : List UInt8)) ++ b) ++ ([47, 42, 42] : List UInt8)] : List (List UInt8)) := Own.ofBl hB1 (Nat.le_trans (size_le gr3) hl1) (by simp [maxLen]) rfl
              have gr4 := gr_trans gr3 hg2
              refine WL.y rfl (Yld.pure tab_ok rfl) ?_
              refine WL.nil (WX.then_normal ?_)
              refine WC.seq ?_
              refine WC.seq ?_
              refine WC.region ?_
              refine WL.y rfl (Yld.pure tab_ok rfl) ?_
              refine WL.nil (WX.then_normal ?_)
              refine WC.block ?_
              obtain ⟨I1, mu1, h0_1, HR1⟩ := H
              refine WC.loopF (fun n' L' w' => ∃ (i : Int), n' = mu1 i ∧ L' = [(0, vs a), (6, vs ((a ++ ([47] : List UInt8)) ++ b)), (7, .slice (some ⟨g1, 0, none⟩) 7 7), (8, .int .i64 i)] ∧ I1 i ∧ w.grownBy w' none ∧ Own vs w' w.heap.size 9 (some ⟨g1, 0, none⟩) 7 ([([42, 42] : List UInt8), (a ++ ([47] : List UInt8)) ++ b, a ++ ([47, 42, 42] : List UInt8), ([42, 42, 47] : List UInt8) ++ b, (a ++ ([47, 42, 42, 47] : List UInt8)) ++ b, ([42, 42, 47] : List UInt8) ++ t60, ((a ++ ([47] : List UInt8)) ++ b) ++ ([47, 42, 42] : List UInt8)] : List (List UInt8))) _ _ ⟨(0 : Int), rfl, rfl, h0_1, gr4, hO1⟩ (by repeat (first | exact Sub.nil | refine Sub.cons rfl ?_)) ?_
              clear h0_1
              rintro _ _ w5 ⟨i, rfl, rfl, hI1, gr5, k1⟩
              have H := HR1 i hI1
              refine WC.seq ?_
              refine WC.seq ?_
              refine WC.region ?_
              refine WL.y rfl (Yld.pure tab_ok rfl) ?_
              refine WL.y rfl (Yld.pure tab_ok rfl) ?_
              refine WL.y rfl (Yld.pure tab_ok rfl) ?_
              refine WL.y rfl (Yld.pure tab_ok rfl) ?_
              refine WL.nil (WX.then_normal ?_)
              refine WC.cond rfl (fun b3 => ?_) (fun b3 => ?_)
              · replace H := H.1 (of_decide_eq_true b3)
                refine WC.skip (WX.then_normal ?_)
                refine WC.seq ?_
                refine WC.block ?_
                refine WC.seq ?_
                refine WC.region ?_
                refine WL.y rfl (Yld.pure tab_ok rfl) ?_
                refine WL.y rfl (Yld.pure tab_ok rfl) ?_
                obtain ⟨h11, H⟩ := H
                refine WL.y rfl (Yld.iaddrW tab_ok k1.rd rfl rfl rfl rfl h11.1 h11.2) ?_
                refine WL.y rfl (Yld.iload [] tab_ok k1.rd rfl rfl (iltN h11 rfl)) ?_
                refine WL.y rfl (Yld.pure tab_ok rfl) ?_
                refine WL.call rfl rfl (W_path_Match (hG.grown gr5) hS11 hS100 H) ?_
                rintro _ w6 ⟨hg3, t770, v_t771, t771, rfl, ht771, H⟩
                have gr6 := gr_trans gr5 hg3
                have k2 := k1.grown hg3
                refine WL.y rfl (Yld.pure tab_ok rfl) ?_
                refine WL.y rfl (Yld.pure tab_ok rfl) ?_
                refine WL.y rfl (Yld.pure tab_ok rfl) ?_
                refine WL.y rfl (Yld.pure tab_ok rfl) ?_
                refine WL.y rfl (Yld.pure tab_ok rfl) ?_
                refine WL.nil (WX.then_normal ?_)
                refine WC.seq ?_
                refine WC.region ?_
                refine WL.y rfl (Yld.pure tab_ok rfl) ?_
                refine WL.y rfl (Yld.errneq Tryd.underlying30 ht771 rfl) ?_
                refine WL.y rfl (Yld.pure tab_ok rfl) ?_
                refine WL.midF 3 (fun L' w' => ∃ q5 : Bool, L' = [(85, .bool q5), (0, vs a), (6, vs ((a ++ ([47] : List UInt8)) ++ b)), (7, .slice (some ⟨g1, 0, none⟩) 7 7), (8, .int .i64 i)] ∧ q5 = ((!decide (t771 = Er.ok)) || (!t770)) ∧ w6 = w') ?_ (fun hQ => ?_)
                · rintro _ _ ⟨q5, rfl, rfl, rfl⟩
                  refine WL.nil (WX.then_normal ?_)
                  refine WC.cond rfl (fun b4 => ?_) (fun b4 => ?_)
                  · replace H := H.1 (b4)
                    refine WC.seq ?_
                    refine WC.region ?_
                    refine WL.y rfl (Yld.pure tab_ok rfl) ?_
                    refine WL.nil (WX.then_normal ?_)
                    refine WC.ret (WX.block_ret (WX.then_ret (WX.then_ret (WX.block_ret (WX.then_ret ?_)))))
                    exact WX.ret1 rfl rfl ⟨gr6, false, rfl, H⟩
                  · replace H := H.2 (b4)
                    refine WC.skip (WX.block_normal (WX.then_normal ?_))
                    refine WC.region ?_
                    refine WL.y rfl (Yld.pure tab_ok rfl) ?_
                    obtain ⟨h12, H⟩ := H
                    refine WL.y rfl (Yld.add rfl rfl h12) ?_
                    refine WL.y rfl (Yld.pure tab_ok rfl) ?_
                    refine WL.nil ?_
                    exact WX.roundF _ ⟨i + (1 : Int), rfl, rfl, H.1, gr6, k2⟩ (by repeat (first | exact Sub.nil | refine Sub.cons rfl ?_)) H.2
                · clear H
                  rcases Bool.eq_false_or_eq_true (!decide (t771 = Er.ok)) with b5 | b5
                  · refine WL.gno rfl rfl (okb b5) rfl ?_
                    refine WL.gno rfl rfl (okb b5) rfl ?_
                    refine WL.y rfl (Yld.pickT (okb b5) rfl) ?_
                    exact WL.weaken (by repeat (first | exact Sub.nil | refine Sub.cons rfl ?_)) (hQ _ _ ⟨true, rfl, by rw [b5] <;> rfl, rfl⟩)
                  · refine WL.gyes rfl rfl (okb b5) rfl (Yld.pure tab_ok rfl) ?_
                    refine WL.gyes rfl rfl (okb b5) rfl (Yld.pure tab_ok rfl) ?_
                    refine WL.y rfl (Yld.pickF (okb b5) rfl) ?_
                    exact WL.weaken (by repeat (first | exact Sub.nil | refine Sub.cons rfl ?_)) (hQ _ _ ⟨!t770, rfl, by rw [b5] <;> rfl, rfl⟩)
              · replace H := H.2 (of_decide_eq_false b3)
                refine WC.exit (WX.then_exit (WX.then_exit (WX.block_same (WX.then_normal ?_))))
                refine WC.seq ?_
                refine WC.region ?_
                refine WL.y rfl (Yld.pure tab_ok rfl) ?_
                refine WL.call rfl rfl (W_path_Match (hG.grown gr5) hS11 hS100 H) ?_
                rintro _ w7 ⟨hg4, t880, v_t881, t881, rfl, ht881, H⟩
                have gr7 := gr_trans gr5 hg4
                refine WL.y rfl (Yld.pure tab_ok rfl) ?_
                refine WL.y rfl (Yld.pure tab_ok rfl) ?_
                refine WL.y rfl (Yld.pure tab_ok rfl) ?_
                refine WL.y rfl (Yld.pure tab_ok rfl) ?_
                refine WL.y rfl (Yld.pure tab_ok rfl) ?_
                refine WL.nil (WX.then_normal ?_)
                refine WC.seq ?_
                refine WC.region ?_
                refine WL.y rfl (Yld.pure tab_ok rfl) ?_
                refine WL.call rfl rfl (W_path_Base H) ?_
                rintro _ _ ⟨rfl, t93, rfl, H⟩
                refine WL.call rfl rfl (W_path_Match (hG.grown gr7) hS11 hS100 H) ?_
                rintro _ w8 ⟨hg5, t940, v_t941, t941, rfl, ht941, H⟩
                have gr8 := gr_trans gr7 hg5
                have k3 := ht881.grown hg5
                refine WL.y rfl (Yld.pure tab_ok rfl) ?_
                refine WL.y rfl (Yld.pure tab_ok rfl) ?_
                refine WL.y rfl (Yld.pure tab_ok rfl) ?_
                refine WL.y rfl (Yld.pure tab_ok rfl) ?_
                refine WL.y rfl (Yld.pure tab_ok rfl) ?_
                refine WL.nil (WX.then_normal ?_)
                refine WC.seq ?_
                refine WC.region ?_
                refine WL.y rfl (Yld.pure tab_ok rfl) ?_
                obtain ⟨h13, H⟩ := H
                refine WL.y rfl (Yld.sadd rfl rfl h13) ?_
                refine WL.y rfl (Yld.pure tab_ok rfl) ?_
                obtain ⟨h14, H⟩ := H
                refine WL.y rfl (Yld.sadd rfl rfl h14) ?_
                refine WL.call rfl rfl (W_path_Match (hG.grown gr8) hS11 hS100 H) ?_
                rintro _ w9 ⟨hg6, t1020, v_t1021, t1021, rfl, ht1021, H⟩
                have gr9 := gr_trans gr8 hg6
                have k4 := k3.grown hg6
                have k5 := ht941.grown hg6
                refine WL.y rfl (Yld.pure tab_ok rfl) ?_
                refine WL.y rfl (Yld.pure tab_ok rfl) ?_
                refine WL.y rfl (Yld.pure tab_ok rfl) ?_
                refine WL.y rfl (Yld.pure tab_ok rfl) ?_
                refine WL.y rfl (Yld.pure tab_ok rfl) ?_
                refine WL.nil (WX.then_normal ?_)
                refine WC.seq ?_
                refine WC.region ?_
                refine WL.y rfl (Yld.pure tab_ok rfl) ?_
                refine WL.y rfl (Yld.erreql Tryd.underlying30 k4 rfl) ?_
                refine WL.y rfl (Yld.pure tab_ok rfl) ?_
                refine WL.midF 3 (fun L' w' => ∃ q6 : Bool, L' = [(110, .bool q6), (11, .bool t880), (13, .bool t940), (15, .bool t1020), (16, v_t1021)] ∧ q6 = ((decide (t881 = Er.ok)) && (decide (t941 = Er.ok))) ∧ w9 = w') ?_ (fun hQ => ?_)
                · rintro _ _ ⟨q6, rfl, rfl, rfl⟩
                  refine WL.y rfl (Yld.pure tab_ok rfl) ?_
                  refine WL.midF 3 (fun L' w' => ∃ q7 : Bool, L' = [(114, .bool q7), (11, .bool t880), (13, .bool t940), (15, .bool t1020)] ∧ q7 = (((decide (t881 = Er.ok)) && (decide (t941 = Er.ok))) && (decide (t1021 = Er.ok))) ∧ w9 = w') ?_ (fun hQ => ?_)
                  · rintro _ _ ⟨q7, rfl, rfl, rfl⟩
                    refine WL.y rfl (Yld.pure tab_ok rfl) ?_
                    refine WL.midF 3 (fun L' w' => ∃ q8 : Bool, L' = [(118, .bool q8), (13, .bool t940), (15, .bool t1020)] ∧ q8 = ((((decide (t881 = Er.ok)) && (decide (t941 = Er.ok))) && (decide (t1021 = Er.ok))) && (!t880)) ∧ w9 = w') ?_ (fun hQ => ?_)
                    · rintro _ _ ⟨q8, rfl, rfl, rfl⟩
                      refine WL.y rfl (Yld.pure tab_ok rfl) ?_
                      refine WL.midF 2 (fun L' w' => ∃ q9 : Bool, L' = [(121, .bool q9), (15, .bool t1020)] ∧ q9 = (((((decide (t881 = Er.ok)) && (decide (t941 = Er.ok))) && (decide (t1021 = Er.ok))) && (!t880)) && t940) ∧ w9 = w') ?_ (fun hQ => ?_)
                      · rintro _ _ ⟨q9, rfl, rfl, rfl⟩
                        refine WL.y rfl (Yld.pure tab_ok rfl) ?_
                        refine WL.midF 3 (fun L' w' => ∃ q10 : Bool, L' = [(125, .bool q10)] ∧ q10 = ((((((decide (t881 = Er.ok)) && (decide (t941 = Er.ok))) && (decide (t1021 = Er.ok))) && (!t880)) && t940) && (!t1020)) ∧ w9 = w') ?_ (fun hQ => ?_)
                        · rintro _ _ ⟨q10, rfl, rfl, rfl⟩
                          refine WL.y rfl (Yld.pure tab_ok rfl) ?_
                          refine WL.nil (WX.then_normal ?_)
                          refine WC.ret ?_
                          exact WX.ret1 rfl rfl ⟨gr9, (((((decide (t881 = Er.ok)) && (decide (t941 = Er.ok))) && (decide (t1021 = Er.ok))) && (!t880)) && t940) && (!t1020), rfl, H⟩
                        · clear H
                          rcases Bool.eq_false_or_eq_true (((((decide (t881 = Er.ok)) && (decide (t941 = Er.ok))) && (decide (t1021 = Er.ok))) && (!t880)) && t940) with b6 | b6
                          · refine WL.gyes rfl rfl (okb b6) rfl (Yld.pure tab_ok rfl) ?_
                            refine WL.gyes rfl rfl (okb b6) rfl (Yld.pure tab_ok rfl) ?_
                            refine WL.y rfl (Yld.pickT (okb b6) rfl) ?_
                            exact WL.weaken (by repeat (first | exact Sub.nil | refine Sub.cons rfl ?_)) (hQ _ _ ⟨!t1020, rfl, by rw [b6] <;> rfl, rfl⟩)
                          · refine WL.gno rfl rfl (okb b6) rfl ?_
                            refine WL.gno rfl rfl (okb b6) rfl ?_
                            refine WL.y rfl (Yld.pickF (okb b6) rfl) ?_
                            exact WL.weaken (by repeat (first | exact Sub.nil | refine Sub.cons rfl ?_)) (hQ _ _ ⟨false, rfl, by rw [b6] <;> rfl, rfl⟩)
                      · clear H
                        rcases Bool.eq_false_or_eq_true ((((decide (t881 = Er.ok)) && (decide (t941 = Er.ok))) && (decide (t1021 = Er.ok))) && (!t880)) with b7 | b7
                        · refine WL.gyes rfl rfl (okb b7) rfl (Yld.pure tab_ok rfl) ?_
                          refine WL.y rfl (Yld.pickT (okb b7) rfl) ?_
                          exact WL.weaken (by repeat (first | exact Sub.nil | refine Sub.cons rfl ?_)) (hQ _ _ ⟨t940, rfl, by rw [b7] <;> rfl, rfl⟩)
                        · refine WL.gno rfl rfl (okb b7) rfl ?_
                          refine WL.y rfl (Yld.pickF (okb b7) rfl) ?_
                          exact WL.weaken (by repeat (first | exact Sub.nil | refine Sub.cons rfl ?_)) (hQ _ _ ⟨false, rfl, by rw [b7] <;> rfl, rfl⟩)
                    · clear H
                      rcases Bool.eq_false_or_eq_true (((decide (t881 = Er.ok)) && (decide (t941 = Er.ok))) && (decide (t1021 = Er.ok))) with b8 | b8
                      · refine WL.gyes rfl rfl (okb b8) rfl (Yld.pure tab_ok rfl) ?_
                        refine WL.gyes rfl rfl (okb b8) rfl (Yld.pure tab_ok rfl) ?_
                        refine WL.y rfl (Yld.pickT (okb b8) rfl) ?_
                        exact WL.weaken (by repeat (first | exact Sub.nil | refine Sub.cons rfl ?_)) (hQ _ _ ⟨!t880, rfl, by rw [b8] <;> rfl, rfl⟩)
                      · refine WL.gno rfl rfl (okb b8) rfl ?_
                        refine WL.gno rfl rfl (okb b8) rfl ?_
                        refine WL.y rfl (Yld.pickF (okb b8) rfl) ?_
                        exact WL.weaken (by repeat (first | exact Sub.nil | refine Sub.cons rfl ?_)) (hQ _ _ ⟨false, rfl, by rw [b8] <;> rfl, rfl⟩)
                  · clear H
                    rcases Bool.eq_false_or_eq_true ((decide (t881 = Er.ok)) && (decide (t941 = Er.ok))) with b9 | b9
                    · refine WL.gyes rfl rfl (okb b9) rfl (Yld.pure tab_ok rfl) ?_
                      refine WL.gyes rfl rfl (okb b9) rfl (Yld.erreql Tryd.underlying30 ht1021 rfl) ?_
                      refine WL.y rfl (Yld.pickT (okb b9) rfl) ?_
                      exact WL.weaken (by repeat (first | exact Sub.nil | refine Sub.cons rfl ?_)) (hQ _ _ ⟨decide (t1021 = Er.ok), rfl, by rw [b9] <;> rfl, rfl⟩)
                    · refine WL.gno rfl rfl (okb b9) rfl ?_
                      refine WL.gno rfl rfl (okb b9) rfl ?_
                      refine WL.y rfl (Yld.pickF (okb b9) rfl) ?_
                      exact WL.weaken (by repeat (first | exact Sub.nil | refine Sub.cons rfl ?_)) (hQ _ _ ⟨false, rfl, by rw [b9] <;> rfl, rfl⟩)
                · clear H
                  rcases Bool.eq_false_or_eq_true (decide (t881 = Er.ok)) with b10 | b10
                  · refine WL.gyes rfl rfl (okb b10) rfl (Yld.pure tab_ok rfl) ?_
                    refine WL.gyes rfl rfl (okb b10) rfl (Yld.erreql Tryd.underlying30 k5 rfl) ?_
                    refine WL.y rfl (Yld.pickT (okb b10) rfl) ?_
                    exact WL.weaken (by repeat (first | exact Sub.nil | refine Sub.cons rfl ?_)) (hQ _ _ ⟨decide (t941 = Er.ok), rfl, by rw [b10] <;> rfl, rfl⟩)
                  · refine WL.gno rfl rfl (okb b10) rfl ?_
                    refine WL.gno rfl rfl (okb b10) rfl ?_
                    refine WL.y rfl (Yld.pickF (okb b10) rfl) ?_
                    exact WL.weaken (by repeat (first | exact Sub.nil | refine Sub.cons rfl ?_)) (hQ _ _ ⟨false, rfl, by rw [b10] <;> rfl, rfl⟩)
          · clear H
            rcases Bool.eq_false_or_eq_true (q3) with b11 | b11
            · refine WL.gno rfl rfl (okb b11) rfl ?_
              refine WL.gno rfl rfl (okb b11) rfl ?_
              refine WL.y rfl (Yld.pickT (okb b11) rfl) ?_
              exact WL.weaken (by repeat (first | exact Sub.nil | refine Sub.cons rfl ?_)) (hQ _ _ ⟨true, rfl, by rw [b11] <;> rfl, rfl⟩)
            · refine WL.gyes rfl rfl (okb b11) rfl (Yld.pure tab_ok rfl) ?_
              refine WL.gyes rfl rfl (okb b11) rfl (Yld.pure tab_ok rfl) ?_
              refine WL.y rfl (Yld.pickF (okb b11) rfl) ?_
              exact WL.weaken (by repeat (first | exact Sub.nil | refine Sub.cons rfl ?_)) (hQ _ _ ⟨!ok, rfl, by rw [b11] <;> rfl, rfl⟩)
        · clear hJ2
          rcases Bool.eq_false_or_eq_true (q2) with b12 | b12
          · replace H := H.1 b12
            refine WL.gno rfl rfl (okb b12) rfl ?_
            refine WL.gno rfl rfl (okb b12) rfl ?_
            refine WL.gno rfl rfl (okb b12) rfl ?_
            refine WL.y rfl (Yld.pickT (okb b12) rfl) ?_
            exact WL.weaken (by repeat (first | exact Sub.nil | refine Sub.cons rfl ?_)) (hQ _ _ ⟨true, rfl, H, gr2⟩)
          · replace H := H.2 b12
            refine WL.gyes rfl rfl (okb b12) rfl (Yld.pure tab_ok rfl) ?_
            refine WL.callw (wants_some rfl rfl (okb b12)) rfl rfl (W_path_Valid (hG.grown gr2) hS100 H) ?_
            rintro _ w10 ⟨hg7, t35, rfl, H⟩
            have gr10 := gr_trans gr2 hg7
            refine WL.gyes rfl rfl (okb b12) rfl (Yld.pure tab_ok rfl) ?_
            refine WL.y rfl (Yld.pickF (okb b12) rfl) ?_
            exact WL.weaken (by repeat (first | exact Sub.nil | refine Sub.cons rfl ?_)) (hQ _ _ ⟨!t35, rfl, H, gr10⟩)
      · clear hJ1
        rcases Bool.eq_false_or_eq_true ((decide ((60 : Int) < (a.length : Int))) || (decide ((60 : Int) < (b.length : Int)))) with b13 | b13
        · replace H := H.1 b13
          refine WL.gno rfl rfl (okb b13) rfl ?_
          refine WL.gno rfl rfl (okb b13) rfl ?_
          refine WL.gno rfl rfl (okb b13) rfl ?_
          refine WL.y rfl (Yld.pickT (okb b13) rfl) ?_
          exact WL.weaken (by repeat (first | exact Sub.nil | refine Sub.cons rfl ?_)) (hQ _ _ ⟨true, rfl, H, gr1⟩)
        · replace H := H.2 b13
          refine WL.gyes rfl rfl (okb b13) rfl (Yld.pure tab_ok rfl) ?_
          refine WL.callw (wants_some rfl rfl (okb b13)) rfl rfl (W_path_Valid (hG.grown gr1) hS100 H) ?_
          rintro _ w11 ⟨hg8, t30, rfl, H⟩
          have gr11 := gr_trans gr1 hg8
          refine WL.gyes rfl rfl (okb b13) rfl (Yld.pure tab_ok rfl) ?_
          refine WL.y rfl (Yld.pickF (okb b13) rfl) ?_
          exact WL.weaken (by repeat (first | exact Sub.nil | refine Sub.cons rfl ?_)) (hQ _ _ ⟨!t30, rfl, H, gr11⟩)
    · clear H
      rcases Bool.eq_false_or_eq_true (decide ((60 : Int) < (a.length : Int))) with b14 | b14
      · refine WL.gno rfl rfl (okb b14) rfl ?_
        refine WL.gno rfl rfl (okb b14) rfl ?_
        refine WL.gno rfl rfl (okb b14) rfl ?_
        refine WL.y rfl (Yld.pickT (okb b14) rfl) ?_
        exact WL.weaken (by repeat (first | exact Sub.nil | refine Sub.cons rfl ?_)) (hQ _ _ ⟨true, rfl, by rw [b14] <;> rfl, rfl⟩)
      · refine WL.gyes rfl rfl (okb b14) rfl (Yld.pure tab_ok rfl) ?_
        refine WL.gyes rfl rfl (okb b14) rfl (Yld.pure tab_ok rfl) ?_
        refine WL.gyes rfl rfl (okb b14) rfl (Yld.pure tab_ok rfl) ?_
        refine WL.y rfl (Yld.pickF (okb b14) rfl) ?_
        exact WL.weaken (by repeat (first | exact Sub.nil | refine Sub.cons rfl ?_)) (hQ _ _ ⟨decide ((60 : Int) < (b.length : Int)), rfl, by rw [b14] <;> rfl, rfl⟩)

end Go.Proofs.YtcfljnfaakjdjaaDoor
 /- smithylaw1.first; Dir, Base, Under; PathDirs. -/
namespace Go.Proofs.YtcfljnfaakjdjaaDoor
open Go Go.RowKit
theorem first_M {K : Bool → Prop} (h : K true) : M_smithylaw1_first K := by
  unfold M_smithylaw1_first
  refine clean_M (by decide) ?_
  rw [show cleanP [97, 47, 47, 98, 47, 46, 46, 47, 99, 47, 46] = some [97, 47, 99] by decide +kernel]
  dsimp only [KC]
  refine match_M (by decide) (by decide) (fun e => absurd e (by decide +kernel)) (fun _ => ?_)
  rw [show matchB [97, 47, 42, 42, 47, 42, 46, 116, 120, 116] [97, 47, 120, 47, 121, 47, 122, 46, 116, 120, 116] = true by decide +kernel]
  refine match_M (by decide) (by decide) (fun e => absurd e (by decide +kernel)) (fun _ => ?_)
  rw [show matchB [97, 47, 42, 42, 47, 42, 46, 116, 120, 116] [97, 47, 98, 46, 116, 120, 116] = true by decide +kernel]
  simpa using h
/-- all before the last slash -/
def dirI (r : Int) (p : List UInt8) : List UInt8 := p.take r.toNat
theorem dir_M {p : List UInt8} {K : List UInt8 → Prop} (hp : p.length ≤ 4000000000) (h : ∀ r, LastIs p 47 r → K (p.take r.toNat)) : M_path_Dir p K := by
  unfold M_path_Dir
  refine last_M (c := 47) hp fun r hr => ?_
  have hb : r < p.length ∧ -1 ≤ r := by
    rcases hr with ⟨rfl, _⟩ | ⟨i, rfl, hi, _⟩ <;> omega
  refine ⟨by split <;> omega, ?_⟩
  have := h r hr
  rwa [show (if r < 0 then 0 else r).toNat = r.toNat by split <;> omega]
theorem base_M {p : List UInt8} {K : List UInt8 → Prop} (hp : p.length ≤ 4000000000) (h : ∀ r, LastIs p 47 r → K (p.drop (r + 1).toNat)) : M_path_Base p K := by
  unfold M_path_Base
  refine last_M (c := 47) hp fun r hr => ?_
  have hb : r < p.length ∧ -1 ≤ r := by
    rcases hr with ⟨rfl, _⟩ | ⟨i, rfl, hi, _⟩ <;> omega
  exact ⟨by simp only [In]; omega, by omega, h r hr⟩
theorem prefix_M {s t : List UInt8} {K : Bool → Prop} (h : K (t.isPrefixOf s)) : M_strings_HasPrefix s t K := by
  have e : ((decide ((t.length : Int) ≤ (s.length : Int))) && (decide ((s.take (t.length : Int).toNat) = t))) = t.isPrefixOf s := by
    rw [Bool.eq_iff_iff, Bool.and_eq_true, decide_eq_true_eq, decide_eq_true_eq, List.isPrefixOf_iff_prefix, Int.toNat_natCast]
    exact ⟨fun h => List.prefix_iff_eq_take.2 h.2.symm, fun h => ⟨by have := h.length_le; omega, (List.prefix_iff_eq_take.1 h).symm⟩⟩
  refine ⟨fun h1 => ?_, ?_⟩
  · have := of_decide_eq_true h1; omega
  · rw [e]; exact h
def underB (p d : List UInt8) : Bool := if d = [] then !decide (p = []) else (d ++ [47]).isPrefixOf p
theorem under_M {p d : List UInt8} {K : Bool → Prop} (hd : d.length ≤ 4000000000) (h : K (underB p d)) : M_path_Under p d K := by
  unfold M_path_Under
  unfold underB at h
  refine ⟨fun e => ?_, fun e => ⟨by simp only [List.length_cons, List.length_nil]; omega, prefix_M ?_⟩⟩
  · rw [if_pos e] at h; exact h
  · rw [if_neg e] at h; exact h
theorem fair_nil : fairB [] = false := by decide
theorem valid_head {p : List UInt8} (h : validB p = true) : p ≠ [] ∧ p.getD 0 0 ≠ 47 := by
  unfold validB at h
  rw [Bool.and_eq_true, List.all_eq_true] at h
  have hn : [] ∉ cuts p := fun hm => by have := h.2 [] hm; rw [fair_nil] at this; cases this
  cases p with
  | nil => exact absurd (by simp [cuts]) hn
  | cons c s =>
    refine ⟨by simp, fun e => hn ?_⟩
    have e' : c = 47 := e
    rw [cuts, if_pos e']
    simp
theorem count_take_succ {p : List UInt8} {k : Nat} (hk : k < p.length) : (p.take (k + 1)).count 47 = (p.take k).count 47 + if p.getD k 0 = 47 then 1 else 0 := by
  rw [List.take_succ_eq_append_getElem hk, List.count_append]
  simp only [List.getD, hk, List.getElem?_eq_getElem, Option.getD_some]
  rw [List.count_singleton]
  simp [beq_iff_eq]
theorem count_none {p : List UInt8} {a b : Nat} (hb : b ≤ p.length) (hab : a ≤ b) (h : ∀ j, a ≤ j → j < b → p.getD j 0 ≠ 47) : (p.take b).count 47 = (p.take a).count 47 := by
  induction b with
  | zero => obtain rfl : a = 0 := by omega
            rfl
  | succ b ih =>
    by_cases e : a = b + 1
    · rw [e]
    · rw [count_take_succ (by omega), if_neg (h b (by omega) (by omega)), Nat.add_zero, ih (by omega) (by omega) (fun j h1 h2 => h j h1 (by omega))]
theorem getD_take {p : List UInt8} {e j : Nat} (h : j < e) : (p.take e).getD j 0 = p.getD j 0 := by
  simp [List.getD, List.getElem?_take, h]
theorem under_take {p : List UInt8} {e : Nat} (he : e < p.length) (h0 : e ≠ 0) (h : p.getD e 0 = 47) : underB p (p.take e) = true := by
  unfold underB
  have hne : p.take e ≠ [] := fun h1 => by have h2 := congrArg List.length h1; rw [List.length_take, List.length_nil] at h2; omega
  rw [if_neg hne, List.isPrefixOf_iff_prefix]
  have : p.take e ++ [47] = p.take (e + 1) := by
    rw [List.take_succ_eq_append_getElem he]
    have h2 : p[e] = 47 := by simpa [List.getD, he] using h
    rw [h2]
  rw [this]
  exact List.take_prefix _ _
theorem under_short {u d : List UInt8} (hd : d ≠ []) (h : u.length ≤ d.length) : underB u d = false := by
  unfold underB
  rw [if_neg hd]
  cases hb : (d ++ [47]).isPrefixOf u with
  | false => rfl
  | true =>
    have := (List.isPrefixOf_iff_prefix.1 hb).length_le
    simp at this
    omega
theorem dirs_ok {p : List UInt8} {K : Bool → Prop} (hp : p.length ≤ maxLen) (H : K true) : M_smithylaw1_PathDirs p K := by
  unfold M_smithylaw1_PathDirs
  refine first_M ⟨fun h => by simp at h, fun _ => ⟨fun b => b = false → p.length ≤ 200 ∧ validB p = true, ⟨fun _ h => by simp at h, fun h1 => ?_⟩, ?_⟩⟩
  · have h2 : ¬ (200 : Int) < p.length := of_decide_eq_false h1
    refine valid_M (by omega) fun h3 => ⟨by omega, by simpa using h3⟩
  intro q1 hq
  refine ⟨fun _ => H, fun h1 => ?_⟩
  simp only [Bool.not_true, Bool.or_false] at h1
  obtain ⟨h200, hv⟩ := hq h1
  obtain ⟨hne, hh⟩ := valid_head hv
  have hpos : 0 < p.length := List.length_pos_iff.2 hne
  have hcl : ∀ k, (p.take k).count 47 ≤ 200 := fun k => by
    have := List.count_le_length (a := (47 : UInt8)) (l := p.take k)
    rw [List.length_take] at this
    omega
  refine ⟨fun n i => ∃ k : Nat, i = k ∧ k ≤ p.length ∧ n = ((p.take k).count 47 + 1 : Nat), fun n i => p.length - i.toNat, ⟨0, rfl, by omega, by simp⟩, ?_⟩
  rintro _ _ ⟨k, rfl, hk, rfl⟩
  refine ⟨fun hlt => ⟨fun n => n = ((p.take (k + 1)).count 47 + 1 : Nat), ⟨by omega, fun h2 => ?_, fun h2 => ?_⟩, ?_⟩, fun hge => ?_⟩
  · rw [Int.toNat_natCast] at h2
    have h3 : p.getD k 0 = 47 := UInt8.toNat_inj.mp (show (p.getD k 0).toNat = 47 by omega)
    have := hcl k
    refine ⟨by simp only [In]; omega, ?_⟩
    rw [count_take_succ (by omega), if_pos h3]
    omega
  · rw [Int.toNat_natCast] at h2
    have h3 : p.getD k 0 ≠ 47 := fun e => h2 (by rw [e]; rfl)
    rw [count_take_succ (by omega), if_neg h3]
  · rintro _ rfl
    have := hcl (k + 1)
    exact ⟨by simp only [In]; omega, ⟨k + 1, by omega, by omega, rfl⟩, by dsimp only; omega⟩
  obtain rfl : k = p.length := by omega
  have hc := hcl p.length
  generalize hcn : (p.take p.length).count 47 = c at hc
  refine ⟨fun d i => ∃ (e k : Nat), i = k ∧ d = p.take e ∧ e ≤ p.length ∧ ((k = c + 1 ∧ e = 0) ∨ (k ≤ c ∧ 0 < e ∧ (p.take e).count 47 + k = c)), fun d i => c + 1 - i.toNat, ⟨p.length, 0, rfl, by simp, by omega, .inr ⟨by omega, hpos, by omega⟩⟩, ?_⟩
  rintro _ _ ⟨e, k, rfl, rfl, he, hek⟩
  refine ⟨fun hlt => ?_, fun hge => ?_⟩
  · rcases hek with ⟨h2, _⟩ | ⟨h2, h3, h4⟩
    · omega
    have hte : (p.take e).length = e := by rw [List.length_take]; omega
    have hne2 : p.take e ≠ [] := fun h5 => by rw [h5] at hte; simp at hte; omega
    refine dir_M (by omega) fun r hr => ?_
    have hrl : r.toNat ≤ e ∧ r < e ∧ -1 ≤ r := by
      rcases hr with ⟨rfl, _⟩ | ⟨i, rfl, hi, _⟩ <;> omega
    have htt : (p.take e).take r.toNat = p.take r.toNat := by rw [List.take_take]; congr 1; omega
    rw [htt]
    have hul : (p.take r.toNat).length = r.toNat := by rw [List.length_take]; omega
    have hup : underB p (p.take r.toNat) = true ∧ ((k + 1 = c + 1 ∧ r.toNat = 0) ∨ (k + 1 ≤ c ∧ 0 < r.toNat ∧ (p.take r.toNat).count 47 + (k + 1) = c)) := by
      rcases hr with ⟨rfl, hno⟩ | ⟨i, rfl, hi, hi1, hno⟩
      · have h5 := count_none (p := p) (a := 0) (b := e) he (by omega) fun j _ h6 => by
          have := hno j (by omega)
          rwa [getD_take h6] at this
        refine ⟨?_, .inl ⟨?_, rfl⟩⟩
        · simp [underB, hne]
        · simp at h5
          have : (p.take e).count 47 = 0 := by simpa using h5
          omega
      · rw [hte] at hi
        rw [getD_take hi] at hi1
        have hi0 : i ≠ 0 := fun h6 => hh (by rw [← h6]; exact hi1)
        have h5 := count_none (p := p) (a := i + 1) (b := e) he (by omega) fun j h7 h6 => by
          have := hno j (by omega) (by omega)
          rwa [getD_take h6] at this
        rw [count_take_succ (by omega), if_pos hi1] at h5
        rw [Int.toNat_natCast]
        exact ⟨under_take (by omega) hi0 hi1, .inr ⟨by omega, by omega, by omega⟩⟩
    refine under_M (by omega) ?_
    rw [hup.1]
    refine ⟨fun b => b = false, ⟨fun h5 => by simp at h5, fun _ => under_M (by omega) (under_short hne2 (by omega))⟩, ?_⟩
    rintro _ rfl
    exact ⟨fun h5 => by simp at h5, fun _ => ⟨by simp only [In]; omega, ⟨r.toNat, k + 1, by omega, rfl, by omega, hup.2⟩, by dsimp only; omega⟩⟩
  · rcases hek with ⟨h2, rfl⟩ | ⟨h2, _⟩
    · refine ⟨fun b => b = true, ⟨fun _ => dir_M (by simp) fun r _ => by simp, fun h3 => by simp at h3⟩, ?_⟩
      rintro _ rfl
      refine ⟨fun b => b = true, ⟨fun _ => under_M (by simp) (by decide), fun h3 => by simp at h3⟩, ?_⟩
      rintro _ rfl
      exact H
    · omega
end Go.Proofs.YtcfljnfaakjdjaaDoor
 /- Patterns at work: PathStars. -/
namespace Go.Proofs.YtcfljnfaakjdjaaDoor
open Go Go.RowKit
theorem dp_congr {s s' : Nat → Bool} {e e' : Nat → Nat → Bool} : ∀ (i j : Nat), (∀ k, k < i → s k = s' k) → (∀ k l, k < i → l < j → e k l = e' k l) → dp s e i j = dp s' e' i j
  | 0, 0, _, _ => rfl
  | 0, _ + 1, _, _ => rfl
  | i + 1, 0, h, g => by rw [dps0, dps0, h i (by omega), dp_congr i 0 (fun k hk => h k (by omega)) (fun k l hk hl => g k l (by omega) hl)]
  | i + 1, j + 1, h, g => by
    rw [dpss, dpss, h i (by omega), dp_congr i (j + 1) (fun k hk => h k (by omega)) (fun k l hk hl => g k l (by omega) hl), dp_congr (i + 1) j h (fun k l hk hl => g k l hk (by omega)), dp_congr i j (fun k hk => h k (by omega)) (fun k l hk hl => g k l (by omega) (by omega)), g i j (by omega) (by omega)]
theorem dp_plain {s : Nat → Bool} {e : Nat → Nat → Bool} : ∀ (i j : Nat), (∀ k, k < i → s k = false) → dp s e i j = true → i = j
  | 0, 0, _, _ => rfl
  | 0, _ + 1, _, h => by cases h
  | i + 1, 0, h, g => by rw [dps0, h i (by omega)] at g; cases g
  | i + 1, j + 1, h, g => by
    rw [dpss, h i (by omega)] at g
    simp only [Bool.false_eq_true, if_false, Bool.and_eq_true] at g
    rw [dp_plain i j (fun k hk => h k (by omega)) g.1]
theorem dp_diag {s : Nat → Bool} {e : Nat → Nat → Bool} : ∀ (i : Nat), (∀ k, k < i → s k = false) → (∀ k, k < i → e k k = true) → dp s e i i = true
  | 0, _, _ => rfl
  | i + 1, h, g => by
    rw [dpss, h i (by omega), g i (by omega), dp_diag i (fun k hk => h k (by omega)) (fun k hk => g k (by omega))]
    rfl
theorem getD_l {α : Type} {P : List α} {x d : α} {i : Nat} (h : i < P.length) : (P ++ [x]).getD i d = P.getD i d := by
  simp [List.getD, List.getElem?_append_left h]
theorem getD_r {α : Type} {P : List α} {x d : α} : (P ++ [x]).getD P.length d = x := by
  simp [List.getD]
theorem D_snoc {P L : List (List UInt8)} {x y : List UInt8} (hx : x ≠ [42, 42]) : partsB (P ++ [x]) (L ++ [y]) = (partsB P L && partB x y) := by
  unfold partsB
  rw [List.length_append, List.length_append]
  show dp _ _ (P.length + 1) (L.length + 1) = _
  rw [dpss]
  simp only [getD_r, decide_eq_false hx, Bool.false_eq_true, if_false]
  congr 1
  exact dp_congr _ _ (fun k hk => by simp only [getD_l hk]) (fun k l hk hl => by simp only [getD_l hk, getD_l hl])
theorem D_star0 {P L : List (List UInt8)} (h : partsB P L = true) : partsB (P ++ [[42, 42]]) L = true := by
  unfold partsB at h ⊢
  rw [List.length_append]
  show dp _ _ (P.length + 1) L.length = _
  rw [dp_congr (s' := fun i => decide ((P ++ [[42, 42]]).getD i [] = [42, 42])) (e' := fun i j => partB ((P ++ [[42, 42]]).getD i []) (L.getD j [])) _ _ (fun k hk => by simp only [getD_l hk]) (fun k l hk hl => by simp only [getD_l hk])] at h
  revert h
  generalize hn : L.length = n
  cases n with
  | zero => intro h; rw [dps0, h]; simp only [getD_r]; rfl
  | succ n => intro h; rw [dpss, h]; simp only [getD_r]; rfl
theorem D_star1 {P L : List (List UInt8)} {y : List UInt8} (h : partsB (P ++ [[42, 42]]) L = true) : partsB (P ++ [[42, 42]]) (L ++ [y]) = true := by
  unfold partsB at h ⊢
  rw [List.length_append, List.length_append] at *
  show dp _ _ (P.length + 1) (L.length + 1) = _
  rw [dpss]
  have h' : dp (fun i => decide ((P ++ [[42, 42]]).getD i [] = [42, 42])) (fun i j => partB ((P ++ [[42, 42]]).getD i []) ((L ++ [y]).getD j [])) (P.length + 1) L.length = true := by
    rw [← h]
    exact dp_congr _ _ (fun k hk => rfl) (fun k l hk hl => by simp only [getD_l hl])
  rw [h']
  simp only [getD_r]
  simp
theorem D_stars {P : List (List UInt8)} : ∀ (X L : List (List UInt8)), partsB (P ++ [[42, 42]]) L = true → partsB (P ++ [[42, 42]]) (L ++ X) = true
  | [], L, h => by rw [List.append_nil]; exact h
  | x :: X, L, h => by
    rw [show L ++ x :: X = (L ++ [x]) ++ X by simp]
    exact D_stars X _ (D_star1 h)
theorem fair_bytes {x : List UInt8} (h : fairB x = true) {c : UInt8} (hc : c ∈ x) : c ≠ 42 ∧ c ≠ 47 := by
  unfold fairB at h
  rw [Bool.and_eq_true, List.all_eq_true] at h
  have hl := h.1 c hc
  exact ⟨fun e => by rw [e] at hl; exact absurd hl (by decide), fun e => by rw [e] at hl; exact absurd hl (by decide)⟩
theorem fair_star {x : List UInt8} (h : fairB x = true) : x ≠ [42, 42] := fun e => (fair_bytes h (c := 42) (by rw [e]; simp)).1 rfl
theorem bt_mem {x : List UInt8} {k : Nat} (h : k < x.length) : bt x k ∈ x := getD_mem h
theorem part_same {x : List UInt8} (h : fairB x = true) : partB x x = true :=
  dp_diag _ (fun k hk => decide_eq_false (fair_bytes h (bt_mem hk)).1) (fun k _ => decide_eq_true rfl)
theorem D_same : ∀ (X P L : List (List UInt8)), (∀ x ∈ X, fairB x = true) → partsB P L = true → partsB (P ++ X) (L ++ X) = true
  | [], P, L, _, h => by simpa using h
  | x :: X, P, L, hX, h => by
    rw [show P ++ x :: X = (P ++ [x]) ++ X by simp, show L ++ x :: X = (L ++ [x]) ++ X by simp]
    have hx := hX x (by simp)
    refine D_same X _ _ (fun y hy => hX y (by simp [hy])) ?_
    rw [D_snoc (fair_star hx), h, part_same hx]
    rfl
theorem cuts_append (a b : List UInt8) : cuts (a ++ 47 :: b) = cuts a ++ cuts b := by
  induction a with
  | nil => simp [cuts]
  | cons c a ih =>
    by_cases hc : c = 47
    · simp [cuts, hc, ih]
    · have hne := cuts_ne a
      rw [List.cons_append, cuts, cuts, if_neg hc, if_neg hc, ih]
      cases hca : cuts a with
      | nil => exact absurd hca hne
      | cons h t => simp
theorem cuts_none {s : List UInt8} (h : ∀ c ∈ s, c ≠ 47) : cuts s = [s] := by
  induction s with
  | nil => rfl
  | cons c s ih => rw [cuts, if_neg (h c (by simp)), ih (fun d hd => h d (by simp [hd]))]
theorem cuts_last {p : List UInt8} {r : Int} (h : LastIs p 47 r) : (∃ B, cuts p = B ++ [p.drop (r + 1).toNat]) ∧ cuts (p.drop (r + 1).toNat) = [p.drop (r + 1).toNat] := by
  have hmem : ∀ (s : List UInt8), (∀ j, j < s.length → s.getD j 0 ≠ 47) → ∀ c ∈ s, c ≠ 47 := fun s hs c hc => by
    obtain ⟨j, hj, rfl⟩ := List.getElem_of_mem hc
    have := hs j hj
    simpa [List.getD, hj] using this
  rcases h with ⟨rfl, h⟩ | ⟨i, rfl, hi, hc, hno⟩
  · have h1 := cuts_none (hmem p h)
    have e : p.drop ((-1 : Int) + 1).toNat = p := by simp
    rw [e]
    exact ⟨⟨[], h1⟩, h1⟩
  · have e : ((i : Int) + 1).toNat = i + 1 := by omega
    rw [e]
    have h1 : cuts (p.drop (i + 1)) = [p.drop (i + 1)] := cuts_none (hmem _ fun j hj => by
      rw [List.length_drop] at hj
      have := hno (i + 1 + j) (by omega) (by omega)
      simpa [List.getD, List.getElem?_drop] using this)
    refine ⟨⟨cuts (p.take i), ?_⟩, h1⟩
    have hp : p = p.take i ++ 47 :: p.drop (i + 1) := by
      have h2 : p[i] = 47 := by simpa [List.getD, hi] using hc
      rw [← h2, ← List.drop_eq_getElem_cons hi, List.take_append_drop]
    conv => lhs; rw [hp]
    rw [cuts_append, h1]
theorem index_none {x : List UInt8} (h : ∀ c ∈ x, c ≠ 42) : Lib.index x [42, 42] = -1 := by
  induction x with
  | nil => simp [Lib.index]
  | cons c x ih =>
    have hp : ([42, 42] : List UInt8).isPrefixOf (c :: x) = false := by simp [List.isPrefixOf, Ne.symm (h c (by simp))]
    rw [Lib.index, hp, ih (fun d hd => h d (by simp [hd]))]
    simp
theorem patPart_fair {x : List UInt8} (h : fairB x = true) : patPart x = true := by
  have hb : ∀ c ∈ x, c ≠ 42 := fun c hc => (fair_bytes h hc).1
  have hm : (x.map fun c => if c = 42 then 95 else c) = x := by
    conv => rhs; rw [← List.map_id x]
    exact List.map_congr_left fun c hc => if_neg (hb c hc)
  have hd : dotsB x = false := by
    unfold fairB at h
    rw [Bool.and_eq_true] at h
    simpa using h.2
  unfold patPart
  rw [hm, h, hd]
  simp [Lib.contains, index_none hb]
theorem patPart_star : patPart [42, 42] = true := by decide +kernel
theorem pat_ok {s : List UInt8} {l : List (List UInt8)} (hc : cuts s = l) (h : ∀ x ∈ l, fairB x = true ∨ x = [42, 42]) (hs : s.length ≤ 200) : patB s = true := by
  unfold patB
  rw [hc, decide_eq_true hs, Bool.and_true, List.all_eq_true]
  intro x hx
  rcases h x hx with h1 | rfl
  · exact patPart_fair h1
  · exact patPart_star
theorem valid_of {s : List UInt8} (hs : s.length ≤ 200) (h : ∀ x ∈ cuts s, fairB x = true) : validB s = true := by
  unfold validB
  rw [decide_eq_true hs, Bool.true_and, List.all_eq_true]
  exact h
theorem valid_parts {s : List UInt8} (h : validB s = true) : ∀ x ∈ cuts s, fairB x = true := by
  unfold validB at h
  rw [Bool.and_eq_true, List.all_eq_true] at h
  exact h.2
def Met (pat p : List UInt8) : Prop := pat.length ≤ 200 ∧ patB pat = true ∧ matchB pat p = true
theorem met_M {pat p : List UInt8} {K : Bool → Er → Prop} (h : Met pat p) (hp : p.length ≤ 200) (hK : K true .ok) : M_path_Match pat p K :=
  match_M (by have := h.1; omega) (by omega) (fun e => by rw [h.2.1] at e; cases e) (fun _ => by rw [h.2.2]; exact hK)
theorem met_of {pat p : List UInt8} {l : List (List UInt8)} (hc : cuts pat = l) (hl : ∀ x ∈ l, fairB x = true ∨ x = [42, 42]) (hs : pat.length ≤ 200) (hv : validB p = true) (hm : partsB l (cuts p) = true) : Met pat p :=
  ⟨hs, pat_ok hc hl hs, by unfold matchB; rw [hv, hc, hm]; rfl⟩
theorem one_star (z : List UInt8) : partB [42] z = true := by
  have : ∀ n, dp (fun i => decide (bt [42] i = 42)) (fun i j => decide (bt z j = bt [42] i)) 1 n = true := fun n => by
    induction n with
    | zero => rfl
    | succ n ih => rw [dpss, ih]; simp [bt]
  exact this _
theorem stars_ok {a b : List UInt8} {K : Bool → Prop} (ha : a.length ≤ maxLen) (hb : b.length ≤ maxLen) (H : K true) : M_smithylaw1_PathStars a b K := by
  unfold M_smithylaw1_PathStars
  refine first_M ⟨fun h => by simp at h, fun _ => ⟨fun q => q = false → (a.length ≤ 60 ∧ b.length ≤ 60) ∧ validB a = true, ⟨fun _ h => by simp at h, fun h1 => ?_⟩, ?_⟩⟩
  · have h2 : a.length ≤ 60 ∧ b.length ≤ 60 := by simp at h1; omega
    exact valid_M (by omega) fun h3 => ⟨h2, by simpa using h3⟩
  intro q2 hq2
  refine ⟨fun q => q = false → ((a.length ≤ 60 ∧ b.length ≤ 60) ∧ validB a = true) ∧ validB b = true, ⟨fun _ h => by simp at h, fun h1 => ?_⟩, ?_⟩
  · have h2 := hq2 h1
    exact valid_M (by omega) fun h3 => ⟨h2, by simpa using h3⟩
  intro q3 hq3
  refine ⟨fun _ => H, fun h1 => ?_⟩
  simp only [Bool.not_true, Bool.or_false] at h1
  obtain ⟨⟨⟨la, lb⟩, va⟩, vb⟩ := hq3 h1
  have fa := valid_parts va
  have fb := valid_parts vb
  refine ⟨by simp only [List.length_append, List.length_cons, List.length_nil]; omega, by simp only [List.length_append, List.length_cons, List.length_nil]; omega, by simp only [List.length_append, List.length_cons, List.length_nil]; omega, by simp only [List.length_append, List.length_cons, List.length_nil]; omega, by simp only [List.length_append, List.length_cons, List.length_nil]; omega, by simp only [List.length_append, List.length_cons, List.length_nil]; omega, by simp only [List.length_append, List.length_cons, List.length_nil]; omega, by simp only [List.length_append, List.length_cons, List.length_nil]; omega, ?_⟩
  refine base_M (by omega) fun r hr => ?_
  obtain ⟨⟨B, hB⟩, hz⟩ := cuts_last hr
  have lz : (b.drop (r + 1).toNat).length ≤ 60 := by rw [List.length_drop]; omega
  generalize b.drop (r + 1).toNat = z at hB hz lz
  have fz : fairB z = true := fb z (by rw [hB]; simp)
  have ep : (a ++ [47]) ++ b = a ++ 47 :: b := by simp
  rw [ep]
  have cp : cuts (a ++ 47 :: b) = cuts a ++ cuts b := cuts_append a b
  have lp : (a ++ 47 :: b).length = a.length + 1 + b.length := by simp; omega
  have fp : ∀ x ∈ cuts (a ++ 47 :: b), fairB x = true := fun x hx => by
    rw [cp] at hx
    rcases List.mem_append.1 hx with h | h
    · exact fa x h
    · exact fb x h
  have vp : validB (a ++ 47 :: b) = true := valid_of (by omega) fp
  have cs : cuts [42, 42] = [[42, 42]] := by decide
  have D0 : partsB [] [] = true := rfl
  have DA : partsB (cuts a) (cuts a) = true := by simpa using D_same (cuts a) [] [] fa D0
  have DAB : partsB (cuts a ++ cuts b) (cuts a ++ cuts b) = true := D_same (cuts b) _ _ fb DA
  have DS : partsB ([] ++ [[42, 42]]) [] = true := D_star0 D0
  refine ⟨by simp only [List.length_append, List.length_cons, List.length_nil]; omega, by simp only [List.length_append, List.length_cons, List.length_nil]; omega, ?_⟩
  have hall : ∀ x ∈ [([42, 42] : List UInt8), a ++ 47 :: b, a ++ ([47, 42, 42] : List UInt8), ([42, 42, 47] : List UInt8) ++ b, (a ++ ([47, 42, 42, 47] : List UInt8)) ++ b, ([42, 42, 47] : List UInt8) ++ z, (a ++ 47 :: b) ++ ([47, 42, 42] : List UInt8)], Met x (a ++ 47 :: b) := by
    intro x hx
    simp only [List.mem_cons, List.not_mem_nil, or_false] at hx
    rcases hx with rfl | rfl | rfl | rfl | rfl | rfl | rfl
    · refine met_of cs (by simp) (by decide) vp ?_
      rw [cp]
      exact D_stars (P := []) _ [] DS
    · refine met_of cp (fun x hx => .inl (fp x (by rw [cp]; exact hx))) (by omega) vp ?_
      rw [cp]
      exact DAB
    · refine met_of (l := cuts a ++ [[42, 42]]) (by rw [cuts_append, cs]) (fun x hx => ?_) (by simp only [List.length_append, List.length_cons, List.length_nil]; omega) vp ?_
      · rcases List.mem_append.1 hx with h | h
        · exact .inl (fa x h)
        · exact .inr (by simpa using h)
      · rw [cp]
        exact D_stars _ _ (D_star0 DA)
    · refine met_of (l := [[42, 42]] ++ cuts b) (by rw [show ([42, 42, 47] : List UInt8) ++ b = [42, 42] ++ 47 :: b by simp, cuts_append, cs]) (fun x hx => ?_) (by simp only [List.length_append, List.length_cons, List.length_nil]; omega) vp ?_
      · rcases List.mem_append.1 hx with h | h
        · exact .inr (by simpa using h)
        · exact .inl (fb x h)
      · rw [cp]
        exact D_same (cuts b) _ _ fb (D_stars (P := []) (cuts a) [] DS)
    · refine met_of (l := (cuts a ++ [[42, 42]]) ++ cuts b) (by rw [show (a ++ ([47, 42, 42, 47] : List UInt8)) ++ b = (a ++ 47 :: [42, 42]) ++ 47 :: b by simp, cuts_append, cuts_append, cs]) (fun x hx => ?_) (by simp only [List.length_append, List.length_cons, List.length_nil]; omega) vp ?_
      · rcases List.mem_append.1 hx with h | h
        · rcases List.mem_append.1 h with h | h
          · exact .inl (fa x h)
          · exact .inr (by simpa using h)
        · exact .inl (fb x h)
      · rw [cp]
        exact D_same (cuts b) _ _ fb (D_star0 DA)
    · refine met_of (l := [[42, 42]] ++ [z]) (by rw [show ([42, 42, 47] : List UInt8) ++ z = [42, 42] ++ 47 :: z by simp, cuts_append, cs, hz]) (fun x hx => ?_) (by simp only [List.length_append, List.length_cons, List.length_nil]; omega) vp ?_
      · rcases List.mem_append.1 hx with h | h
        · exact .inr (by simpa using h)
        · exact .inl (by rw [List.mem_singleton.1 h]; exact fz)
      · rw [cp, hB, ← List.append_assoc]
        exact D_same [z] _ _ (fun x h => by rw [List.mem_singleton.1 h]; exact fz) (D_stars (P := []) (cuts a ++ B) [] DS)
    · refine met_of (l := (cuts a ++ cuts b) ++ [[42, 42]]) (by rw [show (a ++ 47 :: b) ++ ([47, 42, 42] : List UInt8) = (a ++ 47 :: b) ++ 47 :: [42, 42] by simp, cuts_append, cp, cs]) (fun x hx => ?_) (by simp only [List.length_append, List.length_cons, List.length_nil]; omega) vp ?_
      · rcases List.mem_append.1 hx with h | h
        · exact .inl (fp x (by rw [cp]; exact h))
        · exact .inr (by simpa using h)
      · rw [cp]
        exact D_star0 DAB
  refine ⟨fun i => ∃ k : Nat, i = k ∧ k ≤ 7, fun i => 7 - i.toNat, ⟨0, rfl, by omega⟩, ?_⟩
  rintro _ ⟨k, rfl, hk⟩
  refine ⟨fun hlt => ⟨by omega, ?_⟩, fun _ => ?_⟩
  · rw [Int.toNat_natCast]
    refine met_M (hall _ (getD_mem (by simp only [List.length_cons, List.length_nil]; omega))) (by omega) ⟨fun h => by simp at h, fun _ => ⟨by simp only [In]; omega, ⟨k + 1, by omega, by omega⟩, by dsimp only; omega⟩⟩
  have c1 : cuts [42] = [[42]] := by decide
  have p1 : patB [42] = true := by decide +kernel
  have ne42 : ([42] : List UInt8) ≠ [42, 42] := by decide
  refine match_M (by decide) (by omega) (fun e => by rw [p1] at e; cases e) (fun _ => ?_)
  have m1 : matchB [42] (a ++ 47 :: b) = false := by
    unfold matchB
    rw [c1, cp, vp, Bool.true_and, hB, ← List.append_assoc]
    rw [show ([[42]] : List (List UInt8)) = [] ++ [[42]] from rfl, D_snoc ne42]
    have : partsB [] (cuts a ++ B) = false := by
      cases hl : cuts a with
      | nil => exact absurd hl (cuts_ne a)
      | cons h t => rfl
    rw [this]
    rfl
  rw [m1]
  refine base_M (by omega) fun r2 hr2 => ?_
  obtain ⟨⟨B2, hB2⟩, hz2⟩ := cuts_last hr2
  have ly : ((a ++ 47 :: b).drop (r2 + 1).toNat).length ≤ 200 := by rw [List.length_drop]; omega
  generalize (a ++ 47 :: b).drop (r2 + 1).toNat = y at hB2 hz2 ly
  have fy : fairB y = true := fp y (by rw [hB2]; simp)
  refine match_M (by decide) (by omega) (fun e => by rw [p1] at e; cases e) (fun _ => ?_)
  have m2 : matchB [42] y = true := by
    unfold matchB
    rw [c1, hz2, valid_of ly (fun x hx => by rw [hz2] at hx; rw [List.mem_singleton.1 hx]; exact fy), Bool.true_and]
    rw [show ([[42]] : List (List UInt8)) = [] ++ [[42]] from rfl, show ([y] : List (List UInt8)) = [] ++ [y] from rfl, D_snoc ne42, one_star]
    rfl
  rw [m2]
  refine ⟨by simp only [List.length_append, List.length_cons, List.length_nil]; omega, by simp only [List.length_append, List.length_cons, List.length_nil]; omega, ?_⟩
  have c3 : cuts (a ++ [47, 42, 42]) = cuts a ++ [[42, 42]] := by rw [cuts_append, cs]
  have p3 : patB (a ++ [47, 42, 42]) = true := pat_ok c3 (fun x hx => by
    rcases List.mem_append.1 hx with h | h
    · exact .inl (fa x h)
    · exact .inr (by simpa using h)) (by simp only [List.length_append, List.length_cons, List.length_nil]; omega)
  refine match_M (by simp only [List.length_append, List.length_cons, List.length_nil]; omega) (by simp only [List.length_append, List.length_cons, List.length_nil]; omega) (fun e => by rw [p3] at e; cases e) (fun _ => ?_)
  have m3 : matchB (a ++ [47, 42, 42]) (a ++ [120]) = false := by
    unfold matchB
    rw [c3]
    have hx : ∀ s : List UInt8, ∃ (A : List (List UInt8)) (u : List UInt8), cuts s = A ++ [u] ∧ cuts (s ++ [120]) = A ++ [u ++ [120]] := fun s => by
      induction s with
      | nil => exact ⟨[], [], rfl, by decide⟩
      | cons c s ih =>
        obtain ⟨A, u, h1, h2⟩ := ih
        by_cases hc : c = 47
        · exact ⟨[] :: A, u, by rw [cuts, if_pos hc, h1]; rfl, by rw [List.cons_append, cuts, if_pos hc, h2]; rfl⟩
        · cases A with
          | nil => exact ⟨[], c :: u, by rw [cuts, if_neg hc, h1]; rfl, by rw [List.cons_append, cuts, if_neg hc, h2]; rfl⟩
          | cons v A => exact ⟨(c :: v) :: A, u, by rw [cuts, if_neg hc, h1]; rfl, by rw [List.cons_append, cuts, if_neg hc, h2]; rfl⟩
    obtain ⟨A, u, h1, h2⟩ := hx a
    have fu : fairB u = true := fa u (by rw [h1]; simp)
    have hpu : partB u (u ++ [120]) = false := by
      cases hb : partB u (u ++ [120]) with
      | false => rfl
      | true =>
        have := dp_plain _ _ (fun k hk => decide_eq_false (fair_bytes fu (bt_mem hk)).1) hb
        simp at this
    have key : partsB (cuts a) (cuts (a ++ [120])) = false := by rw [h2, h1, D_snoc (fair_star fu), hpu, Bool.and_false]
    have hlen : (cuts (a ++ [120])).length = (cuts a).length := by rw [h1, h2]; simp
    have : partsB (cuts a ++ [[42, 42]]) (cuts (a ++ [120])) = false := by
      generalize cuts (a ++ [120]) = L at key hlen
      generalize hA : cuts a = P at key hlen fa
      have hns : ∀ k, k < P.length → decide ((P ++ [[42, 42]]).getD k [] = [42, 42]) = false := fun k hk => by
        rw [getD_l hk]
        exact decide_eq_false (fair_star (fa _ (getD_mem hk)))
      unfold partsB at key ⊢
      rw [List.length_append]
      show dp _ _ (P.length + 1) L.length = _
      rw [dp_congr (s' := fun i => decide ((P ++ [[42, 42]]).getD i [] = [42, 42])) (e' := fun i j => partB ((P ++ [[42, 42]]).getD i []) (L.getD j [])) _ _ (fun k hk => by simp only [getD_l hk]) (fun k l hk hl => by simp only [getD_l hk])] at key
      have hq : ∀ q, q ≤ P.length → dp (fun i => decide ((P ++ [[42, 42]]).getD i [] = [42, 42])) (fun i j => partB ((P ++ [[42, 42]]).getD i []) (L.getD j [])) P.length q = false := fun q hq => by
        by_cases e : q = P.length
        · rw [e, ← hlen]
          rw [hlen] at key ⊢
          exact key
        · cases hb : dp (fun i => decide ((P ++ [[42, 42]]).getD i [] = [42, 42])) (fun i j => partB ((P ++ [[42, 42]]).getD i []) (L.getD j [])) P.length q with
          | false => rfl
          | true => exact absurd (dp_plain _ _ hns hb).symm e
      have hq1 : ∀ q, q ≤ P.length → dp (fun i => decide ((P ++ [[42, 42]]).getD i [] = [42, 42])) (fun i j => partB ((P ++ [[42, 42]]).getD i []) (L.getD j [])) (P.length + 1) q = false := fun q => by
        induction q with
        | zero => intro h; rw [dps0, hq 0 h, Bool.and_false]
        | succ q ih =>
          intro h
          rw [dpss, hq (q + 1) h, ih (by omega)]
          simp only [getD_r]
          rfl
      exact hq1 _ (by omega)
    rw [this, Bool.and_false]
  rw [m3]
  simpa using H
end Go.Proofs.YtcfljnfaakjdjaaDoor
 /- Clean twice: PathAgain. -/
namespace Go.Proofs.YtcfljnfaakjdjaaDoor
open Go Go.RowKit
def Fairs (l : List (List UInt8)) : Prop := ∀ x ∈ l, fairB x = true
theorem fair_dots {x : List UInt8} (h : fairB x = true) : x ≠ [] ∧ x ≠ [46] ∧ x ≠ [46, 46] :=
  ⟨fun e => by rw [e] at h; exact absurd h (by decide), fun e => by rw [e] at h; exact absurd h (by decide), fun e => by rw [e] at h; exact absurd h (by decide)⟩
theorem cl_fair : ∀ (xs l : List (List UInt8)), Fairs xs → cl l xs = some (l ++ xs)
  | [], l, _ => by simp [cl]
  | x :: xs, l, h => by
    have hx := h x (by simp)
    obtain ⟨h1, h2, h3⟩ := fair_dots hx
    rw [cl, if_neg (by simp [h1, h2]), if_neg (by simp [h3]), if_pos hx, cl_fair xs _ (fun y hy => h y (by simp [hy]))]
    simp
theorem cl_out : ∀ (xs l : List (List UInt8)) {l' : List (List UInt8)}, Fairs l → cl l xs = some l' → Fairs l'
  | [], l, l', h, e => by simp only [cl, Option.some.injEq] at e; rw [← e]; exact h
  | x :: xs, l, l', h, e => by
    rw [cl] at e
    split at e
    · exact cl_out xs l h e
    · split at e
      · exact cl_out xs _ (fun y hy => h y (List.mem_of_mem_take hy)) e
      · split at e
        · rename_i hx
          refine cl_out xs _ (fun y hy => ?_) e
          rcases List.mem_append.1 hy with h1 | h1
          · exact h y h1
          · rw [List.mem_singleton.1 h1]; exact hx
        · cases e
theorem fairs_free {l : List (List UInt8)} (h : Fairs l) {x : List UInt8} (hx : x ∈ l) : ∀ c ∈ x, c ≠ 47 := fun _ hc => (fair_bytes (h x hx) hc).2
theorem cuts_glue : ∀ (l : List (List UInt8)), l ≠ [] → Fairs l → cuts (glue l) = l
  | [], h, _ => absurd rfl h
  | [x], _, h => by
    have e : glue [x] = x := by simp [glue]
    rw [e]
    exact cuts_none (fairs_free h (by simp))
  | x :: y :: r, _, h => by
    rw [glue, cuts_append, cuts_none (fairs_free h (by simp)), cuts_glue (y :: r) (by simp) (fun z hz => h z (List.mem_cons_of_mem _ hz))]
    rfl
theorem glue_cuts (s : List UInt8) : glue (cuts s) = s := by
  induction s with
  | nil => rfl
  | cons c s ih =>
    have hne := cuts_ne s
    rw [cuts]
    cases hs : cuts s with
    | nil => exact absurd hs hne
    | cons h t =>
      rw [hs] at ih
      split
      · rename_i hc
        rw [glue, ih, hc]
        rfl
      · cases t with
        | nil => rw [show c :: s = c :: glue [h] by rw [ih]]; rfl
        | cons y t => rw [← ih]; rfl
def Cln (o : List UInt8) : Prop := o.length ≤ 200 ∧ (o = [] ∨ (o ≠ [] ∧ Fairs (cuts o)))
theorem cln_of {p o : List UInt8} (h : cleanP p = some o) : Cln o := by
  unfold cleanP at h
  split at h
  · cases h
  · rename_i l hl
    split at h
    · rename_i h200
      have hf := cl_out _ [] (fun y hy => by cases hy) hl
      obtain rfl : glue l = o := Option.some.inj h
      refine ⟨h200, ?_⟩
      by_cases hn : l = []
      · exact .inl (by rw [hn]; rfl)
      · have hc := cuts_glue l hn hf
        refine .inr ⟨fun e => ?_, by rw [hc]; exact hf⟩
        rw [e] at hc
        have : [] ∈ l := by rw [← hc]; simp [cuts]
        exact (fair_dots (hf _ this)).1 rfl
    · cases h
theorem clean_fairs {p : List UInt8} (hp : p.length ≤ 200) (h : Fairs (cuts p)) : cleanP p = some p := by
  unfold cleanP
  rw [cl_fair _ _ h, List.nil_append]
  simp only [glue_cuts]
  rw [if_pos hp]
theorem clean_slash {p : List UInt8} : cleanP (47 :: p) = cleanP p := by
  unfold cleanP
  rw [cuts, if_pos rfl, cl, if_pos (by simp)]
theorem clean_nil : cleanP [] = some [] := by decide
theorem clean_cln {o : List UInt8} (h : Cln o) : cleanP o = some o := by
  rcases h.2 with rfl | ⟨_, h2⟩
  · exact clean_nil
  · exact clean_fairs h.1 h2
theorem join_M {l : List (List UInt8)} {K : List UInt8 → Er → Prop} (h1 : l.length ≤ 4000000000) (h2 : (glue l).length ≤ 4000000000) (h : KC K (cleanP (glue l))) : M_path_Join l K := by
  intro _
  refine ⟨by omega, ?_, ?_⟩
  · rw [join_glue]; omega
  · rw [join_glue]
    exact clean_M h2 h
theorem again_parts {o : List UInt8} {r s : Int} (h : Cln o) (hr : LastIs o 47 r) (hs : LastIs o 47 s) : cleanP (o.take r.toNat ++ 47 :: o.drop (s + 1).toNat) = some o := by
  have e : r = s := by
    rcases hr with ⟨rfl, h1⟩ | ⟨i, rfl, hi, hc, hno⟩
    · rcases hs with ⟨rfl, _⟩ | ⟨j, rfl, hj, hd, _⟩
      · rfl
      · exact absurd hd (h1 j hj)
    · rcases hs with ⟨rfl, h1⟩ | ⟨j, rfl, hj, hd, hno'⟩
      · exact absurd hc (h1 i hi)
      · rcases Nat.lt_trichotomy i j with h2 | h2 | h2
        · exact absurd hd (hno j h2 hj)
        · rw [h2]
        · exact absurd hc (hno' i h2 hi)
  subst e
  rcases hr with ⟨rfl, _⟩ | ⟨i, rfl, hi, hc, _⟩
  · show cleanP (o.take 0 ++ 47 :: o.drop 0) = some o
    rw [List.take_zero, List.drop_zero, List.nil_append, clean_slash, clean_cln h]
  · have h2 : o[i] = 47 := by simpa [List.getD, hi] using hc
    rw [show ((i : Int) + 1).toNat = i + 1 by omega, Int.toNat_natCast, ← h2, ← List.drop_eq_getElem_cons hi, List.take_append_drop, clean_cln h]
theorem last_same {c' : List (List UInt8)} {j q : List UInt8} {r s : Int} (h : cuts j = c' ++ cuts q) (hr : LastIs j 47 r) (hs : LastIs q 47 s) : j.drop (r + 1).toNat = q.drop (s + 1).toNat := by
  obtain ⟨⟨B, hB⟩, _⟩ := cuts_last hr
  obtain ⟨⟨B', hB'⟩, _⟩ := cuts_last hs
  rw [hB, hB', ← List.append_assoc] at h
  exact (List.append_inj' h rfl).2 |> List.cons.inj |>.1
theorem again_ok {p q : List UInt8} {K : Bool → Prop} (_ : p.length ≤ maxLen) (_ : q.length ≤ maxLen) (H : K true) : M_smithylaw1_PathAgain p q K := by
  unfold M_smithylaw1_PathAgain
  refine first_M ⟨fun h => by simp at h, fun _ => ⟨fun _ => H, fun h1 => ?_⟩⟩
  have h2 : p.length ≤ 300 ∧ q.length ≤ 300 := by simp at h1; omega
  refine clean_M (by omega) ?_
  cases hcp : cleanP p with
  | none =>
    refine ⟨fun _ => ⟨fun b => b = true, ⟨fun _ => valid_M (by omega) ?_, fun h => by simp at h⟩, fun b hb => by rw [hb]; exact H⟩, fun h => by cases h⟩
    cases hv : validB p with
    | false => rfl
    | true =>
      have hl : p.length ≤ 200 := by
        unfold validB at hv
        rw [Bool.and_eq_true] at hv
        exact of_decide_eq_true hv.1
      rw [clean_fairs hl (valid_parts hv)] at hcp
      cases hcp
  | some o =>
    have ho := cln_of hcp
    have lo := ho.1
    refine ⟨fun h => absurd rfl h, fun _ => clean_M (by omega) ?_⟩
    rw [clean_cln ho]
    refine ⟨fun b => b = false, ⟨fun h => by simp at h, fun _ => ⟨fun h => valid_M (by omega) ?_, fun _ => rfl⟩⟩, ?_⟩
    · rcases ho.2 with h3 | ⟨_, h4⟩
      · rw [h3] at h; simp at h
      · rw [valid_of lo h4]; rfl
    rintro _ rfl
    refine ⟨fun h => by simp at h, fun _ => dir_M (by omega) fun r hr => base_M (by omega) fun s hs => ?_⟩
    have hlen : (o.take r.toNat ++ 47 :: o.drop (s + 1).toNat).length ≤ 401 := by
      rw [List.length_append, List.length_cons, List.length_take, List.length_drop]; omega
    refine join_M (by simp) (by show (o.take r.toNat ++ 47 :: o.drop (s + 1).toNat).length ≤ _; omega) ?_
    show KC _ (cleanP (o.take r.toNat ++ 47 :: o.drop (s + 1).toNat))
    rw [again_parts ho hr hs]
    refine ⟨fun h => by simp at h, fun _ => clean_M (by omega) ?_⟩
    cases hcq : cleanP q with
    | none => exact ⟨fun _ => H, fun h => by simp at h⟩
    | some u =>
      have hu := cln_of hcq
      have lu := hu.1
      refine ⟨fun _ => H, fun h => ?_⟩
      have hne : u ≠ [] := by simpa using h
      have fu : Fairs (cuts u) := (hu.2.resolve_left hne).2
      have lj : (o ++ 47 :: u).length = o.length + 1 + u.length := by simp; omega
      refine join_M (by simp) (by show (o ++ 47 :: u).length ≤ _; omega) ?_
      show KC _ (cleanP (o ++ 47 :: u))
      rcases ho.2 with ho0 | ⟨ho1, ho2⟩
      · subst ho0
        rw [List.nil_append, clean_slash, clean_cln hu]
        refine ⟨fun h => absurd rfl h, fun _ => under_M (by simp) ?_⟩
        have hun : underB u [] = true := by simp [underB, hne]
        rw [hun]
        refine ⟨fun b => b = true, ⟨fun _ => base_M (by omega) fun r1 hr1 => base_M (by omega) fun r2 hr2 => ?_, fun h => by simp [hne] at h⟩, fun b hb => by rw [hb]; exact H⟩
        exact decide_eq_true (last_same (c' := []) rfl hr1 hr2)
      · have hf : Fairs (cuts (o ++ 47 :: u)) := fun x hx => by
          rw [cuts_append] at hx
          rcases List.mem_append.1 hx with h3 | h3
          · exact ho2 x h3
          · exact fu x h3
        by_cases h200 : (o ++ 47 :: u).length ≤ 200
        · rw [clean_fairs h200 hf]
          refine ⟨fun h => absurd rfl h, fun _ => under_M (by omega) ?_⟩
          have hun : underB (o ++ 47 :: u) o = true := by
            unfold underB
            rw [if_neg ho1, List.isPrefixOf_iff_prefix]
            exact ⟨u, by simp⟩
          rw [hun]
          refine ⟨fun b => b = true, ⟨fun _ => base_M (by omega) fun r1 hr1 => base_M (by omega) fun r2 hr2 => ?_, fun h => ?_⟩, fun b hb => by rw [hb]; exact H⟩
          · exact decide_eq_true (last_same (cuts_append o u) hr1 hr2)
          · simp at h
        · have hcn : cleanP (o ++ 47 :: u) = none := by
            unfold cleanP
            rw [cl_fair _ _ hf, List.nil_append]
            simp only [glue_cuts]
            rw [if_neg h200]
          rw [hcn]
          refine ⟨fun _ => ⟨by simp only [In]; omega, by simp only [In]; omega, ?_⟩, fun h => by cases h⟩
          rw [decide_eq_true (by omega)]
          exact H
end Go.Proofs.YtcfljnfaakjdjaaDoor
 