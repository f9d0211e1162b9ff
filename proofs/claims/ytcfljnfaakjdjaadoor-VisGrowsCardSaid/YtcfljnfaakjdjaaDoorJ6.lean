/- Texts of this claim, joined by a program: GPx, Srt, PathH, Ord. -/
import Derived.Test.YtcfljnfaakjdjaaDoorJ5
import Derived.Lib.SlicesCompact
import Derived.Sort.Walk0
/- Printed by a program (wip/vg): what the functions mean, plainly, and their walks. -/
namespace Go.Proofs.YtcfljnfaakjdjaaDoor
open Go Go.RowKit
attribute [local irreducible] WL WC WX WQ WK WJ Yld Eff Ef0 Fn
def M_smithyref_Texts (l : List (List UInt8)) (K : (List (List UInt8)) → Prop) : Prop :=
 (l.length ≤ maxLen →
 (0 ≤ (l.length : Int) ∧ (l.length : Int) * 16 ≤ 140737488355328 ∧ (l.length : Int) ≤ 140737488355328) ∧
 Lp2 (fun (out : List (List UInt8)) (i : Int) k_1 => ((i < (l.length : Int) → (0 ≤ i ∧ i < (l.length : Nat)) ∧
 ((out.length + (([l.getD i.toNat []] : List (List UInt8))).length) * 16 ≤ 140737488355328) ∧
 (In .i64 (i + (1 : Int))) ∧
 k_1 (out ++ ([l.getD i.toNat []] : List (List UInt8))) (i + (1 : Int))) ∧
 (¬ (i < (l.length : Int)) → K out))) ([] : List (List UInt8)) (0 : Int))

def M_smithyref_SortedTexts (l : List (List UInt8)) (K : (List (List UInt8)) → Prop) : Prop :=
 (l.length ≤ maxLen →
 Lp2 (fun (out : List (List UInt8)) (i : Int) k_1 => ((i < (l.length : Int) → ∃ J1 : (List (List UInt8)) → Prop, (Lp1 (fun (k : Int) k_2 => ((decide (k < (out.length : Int))) = true → (0 ≤ k ∧ k < (out.length : Nat))) ∧
 ((decide (k < (out.length : Int))) = true → (0 ≤ i ∧ i < (l.length : Nat))) ∧
 ((((decide (k < (out.length : Int))) && (Op.bytesLess (out.getD k.toNat []) (l.getD i.toNat []))) = true → (In .i64 (k + (1 : Int))) ∧
 k_2 (k + (1 : Int))) ∧
 (((decide (k < (out.length : Int))) && (Op.bytesLess (out.getD k.toNat []) (l.getD i.toNat []))) = false → ((decide (k < (out.length : Int))) = true → (0 ≤ k ∧ k < (out.length : Nat))) ∧
 ((decide (k < (out.length : Int))) = true → (0 ≤ i ∧ i < (l.length : Nat))) ∧
 ((((decide (k < (out.length : Int))) && (decide ((out.getD k.toNat []) = (l.getD i.toNat [])))) = true → J1 out) ∧
 (((decide (k < (out.length : Int))) && (decide ((out.getD k.toNat []) = (l.getD i.toNat [])))) = false → (In .i64 ((out.length : Int) + (1 : Int))) ∧
 (0 ≤ (out.length : Int) + (1 : Int) ∧ ((out.length : Int) + (1 : Int)) * 16 ≤ 140737488355328 ∧ (out.length : Int) + (1 : Int) ≤ 140737488355328) ∧
 (0 ≤ k ∧ k ≤ (out.length : Nat)) ∧
 (((([] : List (List UInt8))).length + (out.take k.toNat).length) * 16 ≤ 140737488355328) ∧
 (0 ≤ i ∧ i < (l.length : Nat)) ∧
 (((([] : List (List UInt8)) ++ (out.take k.toNat)).length + (([l.getD i.toNat []] : List (List UInt8))).length) * 16 ≤ 140737488355328) ∧
 (0 ≤ k ∧ k ≤ (out.length : Int) ∧ (out.length : Int) ≤ (out.length : Nat)) ∧
 ((((([] : List (List UInt8)) ++ (out.take k.toNat)) ++ ([l.getD i.toNat []] : List (List UInt8))).length + (out.drop k.toNat).length) * 16 ≤ 140737488355328) ∧
 J1 (((([] : List (List UInt8)) ++ (out.take k.toNat)) ++ ([l.getD i.toNat []] : List (List UInt8))) ++ (out.drop k.toNat))))))) (0 : Int)) ∧
 (∀ out2 : List (List UInt8), J1 out2 → (In .i64 (i + (1 : Int))) ∧
 k_1 out2 (i + (1 : Int)))) ∧
 (¬ (i < (l.length : Int)) → K out))) [] (0 : Int))

def M_smithyref_SameTexts (a : List (List UInt8)) (b : List (List UInt8)) (K : Bool → Prop) : Prop :=
 (a.length ≤ maxLen →
 (b.length ≤ maxLen →
 ((¬ ((a.length : Int) = (b.length : Int)) → K false) ∧
 ((a.length : Int) = (b.length : Int) → Lp1 (fun (i : Int) k_1 => ((i < (a.length : Int) → (0 ≤ i ∧ i < (a.length : Nat)) ∧
 (0 ≤ i ∧ i < (b.length : Nat)) ∧
 ((¬ ((a.getD i.toNat []) = (b.getD i.toNat [])) → K false) ∧
 ((a.getD i.toNat []) = (b.getD i.toNat []) → (In .i64 (i + (1 : Int))) ∧
 k_1 (i + (1 : Int))))) ∧
 (¬ (i < (a.length : Int)) → K true))) (0 : Int)))))

def M_smithyref_AmongTexts (l : List (List UInt8)) (s : List UInt8) (K : Int → Prop) : Prop :=
 (l.length ≤ maxLen →
 Lp1 (fun (i : Int) k_1 => ((i < (l.length : Int) → (0 ≤ i ∧ i < (l.length : Nat)) ∧
 (((l.getD i.toNat []) = s → K i) ∧
 (¬ ((l.getD i.toNat []) = s) → (In .i64 (i + (1 : Int))) ∧
 k_1 (i + (1 : Int))))) ∧
 (¬ (i < (l.length : Int)) → K (-1 : Int)))) (0 : Int))

def M_path_one (pats : List (List UInt8)) (p : List UInt8) (K : Bool → Prop) : Prop :=
 (pats.length ≤ maxLen →
 Lp1 (fun (t11 : Int) k_1 => ((t11 < (pats.length : Int) → (0 ≤ t11 ∧ t11 < (pats.length : Nat)) ∧
 M_path_Match (pats.getD t11.toNat []) p (fun (t180 : Bool) (t181 : Er) =>
 ((t180 = true → K true) ∧
 (t180 = false → (In .i64 (t11 + (1 : Int))) ∧
 k_1 (t11 + (1 : Int)))))) ∧
 (¬ (t11 < (pats.length : Int)) → K false))) (0 : Int))

def M_path_Glob (patterns : List (List UInt8)) (but : List (List UInt8)) (paths : List (List UInt8)) (K : (List (List UInt8)) → Er → Prop) : Prop :=
 (patterns.length ≤ maxLen →
 (but.length ≤ maxLen →
 (paths.length ≤ maxLen →
 M_slices_Concat_string_string_2 patterns but (fun (t18 : List (List UInt8)) =>
 Lp1 (fun (t20 : Int) k_1 => ((t20 < (t18.length : Int) → (0 ≤ t20 ∧ t20 < (t18.length : Nat)) ∧
 M_path_Match (t18.getD t20.toNat []) ([] : List UInt8) (fun (t270 : Bool) (t271 : Er) =>
 ((¬ (t271 = Er.ok) → ∃ n : Nat, t271 = Er.e n ∧
 K [] (Er.at_ t20 n)) ∧
 (t271 = Er.ok → (In .i64 (t20 + (1 : Int))) ∧
 k_1 (t20 + (1 : Int)))))) ∧
 (¬ (t20 < (t18.length : Int)) → Lp2 (fun (out : List (List UInt8)) (t40 : Int) k_2 => ((t40 < (paths.length : Int) → ∃ J1 : (List (List UInt8)) → Prop, ((0 ≤ t40 ∧ t40 < (paths.length : Nat)) ∧
 M_path_one patterns (paths.getD t40.toNat []) (fun (t46 : Bool) =>
 ∃ J2 : Bool → Prop, (((t46 = true → M_path_one but (paths.getD t40.toNat []) (fun (t50 : Bool) =>
 J2 (!t50))) ∧
 (t46 = false → J2 false))) ∧
 (∀ q1 : Bool, J2 q1 → ((q1 = true → ((out.length + (([paths.getD t40.toNat []] : List (List UInt8))).length) * 16 ≤ 140737488355328) ∧
 J1 (out ++ ([paths.getD t40.toNat []] : List (List UInt8)))) ∧
 (q1 = false → J1 out))))) ∧
 (∀ out2 : List (List UInt8), J1 out2 → (In .i64 (t40 + (1 : Int))) ∧
 k_2 out2 (t40 + (1 : Int)))) ∧
 (¬ (t40 < (paths.length : Int)) → M_slices_Sort_string_string out (fun (ys : List (List UInt8)) =>
 M_slices_Compact_string_string ys (fun (t6 : List (List UInt8)) =>
 K t6 Er.ok))))) [] (0 : Int)))) (0 : Int)))))

def M_smithyref1_Pattern (s : List UInt8) (K : Bool → Prop) : Prop :=
 M_smithyref1_Parts s (fun (l : List (List UInt8)) =>
 Lp1 (fun (i : Int) k_1 => ((i < (l.length : Int) → (0 ≤ i ∧ i < (l.length : Nat)) ∧
 M_smithyref1_part (l.getD i.toNat []) true (fun (t18 : Bool) =>
 (((!t18) = true → K false) ∧
 ((!t18) = false → Lp1 (fun (k : Int) k_2 => (In .i64 (k + (1 : Int))) ∧
 (0 ≤ i ∧ i < (l.length : Nat)) ∧
 (((k + (1 : Int)) < ((l.getD i.toNat []).length : Int) → (0 ≤ i ∧ i < (l.length : Nat)) ∧
 (0 ≤ k ∧ k < (l.getD i.toNat []).length) ∧
 ((decide ((((l.getD i.toNat []).getD k.toNat 0).toNat : Int) = (42 : Int))) = true → (0 ≤ i ∧ i < (l.length : Nat))) ∧
 ((decide ((((l.getD i.toNat []).getD k.toNat 0).toNat : Int) = (42 : Int))) = true → (In .i64 (k + (1 : Int)))) ∧
 ((decide ((((l.getD i.toNat []).getD k.toNat 0).toNat : Int) = (42 : Int))) = true → (0 ≤ k + (1 : Int) ∧ k + (1 : Int) < (l.getD i.toNat []).length)) ∧
 (((decide ((((l.getD i.toNat []).getD k.toNat 0).toNat : Int) = (42 : Int))) && (decide ((((l.getD i.toNat []).getD (k + (1 : Int)).toNat 0).toNat : Int) = (42 : Int)))) = true → (0 ≤ i ∧ i < (l.length : Nat))) ∧
 (((((decide ((((l.getD i.toNat []).getD k.toNat 0).toNat : Int) = (42 : Int))) && (decide ((((l.getD i.toNat []).getD (k + (1 : Int)).toNat 0).toNat : Int) = (42 : Int)))) && (!decide ((l.getD i.toNat []) = ([42, 42] : List UInt8)))) = true → K false) ∧
 ((((decide ((((l.getD i.toNat []).getD k.toNat 0).toNat : Int) = (42 : Int))) && (decide ((((l.getD i.toNat []).getD (k + (1 : Int)).toNat 0).toNat : Int) = (42 : Int)))) && (!decide ((l.getD i.toNat []) = ([42, 42] : List UInt8)))) = false → (In .i64 (k + (1 : Int))) ∧
 k_2 (k + (1 : Int))))) ∧
 (¬ ((k + (1 : Int)) < ((l.getD i.toNat []).length : Int)) → (In .i64 (i + (1 : Int))) ∧
 k_1 (i + (1 : Int))))) (0 : Int))))) ∧
 (¬ (i < (l.length : Int)) → K (decide ((s.length : Int) ≤ (200 : Int)))))) (0 : Int))

def M_smithyref1_one (pattern : List UInt8) (s : List UInt8) (K : Bool → Prop) : Prop :=
 (In .i64 ((s.length : Int) + (1 : Int))) ∧
 (0 ≤ (s.length : Int) + (1 : Int) ∧ ((s.length : Int) + (1 : Int)) * 1 ≤ 140737488355328 ∧ (s.length : Int) + (1 : Int) ≤ 140737488355328) ∧
 (0 ≤ (0 : Int) ∧ (0 : Int) < (((s.length : Int) + (1 : Int)).toNat : Nat)) ∧
 Lp2 (fun (reach : List Bool) (i : Int) k_1 => ((i < (pattern.length : Int) → (In .i64 ((s.length : Int) + (1 : Int))) ∧
 (0 ≤ (s.length : Int) + (1 : Int) ∧ ((s.length : Int) + (1 : Int)) * 1 ≤ 140737488355328 ∧ (s.length : Int) + (1 : Int) ≤ 140737488355328) ∧
 Lp2 (fun (k : Int) (next : List Bool) k_2 => ((s.length : Int) + (1 : Int)).toNat = next.length → ((k ≤ (s.length : Int) → ∃ J1 : (List Bool) → Prop, ((0 ≤ k ∧ k < (reach.length : Nat)) ∧
 (((!(reach.getD k.toNat false)) = true → J1 next) ∧
 ((!(reach.getD k.toNat false)) = false → (0 ≤ i ∧ i < pattern.length) ∧
 ((((pattern.getD i.toNat 0).toNat : Int) = (42 : Int) → Lp2 (fun (j : Int) (next2 : List Bool) k_3 => ((s.length : Int) + (1 : Int)).toNat = next2.length → ((j ≤ (s.length : Int) → (0 ≤ j ∧ j < (((s.length : Int) + (1 : Int)).toNat : Nat)) ∧
 (In .i64 (j + (1 : Int))) ∧
 k_3 (j + (1 : Int)) (next2.set j.toNat true)) ∧
 (¬ (j ≤ (s.length : Int)) → J1 next2))) k next) ∧
 (¬ (((pattern.getD i.toNat 0).toNat : Int) = (42 : Int)) → ((decide (k < (s.length : Int))) = true → (0 ≤ k ∧ k < s.length)) ∧
 ((decide (k < (s.length : Int))) = true → (0 ≤ i ∧ i < pattern.length)) ∧
 ((((decide (k < (s.length : Int))) && (decide (((s.getD k.toNat 0).toNat : Int) = ((pattern.getD i.toNat 0).toNat : Int)))) = true → (In .i64 (k + (1 : Int))) ∧
 (0 ≤ k + (1 : Int) ∧ k + (1 : Int) < (((s.length : Int) + (1 : Int)).toNat : Nat)) ∧
 J1 (next.set ((k + (1 : Int)).toNat) true)) ∧
 (((decide (k < (s.length : Int))) && (decide (((s.getD k.toNat 0).toNat : Int) = ((pattern.getD i.toNat 0).toNat : Int)))) = false → J1 next))))))) ∧
 (∀ xs : List Bool, J1 xs → ((s.length : Int) + (1 : Int)).toNat = xs.length → (In .i64 (k + (1 : Int))) ∧
 k_2 (k + (1 : Int)) xs)) ∧
 (¬ (k ≤ (s.length : Int)) → (In .i64 (i + (1 : Int))) ∧
 k_1 next (i + (1 : Int))))) (0 : Int) (List.replicate ((s.length : Int) + (1 : Int)).toNat false)) ∧
 (¬ (i < (pattern.length : Int)) → (0 ≤ (s.length : Int) ∧ (s.length : Int) < (reach.length : Nat)) ∧
 K (reach.getD ((s.length : Int).toNat) false)))) ((List.replicate ((s.length : Int) + (1 : Int)).toNat false).set 0 true) (0 : Int)

def M_smithyref1_Match (pattern : List UInt8) (p : List UInt8) (K : Bool → Prop) : Prop :=
 M_smithyref1_Parts pattern (fun (a : List (List UInt8)) =>
 M_smithyref1_Parts p (fun (b : List (List UInt8)) =>
 (In .i64 ((b.length : Int) + (1 : Int))) ∧
 (0 ≤ (b.length : Int) + (1 : Int) ∧ ((b.length : Int) + (1 : Int)) * 1 ≤ 140737488355328 ∧ (b.length : Int) + (1 : Int) ≤ 140737488355328) ∧
 (0 ≤ (0 : Int) ∧ (0 : Int) < (((b.length : Int) + (1 : Int)).toNat : Nat)) ∧
 Lp2 (fun (reach : List Bool) (i : Int) k_1 => ((i < (a.length : Int) → (In .i64 ((b.length : Int) + (1 : Int))) ∧
 (0 ≤ (b.length : Int) + (1 : Int) ∧ ((b.length : Int) + (1 : Int)) * 1 ≤ 140737488355328 ∧ (b.length : Int) + (1 : Int) ≤ 140737488355328) ∧
 Lp2 (fun (k : Int) (next : List Bool) k_2 => ((b.length : Int) + (1 : Int)).toNat = next.length → ((k ≤ (b.length : Int) → ∃ J1 : (List Bool) → Prop, ((0 ≤ k ∧ k < (reach.length : Nat)) ∧
 (((!(reach.getD k.toNat false)) = true → J1 next) ∧
 ((!(reach.getD k.toNat false)) = false → (0 ≤ i ∧ i < (a.length : Nat)) ∧
 (((a.getD i.toNat []) = ([42, 42] : List UInt8) → Lp2 (fun (j : Int) (next2 : List Bool) k_3 => ((b.length : Int) + (1 : Int)).toNat = next2.length → ((j ≤ (b.length : Int) → (0 ≤ j ∧ j < (((b.length : Int) + (1 : Int)).toNat : Nat)) ∧
 (In .i64 (j + (1 : Int))) ∧
 k_3 (j + (1 : Int)) (next2.set j.toNat true)) ∧
 (¬ (j ≤ (b.length : Int)) → J1 next2))) k next) ∧
 (¬ ((a.getD i.toNat []) = ([42, 42] : List UInt8)) → ∃ J2 : Bool → Prop, ((((decide (k < (b.length : Int))) = true → (0 ≤ i ∧ i < (a.length : Nat)) ∧
 (0 ≤ k ∧ k < (b.length : Nat)) ∧
 M_smithyref1_one (a.getD i.toNat []) (b.getD k.toNat []) (fun (t71 : Bool) =>
 J2 t71)) ∧
 ((decide (k < (b.length : Int))) = false → J2 false))) ∧
 (∀ q1 : Bool, J2 q1 → ((q1 = true → (In .i64 (k + (1 : Int))) ∧
 (0 ≤ k + (1 : Int) ∧ k + (1 : Int) < (((b.length : Int) + (1 : Int)).toNat : Nat)) ∧
 J1 (next.set ((k + (1 : Int)).toNat) true)) ∧
 (q1 = false → J1 next)))))))) ∧
 (∀ xs : List Bool, J1 xs → ((b.length : Int) + (1 : Int)).toNat = xs.length → (In .i64 (k + (1 : Int))) ∧
 k_2 (k + (1 : Int)) xs)) ∧
 (¬ (k ≤ (b.length : Int)) → (In .i64 (i + (1 : Int))) ∧
 k_1 next (i + (1 : Int))))) (0 : Int) (List.replicate ((b.length : Int) + (1 : Int)).toNat false)) ∧
 (¬ (i < (a.length : Int)) → (0 ≤ (b.length : Int) ∧ (b.length : Int) < (reach.length : Nat)) ∧
 ∃ J3 : Bool → Prop, ((((reach.getD ((b.length : Int).toNat) false) = true → M_smithyref1_Valid p (fun (t85 : Bool) =>
 J3 t85)) ∧
 ((reach.getD ((b.length : Int).toNat) false) = false → J3 false))) ∧
 (∀ q2 : Bool, J3 q2 → K q2)))) ((List.replicate ((b.length : Int) + (1 : Int)).toNat false).set 0 true) (0 : Int)))

def M_smithyref1_Glob (patterns : List (List UInt8)) (but : List (List UInt8)) (paths : List (List UInt8)) (K : (List (List UInt8)) → Int → Prop) : Prop :=
 (patterns.length ≤ maxLen →
 (but.length ≤ maxLen →
 (paths.length ≤ maxLen →
 M_smithyref_Texts patterns (fun (t16 : List (List UInt8)) =>
 ((t16.length + but.length) * 16 ≤ 140737488355328) ∧
 Lp1 (fun (i : Int) k_1 => ((i < ((t16 ++ but).length : Int) → (0 ≤ i ∧ i < ((t16 ++ but).length : Nat)) ∧
 M_smithyref1_Pattern ((t16 ++ but).getD i.toNat []) (fun (t29 : Bool) =>
 (((!t29) = true → K [] i) ∧
 ((!t29) = false → (In .i64 (i + (1 : Int))) ∧
 k_1 (i + (1 : Int)))))) ∧
 (¬ (i < ((t16 ++ but).length : Int)) → Lp2 (fun (out : List (List UInt8)) (i2 : Int) k_2 => ((i2 < (paths.length : Int) → ∃ J1 : (List (List UInt8)) → Prop, (Lp2 (fun (in_ : Bool) (k : Int) k_3 => ((k < (patterns.length : Int) → ∃ J2 : Bool → Prop, (((in_ = true → J2 true) ∧
 (in_ = false → (0 ≤ k ∧ k < (patterns.length : Nat)) ∧
 (0 ≤ i2 ∧ i2 < (paths.length : Nat)) ∧
 M_smithyref1_Match (patterns.getD k.toNat []) (paths.getD i2.toNat []) (fun (t54 : Bool) =>
 J2 t54)))) ∧
 (∀ q1 : Bool, J2 q1 → (In .i64 (k + (1 : Int))) ∧
 k_3 q1 (k + (1 : Int)))) ∧
 (¬ (k < (patterns.length : Int)) → Lp2 (fun (in_2 : Bool) (k2 : Int) k_4 => ((k2 < (but.length : Int) → ∃ J3 : Bool → Prop, (((in_2 = true → (0 ≤ k2 ∧ k2 < (but.length : Nat)) ∧
 (0 ≤ i2 ∧ i2 < (paths.length : Nat)) ∧
 M_smithyref1_Match (but.getD k2.toNat []) (paths.getD i2.toNat []) (fun (t72 : Bool) =>
 J3 (!t72))) ∧
 (in_2 = false → J3 false))) ∧
 (∀ q2 : Bool, J3 q2 → (In .i64 (k2 + (1 : Int))) ∧
 k_4 q2 (k2 + (1 : Int)))) ∧
 (¬ (k2 < (but.length : Int)) → ((in_2 = true → (0 ≤ i2 ∧ i2 < (paths.length : Nat)) ∧
 ((out.length + (([paths.getD i2.toNat []] : List (List UInt8))).length) * 16 ≤ 140737488355328) ∧
 J1 (out ++ ([paths.getD i2.toNat []] : List (List UInt8)))) ∧
 (in_2 = false → J1 out))))) in_ (0 : Int)))) false (0 : Int)) ∧
 (∀ out2 : List (List UInt8), J1 out2 → (In .i64 (i2 + (1 : Int))) ∧
 k_2 out2 (i2 + (1 : Int)))) ∧
 (¬ (i2 < (paths.length : Int)) → M_smithyref_SortedTexts out (fun (t6 : List (List UInt8)) =>
 K t6 (-1 : Int))))) [] (0 : Int)))) (0 : Int)))))

def M_smithylaw1_PathMatches (pattern : List UInt8) (p : List UInt8) (l : List (List UInt8)) (but : List (List UInt8)) (paths : List (List UInt8)) (K : Bool → Prop) : Prop :=
 (l.length ≤ maxLen →
 (but.length ≤ maxLen →
 (paths.length ≤ maxLen →
 M_smithylaw1_first (fun (ok : Bool) =>
 (((!ok) = true → K false) ∧
 ((!ok) = false → ((((((((decide ((210 : Int) < (pattern.length : Int))) || (decide ((210 : Int) < (p.length : Int)))) || (decide ((8 : Int) < (l.length : Int)))) || (decide ((8 : Int) < (but.length : Int)))) || (decide ((30 : Int) < (paths.length : Int)))) || (!ok)) = true → K ok) ∧
 (((((((decide ((210 : Int) < (pattern.length : Int))) || (decide ((210 : Int) < (p.length : Int)))) || (decide ((8 : Int) < (l.length : Int)))) || (decide ((8 : Int) < (but.length : Int)))) || (decide ((30 : Int) < (paths.length : Int)))) || (!ok)) = false → M_smithyref_Texts l (fun (t53 : List (List UInt8)) =>
 ((t53.length + but.length) * 16 ≤ 140737488355328) ∧
 (((t53 ++ but).length + paths.length) * 16 ≤ 140737488355328) ∧
 Lp1 (fun (i : Int) k_1 => ((i < (((t53 ++ but) ++ paths).length : Int) → (0 ≤ i ∧ i < (((t53 ++ but) ++ paths).length : Nat)) ∧
 (((210 : Int) < ((((t53 ++ but) ++ paths).getD i.toNat []).length : Int) → K true) ∧
 (¬ ((210 : Int) < ((((t53 ++ but) ++ paths).getD i.toNat []).length : Int)) → (In .i64 (i + (1 : Int))) ∧
 k_1 (i + (1 : Int))))) ∧
 (¬ (i < (((t53 ++ but) ++ paths).length : Int)) → M_path_Match pattern p (fun (t730 : Bool) (t731 : Er) =>
 M_smithyref1_Pattern pattern (fun (good : Bool) =>
 M_smithylaw1_code good (fun (t80 : Int) =>
 M_smithysee_Is t731 t80 (fun (t81 : Bool) =>
 ∃ J1 : Bool → Prop, ((((!t81) = true → J1 true) ∧
 ((!t81) = false → ((good = true → M_smithyref1_Match pattern p (fun (t89 : Bool) =>
 J1 (!(t730 == t89)))) ∧
 (good = false → J1 (!(t730 == false))))))) ∧
 (∀ q6 : Bool, J1 q6 → ((q6 = true → K false) ∧
 (q6 = false → M_path_Glob l but paths (fun (t970 : List (List UInt8)) (t971 : Er) =>
 M_smithyref1_Glob l but paths (fun (t1040 : List (List UInt8)) (t1041 : Int) =>
 (((0 : Int) ≤ t1041 → ∃ J2 : Bool → Prop, ((((decide ((t970.length : Int) = (0 : Int))) = true → M_smithyref_Placed (112 : Int) t1041 (fun (t115_Code : Int) (t115_Placed : Bool) (t115_Pos : Int) (t115_Filed : Bool) (t115_File : List UInt8) =>
 M_smithysee_Same t971 t115_Code t115_Placed t115_Pos t115_Filed t115_File (fun (t116 : Bool) =>
 J2 t116))) ∧
 ((decide ((t970.length : Int) = (0 : Int))) = false → J2 false))) ∧
 (∀ q7 : Bool, J2 q7 → K q7)) ∧
 (¬ ((0 : Int) ≤ t1041) → ∃ J3 : Bool → Prop, ((((decide (t971 = Er.ok)) = true → M_smithyref_SameTexts t970 t1040 (fun (t123 : Bool) =>
 J3 t123)) ∧
 ((decide (t971 = Er.ok)) = false → J3 false))) ∧
 (∀ q8 : Bool, J3 q8 → K q8))))))))))))))) (0 : Int))))))))))

def M_smithylaw1_PathGlobs (l : List (List UInt8)) (but : List (List UInt8)) (paths : List (List UInt8)) (more : List UInt8) (K : Bool → Prop) : Prop :=
 (l.length ≤ maxLen →
 (but.length ≤ maxLen →
 (paths.length ≤ maxLen →
 M_smithylaw1_first (fun (ok : Bool) =>
 (((!ok) = true → K false) ∧
 ((!ok) = false → (((((((decide ((6 : Int) < (l.length : Int))) || (decide ((6 : Int) < (but.length : Int)))) || (decide ((20 : Int) < (paths.length : Int)))) || (decide ((100 : Int) < (more.length : Int)))) || (!ok)) = true → K ok) ∧
 ((((((decide ((6 : Int) < (l.length : Int))) || (decide ((6 : Int) < (but.length : Int)))) || (decide ((20 : Int) < (paths.length : Int)))) || (decide ((100 : Int) < (more.length : Int)))) || (!ok)) = false → M_smithyref_Texts l (fun (t48 : List (List UInt8)) =>
 ((t48.length + but.length) * 16 ≤ 140737488355328) ∧
 (((t48 ++ but).length + paths.length) * 16 ≤ 140737488355328) ∧
 Lp1 (fun (i : Int) k_1 => ((i < (((t48 ++ but) ++ paths).length : Int) → (0 ≤ i ∧ i < (((t48 ++ but) ++ paths).length : Nat)) ∧
 (((100 : Int) < ((((t48 ++ but) ++ paths).getD i.toNat []).length : Int) → K true) ∧
 (¬ ((100 : Int) < ((((t48 ++ but) ++ paths).getD i.toNat []).length : Int)) → (In .i64 (i + (1 : Int))) ∧
 k_1 (i + (1 : Int))))) ∧
 (¬ (i < (((t48 ++ but) ++ paths).length : Int)) → M_path_Glob l but paths (fun (t690 : List (List UInt8)) (t691 : Er) =>
 M_smithyref_Texts l (fun (t74 : List (List UInt8)) =>
 ((t74.length + (([more] : List (List UInt8))).length) * 16 ≤ 140737488355328) ∧
 M_path_Glob (t74 ++ ([more] : List (List UInt8))) but paths (fun (t800 : List (List UInt8)) (t801 : Er) =>
 M_smithyref_Texts but (fun (t86 : List (List UInt8)) =>
 ((t86.length + (([more] : List (List UInt8))).length) * 16 ≤ 140737488355328) ∧
 M_path_Glob l (t86 ++ ([more] : List (List UInt8))) paths (fun (t910 : List (List UInt8)) (t911 : Er) =>
 ((¬ (t691 = Er.ok) → K (((decide ((t690.length : Int) = (0 : Int))) && (!decide (t801 = Er.ok))) && (!decide (t911 = Er.ok)))) ∧
 (t691 = Er.ok → Lp1 (fun (i2 : Int) k_2 => ((i2 < (t690.length : Int) → (0 ≤ i2 ∧ i2 < (t690.length : Nat)) ∧
 M_smithyref_AmongTexts paths (t690.getD i2.toNat []) (fun (t118 : Int) =>
 ((decide (t118 < (0 : Int))) = false → (decide ((0 : Int) < i2)) = true → (0 ≤ i2 ∧ i2 < (t690.length : Nat))) ∧
 ((decide (t118 < (0 : Int))) = false → (decide ((0 : Int) < i2)) = true → (In .i64 (i2 - (1 : Int)))) ∧
 ((decide (t118 < (0 : Int))) = false → (decide ((0 : Int) < i2)) = true → (0 ≤ i2 - (1 : Int) ∧ i2 - (1 : Int) < (t690.length : Nat))) ∧
 ∃ J1 : Bool → Prop, (((((decide (t118 < (0 : Int))) || ((decide ((0 : Int) < i2)) && (Op.bytesLess (t690.getD i2.toNat []) (t690.getD ((i2 - (1 : Int)).toNat) []) || decide ((t690.getD i2.toNat []) = (t690.getD ((i2 - (1 : Int)).toNat) []))))) = true → J1 true) ∧
 (((decide (t118 < (0 : Int))) || ((decide ((0 : Int) < i2)) && (Op.bytesLess (t690.getD i2.toNat []) (t690.getD ((i2 - (1 : Int)).toNat) []) || decide ((t690.getD i2.toNat []) = (t690.getD ((i2 - (1 : Int)).toNat) []))))) = false → (((decide (t801 = Er.ok)) = true → (0 ≤ i2 ∧ i2 < (t690.length : Nat)) ∧
 M_smithyref_AmongTexts t800 (t690.getD i2.toNat []) (fun (t145 : Int) =>
 J1 (decide (t145 < (0 : Int))))) ∧
 ((decide (t801 = Er.ok)) = false → J1 false))))) ∧
 (∀ q8 : Bool, J1 q8 → ((q8 = true → K false) ∧
 (q8 = false → (0 ≤ i2 ∧ i2 < (t690.length : Nat)) ∧
 M_path_Match more (t690.getD i2.toNat []) (fun (t1550 : Bool) (t1551 : Er) =>
 ∃ J2 : Bool → Prop, (((((decide (t1551 = Er.ok)) && (decide (t911 = Er.ok))) = true → (0 ≤ i2 ∧ i2 < (t690.length : Nat)) ∧
 M_smithyref_AmongTexts t910 (t690.getD i2.toNat []) (fun (t170 : Int) =>
 J2 (!((decide (t170 < (0 : Int))) == t1550)))) ∧
 (((decide (t1551 = Er.ok)) && (decide (t911 = Er.ok))) = false → J2 false))) ∧
 (∀ q10 : Bool, J2 q10 → ((q10 = true → K false) ∧
 (q10 = false → (In .i64 (i2 + (1 : Int))) ∧
 k_2 (i2 + (1 : Int))))))))))) ∧
 (¬ (i2 < (t690.length : Int)) → K (((decide (t801 = Er.ok)) == (decide (t911 = Er.ok))) && (decide ((t910.length : Int) ≤ (t690.length : Int))))))) (0 : Int))))))))))) (0 : Int))))))))))

set_option maxHeartbeats 8000000 in
theorem W_smithyref_Texts {w : World} {l : List (List UInt8)} {A_l : Option Addr} {c_l : Nat} {n_l : Nat} {K : (List (List UInt8)) → Prop} (hl : Rd vs w A_l c_l l) (hn_l : n_l = l.length) (H : M_smithyref_Texts l K) : Fn Tryd.prog 18 ⟨[.slice A_l n_l c_l]⟩ w (fun v w' => w.grownBy w' none ∧ ∃ (r : List (List UInt8)), ∃ (A_r : Option Addr), ∃ (c_r : Nat), v = .slice A_r r.length c_r ∧ Own vs w' w.heap.size 9 A_r c_r r ∧ K r) := by
  subst hn_l
  unfold M_smithyref_Texts at H
  refine Fn.enter (by kernel_rfl) Tryd.func18 rfl Tryd.ntmps18 rfl ?_
  replace H := H (Nat.le_trans hl.cap hl.max)
  refine WC.seq ?_
  refine WC.region ?_
  refine WL.y rfl (Yld.pure tab_ok rfl) ?_
  refine WL.nil (WX.then_normal ?_)
  refine WC.seq ?_
  refine WC.region ?_
  refine WL.y rfl (Yld.pure tab_ok rfl) ?_
  refine WL.y rfl (Yld.pure tab_ok rfl) ?_
  obtain ⟨h1, H⟩ := H
  refine WL.makeCI (f := vs) (B := w.heap.size) tab_ok rfl rfl rfl rfl h1.1 h1.2.1 h1.2.2 (Nat.le_refl _) (fun g1 w1 hO1 hg1 hl1 => ?_)
  have gr1 := hg1
  refine WL.y rfl (Yld.pure tab_ok rfl) ?_
  refine WL.nil (WX.then_normal ?_)
  refine WC.seq ?_
  refine WC.seq ?_
  refine WC.region ?_
  refine WL.y rfl (Yld.pure tab_ok rfl) ?_
  refine WL.nil (WX.then_normal ?_)
  refine WC.block ?_
  obtain ⟨I1, mu1, h0_1, HR1⟩ := H
  refine WC.loopF (fun n' L' w' => ∃ (out : List (List UInt8)), ∃ (A_out : Option Addr), ∃ (c_out : Nat), ∃ (n_out : Nat), ∃ (i : Int), n' = mu1 out i ∧ L' = [(0, .slice A_l l.length c_l), (3, .slice A_out n_out c_out), (4, .int .i64 i)] ∧ I1 out i ∧ n_out = out.length ∧ w.grownBy w' none ∧ Own vs w' w.heap.size 9 A_out c_out out) _ _ ⟨([] : List (List UInt8)), (some ⟨g1, 0, none⟩), (l.length : Int).toNat, 0, (0 : Int), rfl, rfl, h0_1, rfl, gr1, hO1⟩ (by repeat (first | exact Sub.nil | refine Sub.cons rfl ?_)) ?_
  clear h0_1
  rintro _ _ w2 ⟨out, A_out, c_out, n_out, i, rfl, rfl, hI1, rfl, gr2, k1⟩
  have H := HR1 out i hI1
  refine WC.seq ?_
  refine WC.seq ?_
  refine WC.region ?_
  refine WL.y rfl (Yld.pure tab_ok rfl) ?_
  refine WL.y rfl (Yld.pure tab_ok rfl) ?_
  refine WL.y rfl (Yld.pure tab_ok rfl) ?_
  refine WL.y rfl (Yld.pure tab_ok rfl) ?_
  refine WL.nil (WX.then_normal ?_)
  refine WC.cond rfl (fun b1 => ?_) (fun b1 => ?_)
  · replace H := H.1 (of_decide_eq_true b1)
    refine WC.skip (WX.then_normal ?_)
    refine WC.seq ?_
    refine WC.block ?_
    refine WC.region ?_
    refine WL.y rfl (Yld.pure tab_ok rfl) ?_
    refine WL.y rfl (Yld.pure tab_ok rfl) ?_
    refine WL.y rfl (Yld.pure tab_ok rfl) ?_
    obtain ⟨h2, H⟩ := H
    refine WL.y rfl (Yld.iaddrW tab_ok (hl.grown gr2) rfl rfl rfl rfl h2.1 h2.2) ?_
    refine WL.y rfl (Yld.iload [] tab_ok (hl.grown gr2) rfl rfl (iltN h2 rfl)) ?_
    refine WL.lit tab_ok rfl rfl rfl (all1c rfl all1n) rfl (by omega) (fun g2 w3 hB1 hg2 hl2 => ?_)
    have hO2 : Own vs w3 w.heap.size 9 (some ⟨g2, 0, none⟩) 1 ([l.getD i.toNat []] : List (List UInt8)) := Own.ofBl hB1 (Nat.le_trans (size_le gr2) hl2) (by simp [maxLen]) rfl
    have gr3 := gr_trans gr2 hg2
    have k2 := k1.grown hg2
    obtain ⟨h3, H⟩ := H
    refine WL.append tab_ok rfl rfl One.s k2 rfl rfl hO2.rd rfl rfl h3 (applen h3) (size_le gr3) (fun A_out2 c_out2 w4 hO3 hg3 hk1 => ?_)
    have gr4 := gr_mod gr3 hg3 k2.ge'
    refine WL.y rfl (Yld.pure tab_ok rfl) ?_
    refine WL.nil (WX.block_normal (WX.then_normal ?_))
    refine WC.region ?_
    refine WL.y rfl (Yld.pure tab_ok rfl) ?_
    obtain ⟨h4, H⟩ := H
    refine WL.y rfl (Yld.add rfl rfl h4) ?_
    refine WL.y rfl (Yld.pure tab_ok rfl) ?_
    refine WL.nil ?_
    exact WX.roundF _ ⟨out ++ ([l.getD i.toNat []] : List (List UInt8)), A_out2, c_out2, (out ++ ([l.getD i.toNat []] : List (List UInt8))).length, i + (1 : Int), rfl, rfl, H.1, rfl, gr4, hO3⟩ (by repeat (first | exact Sub.nil | refine Sub.cons rfl ?_)) H.2
  · replace H := H.2 (of_decide_eq_false b1)
    refine WC.exit (WX.then_exit (WX.then_exit (WX.block_same (WX.then_normal ?_))))
    refine WC.seq ?_
    refine WC.region ?_
    refine WL.y rfl (Yld.pure tab_ok rfl) ?_
    refine WL.y rfl (Yld.pure tab_ok rfl) ?_
    refine WL.nil (WX.then_normal ?_)
    refine WC.ret ?_
    exact WX.ret1 rfl rfl ⟨gr2, out, A_out, c_out, rfl, k1, H⟩

set_option maxHeartbeats 8000000 in
theorem W_smithyref_SortedTexts {w : World} {l : List (List UInt8)} {A_l : Option Addr} {c_l : Nat} {n_l : Nat} {K : (List (List UInt8)) → Prop} (hl : Rd vs w A_l c_l l) (hn_l : n_l = l.length) (H : M_smithyref_SortedTexts l K) : Fn Tryd.prog 35 ⟨[.slice A_l n_l c_l]⟩ w (fun v w' => w.grownBy w' none ∧ ∃ (r : List (List UInt8)), ∃ (A_r : Option Addr), ∃ (c_r : Nat), v = .slice A_r r.length c_r ∧ Own vs w' w.heap.size 9 A_r c_r r ∧ K r) := by
  subst hn_l
  unfold M_smithyref_SortedTexts at H
  refine Fn.enter (by kernel_rfl) Tryd.func35 rfl Tryd.ntmps35 rfl ?_
  replace H := H (Nat.le_trans hl.cap hl.max)
  refine WC.seq ?_
  refine WC.region ?_
  refine WL.y rfl (Yld.pure tab_ok rfl) ?_
  refine WL.nil (WX.then_normal ?_)
  refine WC.seq ?_
  refine WC.region ?_
  refine WL.y rfl (Yld.pure tab_ok rfl) ?_
  refine WL.nil (WX.then_normal ?_)
  refine WC.seq ?_
  refine WC.seq ?_
  refine WC.region ?_
  refine WL.y rfl (Yld.pure tab_ok rfl) ?_
  refine WL.nil (WX.then_normal ?_)
  refine WC.block ?_
  obtain ⟨I1, mu1, h0_1, HR1⟩ := H
  refine WC.loopF (fun n' L' w' => ∃ (out : List (List UInt8)), ∃ (A_out : Option Addr), ∃ (c_out : Nat), ∃ (n_out : Nat), ∃ (i : Int), n' = mu1 out i ∧ L' = [(0, .slice A_l l.length c_l), (3, .slice A_out n_out c_out), (4, .int .i64 i)] ∧ I1 out i ∧ n_out = out.length ∧ w.grownBy w' none ∧ Own vs w' w.heap.size 9 A_out c_out out) _ _ ⟨[], none, 0, 0, (0 : Int), rfl, rfl, h0_1, rfl, (gr_refl _ _), (Own.nil vs w w.heap.size 9)⟩ (by repeat (first | exact Sub.nil | refine Sub.cons rfl ?_)) ?_
  clear h0_1
  rintro _ _ w1 ⟨out, A_out, c_out, n_out, i, rfl, rfl, hI1, rfl, gr1, k1⟩
  have H := HR1 out i hI1
  refine WC.seq ?_
  refine WC.seq ?_
  refine WC.region ?_
  refine WL.y rfl (Yld.pure tab_ok rfl) ?_
  refine WL.y rfl (Yld.pure tab_ok rfl) ?_
  refine WL.y rfl (Yld.pure tab_ok rfl) ?_
  refine WL.y rfl (Yld.pure tab_ok rfl) ?_
  refine WL.nil (WX.then_normal ?_)
  refine WC.cond rfl (fun b1 => ?_) (fun b1 => ?_)
  · replace H := H.1 (of_decide_eq_true b1)
    refine WC.skip (WX.then_normal ?_)
    refine WC.seq ?_
    obtain ⟨J1, H, hJ1⟩ := H
    refine WC.midF (fun L' w' => ∃ (out2 : List (List UInt8)), ∃ (A_out2 : Option Addr), ∃ (c_out2 : Nat), ∃ (n_out2 : Nat), L' = [(0, .slice A_l l.length c_l), (3, .slice A_out2 n_out2 c_out2), (4, .int .i64 i)] ∧ J1 out2 ∧ n_out2 = out2.length ∧ w.grownBy w' none ∧ Own vs w' w.heap.size 9 A_out2 c_out2 out2) ?_ (fun hQ => ?_)
    · clear H
      rintro _ w2 ⟨out2, A_out2, c_out2, n_out2, rfl, H, rfl, gr2, k2⟩
      replace H := hJ1 out2 H
      refine WX.then_normal ?_
      refine WC.region ?_
      refine WL.y rfl (Yld.pure tab_ok rfl) ?_
      obtain ⟨h1, H⟩ := H
      refine WL.y rfl (Yld.add rfl rfl h1) ?_
      refine WL.y rfl (Yld.pure tab_ok rfl) ?_
      refine WL.nil ?_
      exact WX.roundF _ ⟨out2, A_out2, c_out2, out2.length, i + (1 : Int), rfl, rfl, H.1, rfl, gr2, k2⟩ (by repeat (first | exact Sub.nil | refine Sub.cons rfl ?_)) H.2
    · clear hJ1
      refine WC.block ?_
      refine WC.seq ?_
      refine WC.region ?_
      refine WL.y rfl (Yld.pure tab_ok rfl) ?_
      refine WL.nil (WX.then_normal ?_)
      refine WC.seq ?_
      refine WC.block ?_
      obtain ⟨I2, mu2, h0_2, HR2⟩ := H
      refine WC.loopF (fun n' L' w' => ∃ (k : Int), n' = mu2 k ∧ L' = [(0, .slice A_l l.length c_l), (3, .slice A_out out.length c_out), (4, .int .i64 i), (5, .int .i64 k)] ∧ I2 k ∧ w1 = w') _ _ ⟨(0 : Int), rfl, rfl, h0_2, rfl⟩ (by repeat (first | exact Sub.nil | refine Sub.cons rfl ?_)) ?_
      clear h0_2
      rintro _ _ _ ⟨k, rfl, rfl, hI2, rfl⟩
      have H := HR2 k hI2
      refine WC.seq ?_
      refine WC.seq ?_
      refine WC.quiet mixed (by kernel_rfl) ?_
      refine WQ.y rfl (Yld.pure tab_ok rfl) ?_
      refine WQ.y rfl (Yld.pure tab_ok rfl) ?_
      refine WQ.y rfl (Yld.pure tab_ok rfl) ?_
      refine WQ.y rfl (Yld.pure tab_ok rfl) ?_
      refine WQ.y rfl (Yld.pure tab_ok rfl) ?_
      obtain ⟨h2, H⟩ := H
      obtain ⟨h3, H⟩ := H
      refine WQ.midF 10 (fun L' w' => ∃ q1 : Bool, L' = [(27, .bool q1), (0, .slice A_l l.length c_l), (3, .slice A_out out.length c_out), (4, .int .i64 i), (5, .int .i64 k)] ∧ q1 = ((decide (k < (out.length : Int))) && (Op.bytesLess (out.getD k.toNat []) (l.getD i.toNat []))) ∧ w1 = w') ?_ (fun hQ => ?_)
      · rintro _ _ ⟨q1, rfl, rfl, rfl⟩
        refine WQ.nil (WX.then_normal ?_)
        refine WC.cond rfl (fun b2 => ?_) (fun b2 => ?_)
        · replace H := H.1 (b2)
          refine WC.skip (WX.then_normal ?_)
          refine WC.block ?_
          refine WC.region ?_
          refine WL.y rfl (Yld.pure tab_ok rfl) ?_
          obtain ⟨h4, H⟩ := H
          refine WL.y rfl (Yld.add rfl rfl h4) ?_
          refine WL.y rfl (Yld.pure tab_ok rfl) ?_
          refine WL.nil (WX.block_normal ?_)
          exact WX.roundF _ ⟨k + (1 : Int), rfl, rfl, H.1, rfl⟩ (by repeat (first | exact Sub.nil | refine Sub.cons rfl ?_)) H.2
        · replace H := H.2 (b2)
          refine WC.exit (WX.then_exit (WX.then_exit (WX.block_same (WX.then_normal ?_))))
          refine WC.seq ?_
          refine WC.seq ?_
          refine WC.quiet mixed (by kernel_rfl) ?_
          refine WQ.y rfl (Yld.pure tab_ok rfl) ?_
          refine WQ.y rfl (Yld.pure tab_ok rfl) ?_
          refine WQ.y rfl (Yld.pure tab_ok rfl) ?_
          refine WQ.y rfl (Yld.pure tab_ok rfl) ?_
          refine WQ.y rfl (Yld.pure tab_ok rfl) ?_
          obtain ⟨h5, H⟩ := H
          obtain ⟨h6, H⟩ := H
          refine WQ.midF 10 (fun L' w' => ∃ q2 : Bool, L' = [(44, .bool q2), (0, .slice A_l l.length c_l), (3, .slice A_out out.length c_out), (4, .int .i64 i), (5, .int .i64 k)] ∧ q2 = ((decide (k < (out.length : Int))) && (decide ((out.getD k.toNat []) = (l.getD i.toNat [])))) ∧ w1 = w') ?_ (fun hQ => ?_)
          · rintro _ _ ⟨q2, rfl, rfl, rfl⟩
            refine WQ.nil (WX.then_normal ?_)
            refine WC.cond rfl (fun b3 => ?_) (fun b3 => ?_)
            · replace H := H.1 (b3)
              refine WC.exit (WX.then_exit (WX.block_same ?_))
              exact WX.weaken (by repeat (first | exact Sub.nil | refine Sub.cons rfl ?_)) (hQ _ _ ⟨out, A_out, c_out, out.length, rfl, H, rfl, gr1, k1⟩)
            · replace H := H.2 (b3)
              refine WC.skip (WX.then_normal ?_)
              refine WC.seq ?_
              refine WC.chainF (fun k => !(Nat.beq k 3 || Nat.beq k 7)) (LD [] (fun w' => True)) mixed (by kernel_rfl) (fun k w' h _ => trivial) ?_
              refine WJ.y rfl rfl (fun w' hw' => Yld.pure tab_ok rfl) ?_
              refine WJ.y rfl rfl (fun w' hw' => Yld.pure tab_ok rfl) ?_
              obtain ⟨h7, H⟩ := H
              refine WJ.y rfl rfl (fun w' hw' => Yld.add rfl rfl h7) ?_
              obtain ⟨h8, H⟩ := H
              refine WJ.putw rfl (wants_none) rfl (Eff.makeCI (f := vs) (B := w.heap.size) tab_ok rfl rfl rfl h8.1 h8.2.1 h8.2.2 (size_le gr1)) (fun v w' ⟨_, _, h⟩ => DD.keep trivial) ?_
              rintro _ w3 ⟨rfl, hB1, hg1⟩
              obtain ⟨g_t48, hl1⟩ : ∃ g, g = w1.heap.size := ⟨_, rfl⟩
              rw [← hl1] at hB1
              rw [← hl1]
              have hO1 : Own vs w3 w.heap.size 9 (some ⟨g_t48, 0, none⟩) (((out.length : Int) + (1 : Int)).toNat) ([] : List (List UInt8)) := hB1.base (fun g hg => by cases hg; exact Nat.le_trans (size_le gr1) (Nat.le_of_eq hl1.symm))
              have gr3 := gr_trans gr1 hg1
              have k3 := k1.grown hg1
              refine WJ.y rfl rfl (fun w' hw' => Yld.pure tab_ok rfl) ?_
              refine WJ.y rfl rfl (fun w' hw' => Yld.pure tab_ok rfl) ?_
              obtain ⟨h9, H⟩ := H
              refine WJ.y rfl rfl (fun w' hw' => Yld.ocutY tab_ok k3.rd rfl rfl rfl rfl rfl h9.1 h9.2) ?_
              obtain ⟨h10, H⟩ := H
              refine WJ.putw rfl (wants_none) rfl (Eff.append tab_ok rfl One.s hO1 rfl rfl (k3.rd.take k.toNat) rfl rfl h10 (applen h10) (size_le gr3)) (fun v w' ⟨_, _, _, _, h, _⟩ => DD.keep trivial) ?_
              rintro _ w4 ⟨A_next, c_next, rfl, hO2, hg2, hk1⟩
              have gr4 := gr_mod gr3 hg2 hO1.ge'
              have k4 := k3.go hg2 (Dj.new k1.lt' (Ge.box (Nat.le_of_eq hl1.symm)))
              refine WJ.y rfl rfl (fun w' hw' => Yld.pure tab_ok rfl) ?_
              refine WJ.nil (WX.then_normal ?_)
              refine WC.seq ?_
              refine WC.region ?_
              refine WL.y rfl (Yld.pure tab_ok rfl) ?_
              refine WL.y rfl (Yld.pure tab_ok rfl) ?_
              refine WL.y rfl (Yld.pure tab_ok rfl) ?_
              obtain ⟨h11, H⟩ := H
              refine WL.y rfl (Yld.iaddrW tab_ok (hl.grown gr4) rfl rfl rfl rfl h11.1 h11.2) ?_
              refine WL.y rfl (Yld.iload [] tab_ok (hl.grown gr4) rfl rfl (iltN h11 rfl)) ?_
              refine WL.lit tab_ok rfl rfl rfl (all1c rfl all1n) rfl (by omega) (fun g1 w5 hB2 hg3 hl2 => ?_)
              have hO3 : Own vs w5 w.heap.size 9 (some ⟨g1, 0, none⟩) 1 ([l.getD i.toNat []] : List (List UInt8)) := Own.ofBl hB2 (Nat.le_trans (size_le gr4) hl2) (by simp [maxLen]) rfl
              have gr5 := gr_trans gr4 hg3
              have k5 := k4.grown hg3
              have k6 := hO2.grown hg3
              obtain ⟨h12, H⟩ := H
              refine WL.append tab_ok rfl rfl One.s k6 rfl rfl hO3.rd rfl rfl h12 (applen h12) (size_le gr5) (fun A_next2 c_next2 w6 hO4 hg4 hk2 => ?_)
              have gr6 := gr_mod gr5 hg4 k6.ge'
              have k7 := k5.go hg4 ((Dj.app (Dj.new k1.lt' (Ge.box (Nat.le_of_eq hl1.symm))).symm k3.lt' hk1).symm)
              refine WL.y rfl (Yld.pure tab_ok rfl) ?_
              refine WL.nil (WX.then_normal ?_)
              refine WC.region ?_
              refine WL.y rfl (Yld.pure tab_ok rfl) ?_
              refine WL.y rfl (Yld.pure tab_ok rfl) ?_
              refine WL.y rfl (Yld.pure tab_ok rfl) ?_
              obtain ⟨h13, H⟩ := H
              refine WL.cutF tab_ok k7.rd rfl rfl rfl rfl rfl h13.1 h13.2.1 (fun A_t63 c_t63 hR1 hb1 => ?_)
              obtain ⟨h14, H⟩ := H
              refine WL.append tab_ok rfl rfl One.s hO4 rfl rfl hR1 rfl rfl h14 (applen h14) (size_le gr6) (fun A_out3 c_out3 w7 hO5 hg5 hk3 => ?_)
              have gr7 := gr_mod gr6 hg5 hO4.ge'
              refine WL.y rfl (Yld.pure tab_ok rfl) ?_
              refine WL.nil (WX.block_normal ?_)
              exact WX.weaken (by repeat (first | exact Sub.nil | refine Sub.cons rfl ?_)) (hQ _ _ ⟨((([] : List (List UInt8)) ++ (out.take k.toNat)) ++ ([l.getD i.toNat []] : List (List UInt8))) ++ (out.drop k.toNat), A_out3, c_out3, (((([] : List (List UInt8)) ++ (out.take k.toNat)) ++ ([l.getD i.toNat []] : List (List UInt8))) ++ (out.drop k.toNat)).length, rfl, H, rfl, gr7, hO5⟩)
          · clear H
            rcases Bool.eq_false_or_eq_true (decide (k < (out.length : Int))) with b4 | b4
            · refine WQ.gyes rfl rfl (okb b4) rfl (Yld.pure tab_ok rfl) ?_
              refine WQ.gyes rfl rfl (okb b4) rfl (Yld.pure tab_ok rfl) ?_
              refine WQ.gyes rfl rfl (okb b4) rfl (Yld.iaddrW tab_ok k1.rd rfl rfl rfl rfl (h5 b4).1 (h5 b4).2) ?_
              refine WQ.gyes rfl rfl (okb b4) rfl (Yld.iload [] tab_ok k1.rd rfl rfl (iltN (h5 b4) rfl)) ?_
              refine WQ.gyes rfl rfl (okb b4) rfl (Yld.pure tab_ok rfl) ?_
              refine WQ.gyes rfl rfl (okb b4) rfl (Yld.pure tab_ok rfl) ?_
              refine WQ.gyes rfl rfl (okb b4) rfl (Yld.iaddrW tab_ok (hl.grown gr1) rfl rfl rfl rfl (h6 b4).1 (h6 b4).2) ?_
              refine WQ.gyes rfl rfl (okb b4) rfl (Yld.iload [] tab_ok (hl.grown gr1) rfl rfl (iltN (h6 b4) rfl)) ?_
              refine WQ.gyes rfl rfl (okb b4) rfl (Yld.pure tab_ok rfl) ?_
              refine WQ.y rfl (Yld.pickT (okb b4) rfl) ?_
              exact WQ.weaken (by repeat (first | exact Sub.nil | refine Sub.cons rfl ?_)) (hQ _ _ ⟨decide ((out.getD k.toNat []) = (l.getD i.toNat [])), rfl, by rw [b4] <;> rfl, rfl⟩)
            · refine WQ.gno rfl rfl (okb b4) rfl ?_
              refine WQ.gno rfl rfl (okb b4) rfl ?_
              refine WQ.gno rfl rfl (okb b4) rfl ?_
              refine WQ.gno rfl rfl (okb b4) rfl ?_
              refine WQ.gno rfl rfl (okb b4) rfl ?_
              refine WQ.gno rfl rfl (okb b4) rfl ?_
              refine WQ.gno rfl rfl (okb b4) rfl ?_
              refine WQ.gno rfl rfl (okb b4) rfl ?_
              refine WQ.gno rfl rfl (okb b4) rfl ?_
              refine WQ.y rfl (Yld.pickF (okb b4) rfl) ?_
              exact WQ.weaken (by repeat (first | exact Sub.nil | refine Sub.cons rfl ?_)) (hQ _ _ ⟨false, rfl, by rw [b4] <;> rfl, rfl⟩)
      · clear H
        rcases Bool.eq_false_or_eq_true (decide (k < (out.length : Int))) with b5 | b5
        · refine WQ.gyes rfl rfl (okb b5) rfl (Yld.pure tab_ok rfl) ?_
          refine WQ.gyes rfl rfl (okb b5) rfl (Yld.pure tab_ok rfl) ?_
          refine WQ.gyes rfl rfl (okb b5) rfl (Yld.iaddrW tab_ok k1.rd rfl rfl rfl rfl (h2 b5).1 (h2 b5).2) ?_
          refine WQ.gyes rfl rfl (okb b5) rfl (Yld.iload [] tab_ok k1.rd rfl rfl (iltN (h2 b5) rfl)) ?_
          refine WQ.gyes rfl rfl (okb b5) rfl (Yld.pure tab_ok rfl) ?_
          refine WQ.gyes rfl rfl (okb b5) rfl (Yld.pure tab_ok rfl) ?_
          refine WQ.gyes rfl rfl (okb b5) rfl (Yld.iaddrW tab_ok (hl.grown gr1) rfl rfl rfl rfl (h3 b5).1 (h3 b5).2) ?_
          refine WQ.gyes rfl rfl (okb b5) rfl (Yld.iload [] tab_ok (hl.grown gr1) rfl rfl (iltN (h3 b5) rfl)) ?_
          refine WQ.gyes rfl rfl (okb b5) rfl (Yld.pure tab_ok rfl) ?_
          refine WQ.y rfl (Yld.pickT (okb b5) rfl) ?_
          exact WQ.weaken (by repeat (first | exact Sub.nil | refine Sub.cons rfl ?_)) (hQ _ _ ⟨Op.bytesLess (out.getD k.toNat []) (l.getD i.toNat []), rfl, by rw [b5] <;> rfl, rfl⟩)
        · refine WQ.gno rfl rfl (okb b5) rfl ?_
          refine WQ.gno rfl rfl (okb b5) rfl ?_
          refine WQ.gno rfl rfl (okb b5) rfl ?_
          refine WQ.gno rfl rfl (okb b5) rfl ?_
          refine WQ.gno rfl rfl (okb b5) rfl ?_
          refine WQ.gno rfl rfl (okb b5) rfl ?_
          refine WQ.gno rfl rfl (okb b5) rfl ?_
          refine WQ.gno rfl rfl (okb b5) rfl ?_
          refine WQ.gno rfl rfl (okb b5) rfl ?_
          refine WQ.y rfl (Yld.pickF (okb b5) rfl) ?_
          exact WQ.weaken (by repeat (first | exact Sub.nil | refine Sub.cons rfl ?_)) (hQ _ _ ⟨false, rfl, by rw [b5] <;> rfl, rfl⟩)
  · replace H := H.2 (of_decide_eq_false b1)
    refine WC.exit (WX.then_exit (WX.then_exit (WX.block_same (WX.then_normal ?_))))
    refine WC.seq ?_
    refine WC.region ?_
    refine WL.y rfl (Yld.pure tab_ok rfl) ?_
    refine WL.y rfl (Yld.pure tab_ok rfl) ?_
    refine WL.nil (WX.then_normal ?_)
    refine WC.ret ?_
    exact WX.ret1 rfl rfl ⟨gr1, out, A_out, c_out, rfl, k1, H⟩

set_option maxHeartbeats 8000000 in
theorem W_smithyref_SameTexts {w : World} {a : List (List UInt8)} {A_a : Option Addr} {c_a : Nat} {b : List (List UInt8)} {A_b : Option Addr} {c_b : Nat} {n_a : Nat} {n_b : Nat} {K : Bool → Prop} (ha : Rd vs w A_a c_a a) (hn_a : n_a = a.length) (hb : Rd vs w A_b c_b b) (hn_b : n_b = b.length) (H : M_smithyref_SameTexts a b K) : Fn Tryd.prog 23 ⟨[.slice A_a n_a c_a, .slice A_b n_b c_b]⟩ w (fun v w' => w = w' ∧ ∃ (r : Bool), v = .bool r ∧ K r) := by
  subst hn_a
  subst hn_b
  unfold M_smithyref_SameTexts at H
  refine Fn.enter (by kernel_rfl) Tryd.func23 rfl Tryd.ntmps23 rfl ?_
  replace H := H (Nat.le_trans ha.cap ha.max)
  replace H := H (Nat.le_trans hb.cap hb.max)
  refine WC.seq ?_
  refine WC.region ?_
  refine WL.y rfl (Yld.pure tab_ok rfl) ?_
  refine WL.nil (WX.then_normal ?_)
  refine WC.seq ?_
  refine WC.seq ?_
  refine WC.region ?_
  refine WL.y rfl (Yld.pure tab_ok rfl) ?_
  refine WL.y rfl (Yld.pure tab_ok rfl) ?_
  refine WL.y rfl (Yld.pure tab_ok rfl) ?_
  refine WL.y rfl (Yld.pure tab_ok rfl) ?_
  refine WL.y rfl (Yld.pure tab_ok rfl) ?_
  refine WL.nil (WX.then_normal ?_)
  refine WC.cond rfl (fun b1 => ?_) (fun b1 => ?_)
  · replace H := H.1 (nd_true b1)
    refine WC.seq ?_
    refine WC.region ?_
    refine WL.y rfl (Yld.pure tab_ok rfl) ?_
    refine WL.nil (WX.then_normal ?_)
    refine WC.ret (WX.then_ret ?_)
    exact WX.ret1 rfl rfl ⟨rfl, false, rfl, H⟩
  · replace H := H.2 (nd_false b1)
    refine WC.skip (WX.then_normal ?_)
    refine WC.seq ?_
    refine WC.seq ?_
    refine WC.region ?_
    refine WL.y rfl (Yld.pure tab_ok rfl) ?_
    refine WL.nil (WX.then_normal ?_)
    refine WC.block ?_
    obtain ⟨I1, mu1, h0_1, HR1⟩ := H
    refine WC.loopF (fun n' L' w' => ∃ (i : Int), n' = mu1 i ∧ L' = [(0, .slice A_a a.length c_a), (1, .slice A_b b.length c_b), (5, .int .i64 i)] ∧ I1 i ∧ w = w') _ _ ⟨(0 : Int), rfl, rfl, h0_1, rfl⟩ (by repeat (first | exact Sub.nil | refine Sub.cons rfl ?_)) ?_
    clear h0_1
    rintro _ _ _ ⟨i, rfl, rfl, hI1, rfl⟩
    have H := HR1 i hI1
    refine WC.seq ?_
    refine WC.seq ?_
    refine WC.region ?_
    refine WL.y rfl (Yld.pure tab_ok rfl) ?_
    refine WL.y rfl (Yld.pure tab_ok rfl) ?_
    refine WL.y rfl (Yld.pure tab_ok rfl) ?_
    refine WL.y rfl (Yld.pure tab_ok rfl) ?_
    refine WL.nil (WX.then_normal ?_)
    refine WC.cond rfl (fun b2 => ?_) (fun b2 => ?_)
    · replace H := H.1 (of_decide_eq_true b2)
      refine WC.skip (WX.then_normal ?_)
      refine WC.seq ?_
      refine WC.block ?_
      refine WC.seq ?_
      refine WC.quiet mixed (by kernel_rfl) ?_
      refine WQ.y rfl (Yld.pure tab_ok rfl) ?_
      refine WQ.y rfl (Yld.pure tab_ok rfl) ?_
      obtain ⟨h1, H⟩ := H
      refine WQ.y rfl (Yld.iaddrW tab_ok ha rfl rfl rfl rfl h1.1 h1.2) ?_
      refine WQ.y rfl (Yld.iload [] tab_ok ha rfl rfl (iltN h1 rfl)) ?_
      refine WQ.y rfl (Yld.pure tab_ok rfl) ?_
      refine WQ.y rfl (Yld.pure tab_ok rfl) ?_
      obtain ⟨h2, H⟩ := H
      refine WQ.y rfl (Yld.iaddrW tab_ok hb rfl rfl rfl rfl h2.1 h2.2) ?_
      refine WQ.y rfl (Yld.iload [] tab_ok hb rfl rfl (iltN h2 rfl)) ?_
      refine WQ.y rfl (Yld.pure tab_ok rfl) ?_
      refine WQ.y rfl (Yld.pure tab_ok rfl) ?_
      refine WQ.nil (WX.then_normal ?_)
      refine WC.seq ?_
      refine WC.region ?_
      refine WL.y rfl (Yld.pure tab_ok rfl) ?_
      refine WL.y rfl (Yld.pure tab_ok rfl) ?_
      refine WL.nil (WX.then_normal ?_)
      refine WC.cond rfl (fun b3 => ?_) (fun b3 => ?_)
      · replace H := H.1 (nd_true b3)
        refine WC.seq ?_
        refine WC.region ?_
        refine WL.y rfl (Yld.pure tab_ok rfl) ?_
        refine WL.nil (WX.then_normal ?_)
        refine WC.ret (WX.block_ret (WX.then_ret (WX.then_ret (WX.block_ret (WX.then_ret ?_)))))
        exact WX.ret1 rfl rfl ⟨rfl, false, rfl, H⟩
      · replace H := H.2 (nd_false b3)
        refine WC.skip (WX.block_normal (WX.then_normal ?_))
        refine WC.region ?_
        refine WL.y rfl (Yld.pure tab_ok rfl) ?_
        obtain ⟨h3, H⟩ := H
        refine WL.y rfl (Yld.add rfl rfl h3) ?_
        refine WL.y rfl (Yld.pure tab_ok rfl) ?_
        refine WL.nil ?_
        exact WX.roundF _ ⟨i + (1 : Int), rfl, rfl, H.1, rfl⟩ (by repeat (first | exact Sub.nil | refine Sub.cons rfl ?_)) H.2
    · replace H := H.2 (of_decide_eq_false b2)
      refine WC.exit (WX.then_exit (WX.then_exit (WX.block_same (WX.then_normal ?_))))
      refine WC.seq ?_
      refine WC.region ?_
      refine WL.y rfl (Yld.pure tab_ok rfl) ?_
      refine WL.nil (WX.then_normal ?_)
      refine WC.ret ?_
      exact WX.ret1 rfl rfl ⟨rfl, true, rfl, H⟩

set_option maxHeartbeats 8000000 in
theorem W_smithyref_AmongTexts {w : World} {l : List (List UInt8)} {A_l : Option Addr} {c_l : Nat} {s : List UInt8} {n_l : Nat} {K : Int → Prop} (hl : Rd vs w A_l c_l l) (hn_l : n_l = l.length) (H : M_smithyref_AmongTexts l s K) : Fn Tryd.prog 36 ⟨[.slice A_l n_l c_l, vs s]⟩ w (fun v w' => w = w' ∧ ∃ (r : Int), v = .int .i64 r ∧ K r) := by
  subst hn_l
  unfold M_smithyref_AmongTexts at H
  refine Fn.enter (by kernel_rfl) Tryd.func36 rfl Tryd.ntmps36 rfl ?_
  replace H := H (Nat.le_trans hl.cap hl.max)
  refine WC.seq ?_
  refine WC.region ?_
  refine WL.y rfl (Yld.pure tab_ok rfl) ?_
  refine WL.nil (WX.then_normal ?_)
  refine WC.seq ?_
  refine WC.seq ?_
  refine WC.region ?_
  refine WL.y rfl (Yld.pure tab_ok rfl) ?_
  refine WL.nil (WX.then_normal ?_)
  refine WC.block ?_
  obtain ⟨I1, mu1, h0_1, HR1⟩ := H
  refine WC.loopF (fun n' L' w' => ∃ (i : Int), n' = mu1 i ∧ L' = [(0, .slice A_l l.length c_l), (1, vs s), (5, .int .i64 i)] ∧ I1 i ∧ w = w') _ _ ⟨(0 : Int), rfl, rfl, h0_1, rfl⟩ (by repeat (first | exact Sub.nil | refine Sub.cons rfl ?_)) ?_
  clear h0_1
  rintro _ _ _ ⟨i, rfl, rfl, hI1, rfl⟩
  have H := HR1 i hI1
  refine WC.seq ?_
  refine WC.seq ?_
  refine WC.region ?_
  refine WL.y rfl (Yld.pure tab_ok rfl) ?_
  refine WL.y rfl (Yld.pure tab_ok rfl) ?_
  refine WL.y rfl (Yld.pure tab_ok rfl) ?_
  refine WL.y rfl (Yld.pure tab_ok rfl) ?_
  refine WL.nil (WX.then_normal ?_)
  refine WC.cond rfl (fun b1 => ?_) (fun b1 => ?_)
  · replace H := H.1 (of_decide_eq_true b1)
    refine WC.skip (WX.then_normal ?_)
    refine WC.seq ?_
    refine WC.block ?_
    refine WC.seq ?_
    refine WC.region ?_
    refine WL.y rfl (Yld.pure tab_ok rfl) ?_
    refine WL.y rfl (Yld.pure tab_ok rfl) ?_
    obtain ⟨h1, H⟩ := H
    refine WL.y rfl (Yld.iaddrW tab_ok hl rfl rfl rfl rfl h1.1 h1.2) ?_
    refine WL.y rfl (Yld.iload [] tab_ok hl rfl rfl (iltN h1 rfl)) ?_
    refine WL.y rfl (Yld.pure tab_ok rfl) ?_
    refine WL.y rfl (Yld.pure tab_ok rfl) ?_
    refine WL.nil (WX.then_normal ?_)
    refine WC.cond rfl (fun b2 => ?_) (fun b2 => ?_)
    · replace H := H.1 (of_decide_eq_true b2)
      refine WC.seq ?_
      refine WC.region ?_
      refine WL.y rfl (Yld.pure tab_ok rfl) ?_
      refine WL.y rfl (Yld.pure tab_ok rfl) ?_
      refine WL.nil (WX.then_normal ?_)
      refine WC.ret (WX.block_ret (WX.then_ret (WX.then_ret (WX.block_ret (WX.then_ret ?_)))))
      exact WX.ret1 rfl rfl ⟨rfl, i, rfl, H⟩
    · replace H := H.2 (of_decide_eq_false b2)
      refine WC.skip (WX.block_normal (WX.then_normal ?_))
      refine WC.region ?_
      refine WL.y rfl (Yld.pure tab_ok rfl) ?_
      obtain ⟨h2, H⟩ := H
      refine WL.y rfl (Yld.add rfl rfl h2) ?_
      refine WL.y rfl (Yld.pure tab_ok rfl) ?_
      refine WL.nil ?_
      exact WX.roundF _ ⟨i + (1 : Int), rfl, rfl, H.1, rfl⟩ (by repeat (first | exact Sub.nil | refine Sub.cons rfl ?_)) H.2
  · replace H := H.2 (of_decide_eq_false b1)
    refine WC.exit (WX.then_exit (WX.then_exit (WX.block_same (WX.then_normal ?_))))
    refine WC.seq ?_
    refine WC.region ?_
    refine WL.y rfl (Yld.pure tab_ok rfl) ?_
    refine WL.nil (WX.then_normal ?_)
    refine WC.ret ?_
    exact WX.ret1 rfl rfl ⟨rfl, (-1 : Int), rfl, H⟩

set_option maxHeartbeats 8000000 in
theorem W_path_one {S : List Nat} {w : World} {pats : List (List UInt8)} {A_pats : Option Addr} {c_pats : Nat} {p : List UInt8} {n_pats : Nat} {K : Bool → Prop} (hG : GOK S w) (hS11 : 11 ∈ S) (hS100 : 100 ∈ S) (hpats : Rd vs w A_pats c_pats pats) (hn_pats : n_pats = pats.length) (H : M_path_one pats p K) : Fn Tryd.prog 90 ⟨[.slice A_pats n_pats c_pats, vs p]⟩ w (fun v w' => w.grownBy w' none ∧ ∃ (r : Bool), v = .bool r ∧ K r) := by
  subst hn_pats
  unfold M_path_one at H
  refine Fn.enter (by kernel_rfl) Tryd.func90 rfl Tryd.ntmps90 rfl ?_
  replace H := H (Nat.le_trans hpats.cap hpats.max)
  refine WC.seq ?_
  refine WC.region ?_
  refine WL.y rfl (Yld.pure tab_ok rfl) ?_
  refine WL.nil (WX.then_normal ?_)
  refine WC.seq ?_
  refine WC.seq ?_
  refine WC.region ?_
  refine WL.y rfl (Yld.pure tab_ok rfl) ?_
  refine WL.y rfl (Yld.pure tab_ok rfl) ?_
  refine WL.y rfl (Yld.pure tab_ok rfl) ?_
  refine WL.nil (WX.then_normal ?_)
  refine WC.block ?_
  obtain ⟨I1, mu1, h0_1, HR1⟩ := H
  refine WC.loopF (fun n' L' w' => ∃ (t11 : Int), n' = mu1 t11 ∧ L' = [(1, vs p), (9, .slice A_pats pats.length c_pats), (10, .int .i64 (pats.length : Int)), (11, .int .i64 t11)] ∧ I1 t11 ∧ w.grownBy w' none) _ _ ⟨(0 : Int), rfl, rfl, h0_1, (gr_refl _ _)⟩ (by repeat (first | exact Sub.nil | refine Sub.cons rfl ?_)) ?_
  clear h0_1
  rintro _ _ w1 ⟨t11, rfl, rfl, hI1, gr1⟩
  have H := HR1 t11 hI1
  refine WC.seq ?_
  refine WC.region ?_
  refine WL.y rfl (Yld.pure tab_ok rfl) ?_
  refine WL.nil (WX.then_normal ?_)
  refine WC.seq ?_
  refine WC.cond rfl (fun b1 => ?_) (fun b1 => ?_)
  · replace H := H.1 (of_decide_eq_true b1)
    refine WC.skip (WX.then_normal ?_)
    refine WC.seq ?_
    refine WC.block ?_
    refine WC.seq ?_
    refine WC.region ?_
    obtain ⟨h1, H⟩ := H
    refine WL.y rfl (Yld.iaddrW tab_ok (hpats.grown gr1) rfl rfl rfl rfl h1.1 h1.2) ?_
    refine WL.y rfl (Yld.iload [] tab_ok (hpats.grown gr1) rfl rfl (iltN h1 rfl)) ?_
    refine WL.y rfl (Yld.pure tab_ok rfl) ?_
    refine WL.nil (WX.then_normal ?_)
    refine WC.seq ?_
    refine WC.region ?_
    refine WL.y rfl (Yld.pure tab_ok rfl) ?_
    refine WL.y rfl (Yld.pure tab_ok rfl) ?_
    refine WL.call rfl rfl (W_path_Match (hG.grown gr1) hS11 hS100 H) ?_
    rintro _ w2 ⟨hg1, t180, v_t181, t181, rfl, ht181, H⟩
    have gr2 := gr_trans gr1 hg1
    refine WL.y rfl (Yld.pure tab_ok rfl) ?_
    refine WL.y rfl (Yld.pure tab_ok rfl) ?_
    refine WL.y rfl (Yld.pure tab_ok rfl) ?_
    refine WL.y rfl (Yld.pure tab_ok rfl) ?_
    refine WL.y rfl (Yld.pure tab_ok rfl) ?_
    refine WL.nil (WX.then_normal ?_)
    refine WC.seq ?_
    refine WC.region ?_
    refine WL.y rfl (Yld.pure tab_ok rfl) ?_
    refine WL.nil (WX.then_normal ?_)
    refine WC.cond rfl (fun b2 => ?_) (fun b2 => ?_)
    · replace H := H.1 (b2)
      refine WC.seq ?_
      refine WC.region ?_
      refine WL.y rfl (Yld.pure tab_ok rfl) ?_
      refine WL.nil (WX.then_normal ?_)
      refine WC.ret (WX.block_ret (WX.then_ret (WX.then_ret (WX.block_ret (WX.then_ret ?_)))))
      exact WX.ret1 rfl rfl ⟨gr2, true, rfl, H⟩
    · replace H := H.2 (b2)
      refine WC.skip (WX.block_normal (WX.then_normal ?_))
      refine WC.region ?_
      obtain ⟨h2, H⟩ := H
      refine WL.y rfl (Yld.add rfl rfl h2) ?_
      refine WL.y rfl (Yld.pure tab_ok rfl) ?_
      refine WL.nil ?_
      exact WX.roundF _ ⟨t11 + (1 : Int), rfl, rfl, H.1, gr2⟩ (by repeat (first | exact Sub.nil | refine Sub.cons rfl ?_)) H.2
  · replace H := H.2 (of_decide_eq_false b1)
    refine WC.exit (WX.then_exit (WX.then_exit (WX.block_same (WX.then_normal ?_))))
    refine WC.seq ?_
    refine WC.region ?_
    refine WL.y rfl (Yld.pure tab_ok rfl) ?_
    refine WL.nil (WX.then_normal ?_)
    refine WC.ret ?_
    exact WX.ret1 rfl rfl ⟨gr1, false, rfl, H⟩

set_option maxHeartbeats 8000000 in
theorem W_path_Glob {S : List Nat} {w : World} {patterns : List (List UInt8)} {A_patterns : Option Addr} {c_patterns : Nat} {but : List (List UInt8)} {A_but : Option Addr} {c_but : Nat} {paths : List (List UInt8)} {A_paths : Option Addr} {c_paths : Nat} {n_patterns : Nat} {n_but : Nat} {n_paths : Nat} {K : (List (List UInt8)) → Er → Prop} (hG : GOK S w) (hS11 : 11 ∈ S) (hS100 : 100 ∈ S) (hpatterns : Rd vs w A_patterns c_patterns patterns) (hn_patterns : n_patterns = patterns.length) (hbut : Rd vs w A_but c_but but) (hn_but : n_but = but.length) (hpaths : Rd vs w A_paths c_paths paths) (hn_paths : n_paths = paths.length) (H : M_path_Glob patterns but paths K) : Fn Tryd.prog 55 ⟨[.slice A_patterns n_patterns c_patterns, .slice A_but n_but c_but, .slice A_paths n_paths c_paths]⟩ w (fun v w' => w.grownBy w' none ∧ ∃ (r0 : List (List UInt8)), ∃ (A_r0 : Option Addr), ∃ (c_r0 : Nat), ∃ (v_r1 : Value), ∃ (r1 : Er), v = .tuple #[.slice A_r0 r0.length c_r0, v_r1] ∧ Own vs w' w.heap.size 9 A_r0 c_r0 r0 ∧ ErrR S w' v_r1 r1 ∧ K r0 r1) := by
  subst hn_patterns
  subst hn_but
  subst hn_paths
  unfold M_path_Glob at H
  refine Fn.enter (by kernel_rfl) Tryd.func55 rfl Tryd.ntmps55 rfl ?_
  replace H := H (Nat.le_trans hpatterns.cap hpatterns.max)
  replace H := H (Nat.le_trans hbut.cap hbut.max)
  replace H := H (Nat.le_trans hpaths.cap hpaths.max)
  refine WC.seq ?_
  refine WC.region ?_
  refine WL.y rfl (Yld.pure tab_ok rfl) ?_
  refine WL.y rfl (Yld.pure tab_ok rfl) ?_
  refine WL.nil (WX.then_normal ?_)
  refine WC.seq ?_
  refine WC.seq ?_
  refine WC.region ?_
  refine WL.y rfl (Yld.pure tab_ok rfl) ?_
  refine WL.y rfl (Yld.pure tab_ok rfl) ?_
  refine WL.lit (us := [.slice A_patterns patterns.length c_patterns, .slice A_but but.length c_but]) tab_ok rfl rfl rfl (all1c rfl (all1c rfl all1n)) rfl (by omega) (fun g1 w1 hB1 hg1 hl1 => ?_)
  have gr1 := hg1
  refine WL.call rfl rfl (W_slices_Concat_string_string_2 (hpatterns.grown gr1) rfl (hbut.grown gr1) rfl hB1 H) ?_
  rintro _ w2 ⟨hg2, t18, A_t18, c_t18, rfl, ht18, H⟩
  have hb1 := ht18.ge'
  have k1 := ht18.base (fun g hg => Nat.le_trans (size_le gr1) (hb1 g hg))
  have gr2 := gr_trans gr1 hg2
  refine WL.y rfl (Yld.pure tab_ok rfl) ?_
  refine WL.y rfl (Yld.pure tab_ok rfl) ?_
  refine WL.nil (WX.then_normal ?_)
  refine WC.block ?_
  obtain ⟨I1, mu1, h0_1, HR1⟩ := H
  refine WC.loopF (fun n' L' w' => ∃ (t20 : Int), n' = mu1 t20 ∧ L' = [(0, .slice A_patterns patterns.length c_patterns), (1, .slice A_but but.length c_but), (2, .slice A_paths paths.length c_paths), (18, .slice A_t18 t18.length c_t18), (19, .int .i64 (t18.length : Int)), (20, .int .i64 t20)] ∧ I1 t20 ∧ w.grownBy w' none ∧ Own vs w' w.heap.size 9 A_t18 c_t18 t18) _ _ ⟨(0 : Int), rfl, rfl, h0_1, gr2, k1⟩ (by repeat (first | exact Sub.nil | refine Sub.cons rfl ?_)) ?_
  clear h0_1
  rintro _ _ w3 ⟨t20, rfl, rfl, hI1, gr3, k2⟩
  have H := HR1 t20 hI1
  refine WC.seq ?_
  refine WC.region ?_
  refine WL.y rfl (Yld.pure tab_ok rfl) ?_
  refine WL.nil (WX.then_normal ?_)
  refine WC.seq ?_
  refine WC.cond rfl (fun b1 => ?_) (fun b1 => ?_)
  · replace H := H.1 (of_decide_eq_true b1)
    refine WC.skip (WX.then_normal ?_)
    refine WC.seq ?_
    refine WC.block ?_
    refine WC.seq ?_
    refine WC.region ?_
    refine WL.y rfl (Yld.pure tab_ok rfl) ?_
    obtain ⟨h1, H⟩ := H
    refine WL.y rfl (Yld.iaddrW tab_ok k2.rd rfl rfl rfl rfl h1.1 h1.2) ?_
    refine WL.y rfl (Yld.iload [] tab_ok k2.rd rfl rfl (iltN h1 rfl)) ?_
    refine WL.y rfl (Yld.pure tab_ok rfl) ?_
    refine WL.y rfl (Yld.pure tab_ok rfl) ?_
    refine WL.nil (WX.then_normal ?_)
    refine WC.seq ?_
    refine WC.region ?_
    refine WL.y rfl (Yld.pure tab_ok rfl) ?_
    refine WL.call rfl rfl (W_path_Match (hG.grown gr3) hS11 hS100 H) ?_
    rintro _ w4 ⟨hg3, t270, v_t271, t271, rfl, ht271, H⟩
    have gr4 := gr_trans gr3 hg3
    have k3 := k2.grown hg3
    refine WL.y rfl (Yld.pure tab_ok rfl) ?_
    refine WL.y rfl (Yld.pure tab_ok rfl) ?_
    refine WL.y rfl (Yld.pure tab_ok rfl) ?_
    refine WL.y rfl (Yld.pure tab_ok rfl) ?_
    refine WL.y rfl (Yld.pure tab_ok rfl) ?_
    refine WL.nil (WX.then_normal ?_)
    refine WC.seq ?_
    refine WC.region ?_
    refine WL.y rfl (Yld.pure tab_ok rfl) ?_
    refine WL.y rfl (Yld.errneq Tryd.underlying30 ht271 rfl) ?_
    refine WL.nil (WX.then_normal ?_)
    refine WC.cond rfl (fun b2 => ?_) (fun b2 => ?_)
    · replace H := H.1 (nd_true b2)
      refine WC.seq ?_
      refine WC.region ?_
      refine WL.y rfl (Yld.pure tab_ok rfl) ?_
      refine WL.y rfl (Yld.pure tab_ok rfl) ?_
      refine WL.y rfl (Yld.struct (us := [.int .i64 t20, v_t271]) (vs := [(0, .int .i64 t20), (1, v_t271)]) zero85 places85 rfl (by simp only [fillL, cells1 (ErrR.one ht271)]; rfl)) ?_
      refine WL.box (us := [.int .i64 t20, v_t271]) rfl rfl rfl (fun g2 w5 hB2 hg4 hl2 => ?_)
      have gr5 := gr_trans gr4 hg4
      have k4 := ht271.grown hg4
      obtain ⟨n, he1, H⟩ := H
      have hE1 := ErrR.mkAt hB2 (he1 ▸ k4)
      refine WL.y rfl (Yld.mki Tryd.underlying83 rfl rfl) ?_
      refine WL.y rfl (Yld.pure tab_ok rfl) ?_
      refine WL.y rfl (Yld.pure tab_ok rfl) ?_
      refine WL.nil (WX.then_normal ?_)
      refine WC.ret (WX.block_ret (WX.then_ret (WX.then_ret (WX.block_ret (WX.then_ret ?_)))))
      exact WX.ret2 rfl rfl rfl ⟨gr5, [], none, 0, (.iface 83 (.pointer (some ⟨g2, 0, none⟩))), (Er.at_ t20 n), rfl, (Own.nil vs w5 w.heap.size 9), hE1, H⟩
    · replace H := H.2 (nd_false b2)
      refine WC.skip (WX.block_normal (WX.then_normal ?_))
      refine WC.region ?_
      obtain ⟨h2, H⟩ := H
      refine WL.y rfl (Yld.add rfl rfl h2) ?_
      refine WL.y rfl (Yld.pure tab_ok rfl) ?_
      refine WL.nil ?_
      exact WX.roundF _ ⟨t20 + (1 : Int), rfl, rfl, H.1, gr4, k3⟩ (by repeat (first | exact Sub.nil | refine Sub.cons rfl ?_)) H.2
  · replace H := H.2 (of_decide_eq_false b1)
    refine WC.exit (WX.then_exit (WX.then_exit (WX.block_same (WX.then_normal ?_))))
    refine WC.seq ?_
    refine WC.region ?_
    refine WL.y rfl (Yld.pure tab_ok rfl) ?_
    refine WL.nil (WX.then_normal ?_)
    refine WC.seq ?_
    refine WC.seq ?_
    refine WC.region ?_
    refine WL.y rfl (Yld.pure tab_ok rfl) ?_
    refine WL.y rfl (Yld.pure tab_ok rfl) ?_
    refine WL.y rfl (Yld.pure tab_ok rfl) ?_
    refine WL.nil (WX.then_normal ?_)
    refine WC.block ?_
    obtain ⟨I2, mu2, h0_2, HR2⟩ := H
    refine WC.loopF (fun n' L' w' => ∃ (out : List (List UInt8)), ∃ (A_out : Option Addr), ∃ (c_out : Nat), ∃ (n_out : Nat), ∃ (t40 : Int), n' = mu2 out t40 ∧ L' = [(0, .slice A_patterns patterns.length c_patterns), (1, .slice A_but but.length c_but), (12, .slice A_out n_out c_out), (38, .slice A_paths paths.length c_paths), (39, .int .i64 (paths.length : Int)), (40, .int .i64 t40)] ∧ I2 out t40 ∧ n_out = out.length ∧ w.grownBy w' none ∧ Own vs w' w.heap.size 9 A_out c_out out) _ _ ⟨[], none, 0, 0, (0 : Int), rfl, rfl, h0_2, rfl, gr3, (Own.nil vs w3 w.heap.size 9)⟩ (by repeat (first | exact Sub.nil | refine Sub.cons rfl ?_)) ?_
    clear h0_2
    rintro _ _ w6 ⟨out, A_out, c_out, n_out, t40, rfl, rfl, hI2, rfl, gr6, k5⟩
    have H := HR2 out t40 hI2
    refine WC.seq ?_
    refine WC.region ?_
    refine WL.y rfl (Yld.pure tab_ok rfl) ?_
    refine WL.nil (WX.then_normal ?_)
    refine WC.seq ?_
    refine WC.cond rfl (fun b3 => ?_) (fun b3 => ?_)
    · replace H := H.1 (of_decide_eq_true b3)
      refine WC.skip (WX.then_normal ?_)
      refine WC.seq ?_
      obtain ⟨J1, H, hJ1⟩ := H
      refine WC.midF (fun L' w' => ∃ (out2 : List (List UInt8)), ∃ (A_out2 : Option Addr), ∃ (c_out2 : Nat), ∃ (n_out2 : Nat), L' = [(0, .slice A_patterns patterns.length c_patterns), (1, .slice A_but but.length c_but), (12, .slice A_out2 n_out2 c_out2), (38, .slice A_paths paths.length c_paths), (39, .int .i64 (paths.length : Int)), (40, .int .i64 t40)] ∧ J1 out2 ∧ n_out2 = out2.length ∧ w.grownBy w' none ∧ Own vs w' w.heap.size 9 A_out2 c_out2 out2) ?_ (fun hQ => ?_)
      · clear H
        rintro _ w7 ⟨out2, A_out2, c_out2, n_out2, rfl, H, rfl, gr7, k6⟩
        replace H := hJ1 out2 H
        refine WX.then_normal ?_
        refine WC.region ?_
        obtain ⟨h3, H⟩ := H
        refine WL.y rfl (Yld.add rfl rfl h3) ?_
        refine WL.y rfl (Yld.pure tab_ok rfl) ?_
        refine WL.nil ?_
        exact WX.roundF _ ⟨out2, A_out2, c_out2, out2.length, t40 + (1 : Int), rfl, rfl, H.1, rfl, gr7, k6⟩ (by repeat (first | exact Sub.nil | refine Sub.cons rfl ?_)) H.2
      · clear hJ1
        refine WC.block ?_
        refine WC.seq ?_
        refine WC.region ?_
        obtain ⟨h4, H⟩ := H
        refine WL.y rfl (Yld.iaddrW tab_ok (hpaths.grown gr6) rfl rfl rfl rfl h4.1 h4.2) ?_
        refine WL.y rfl (Yld.iload [] tab_ok (hpaths.grown gr6) rfl rfl (iltN h4 rfl)) ?_
        refine WL.y rfl (Yld.pure tab_ok rfl) ?_
        refine WL.nil (WX.then_normal ?_)
        refine WC.seq ?_
        refine WC.region ?_
        refine WL.y rfl (Yld.pure tab_ok rfl) ?_
        refine WL.y rfl (Yld.pure tab_ok rfl) ?_
        refine WL.call rfl rfl (W_path_one (hG.grown gr6) hS11 hS100 (hpatterns.grown gr6) rfl H) ?_
        rintro _ w8 ⟨hg5, t46, rfl, H⟩
        have gr8 := gr_trans gr6 hg5
        have k7 := k5.grown hg5
        refine WL.y rfl (Yld.pure tab_ok rfl) ?_
        obtain ⟨J2, H, hJ2⟩ := H
        refine WL.midF 5 (fun L' w' => ∃ q1 : Bool, L' = [(52, .bool q1), (0, .slice A_patterns patterns.length c_patterns), (1, .slice A_but but.length c_but), (12, .slice A_out out.length c_out), (14, vs (paths.getD t40.toNat [])), (38, .slice A_paths paths.length c_paths), (39, .int .i64 (paths.length : Int)), (40, .int .i64 t40)] ∧ J2 q1 ∧ w.grownBy w' none ∧ Own vs w' w.heap.size 9 A_out c_out out) ?_ (fun hQ => ?_)
        · clear H
          rintro _ w9 ⟨q1, rfl, H, gr9, k8⟩
          replace H := hJ2 q1 H
          refine WL.nil (WX.then_normal ?_)
          refine WC.cond rfl (fun b4 => ?_) (fun b4 => ?_)
          · replace H := H.1 (b4)
            refine WC.region ?_
            refine WL.y rfl (Yld.pure tab_ok rfl) ?_
            refine WL.y rfl (Yld.pure tab_ok rfl) ?_
            refine WL.lit tab_ok rfl rfl rfl (all1c rfl all1n) rfl (by omega) (fun g3 w10 hB3 hg6 hl3 => ?_)
            have hO2 : Own vs w10 w.heap.size 9 (some ⟨g3, 0, none⟩) 1 ([paths.getD t40.toNat []] : List (List UInt8)) := Own.ofBl hB3 (Nat.le_trans (size_le gr9) hl3) (by simp [maxLen]) rfl
            have gr10 := gr_trans gr9 hg6
            have k9 := k8.grown hg6
            obtain ⟨h5, H⟩ := H
            refine WL.append tab_ok rfl rfl One.s k9 rfl rfl hO2.rd rfl rfl h5 (applen h5) (size_le gr10) (fun A_out3 c_out3 w11 hO3 hg7 hk1 => ?_)
            have gr11 := gr_mod gr10 hg7 k9.ge'
            refine WL.y rfl (Yld.pure tab_ok rfl) ?_
            refine WL.nil (WX.block_normal ?_)
            exact WX.weaken (by repeat (first | exact Sub.nil | refine Sub.cons rfl ?_)) (hQ _ _ ⟨out ++ ([paths.getD t40.toNat []] : List (List UInt8)), A_out3, c_out3, (out ++ ([paths.getD t40.toNat []] : List (List UInt8))).length, rfl, H, rfl, gr11, hO3⟩)
          · replace H := H.2 (b4)
            refine WC.skip (WX.block_normal ?_)
            exact WX.weaken (by repeat (first | exact Sub.nil | refine Sub.cons rfl ?_)) (hQ _ _ ⟨out, A_out, c_out, out.length, rfl, H, rfl, gr9, k8⟩)
        · clear hJ2
          rcases Bool.eq_false_or_eq_true (t46) with b5 | b5
          · replace H := H.1 b5
            refine WL.gyes rfl rfl (okb b5) rfl (Yld.pure tab_ok rfl) ?_
            refine WL.gyes rfl rfl (okb b5) rfl (Yld.pure tab_ok rfl) ?_
            refine WL.callw (wants_some rfl rfl (okb b5)) rfl rfl (W_path_one (hG.grown gr8) hS11 hS100 (hbut.grown gr8) rfl H) ?_
            rintro _ w12 ⟨hg8, t50, rfl, H⟩
            have gr12 := gr_trans gr8 hg8
            have k10 := k7.grown hg8
            refine WL.gyes rfl rfl (okb b5) rfl (Yld.pure tab_ok rfl) ?_
            refine WL.y rfl (Yld.pickT (okb b5) rfl) ?_
            exact WL.weaken (by repeat (first | exact Sub.nil | refine Sub.cons rfl ?_)) (hQ _ _ ⟨!t50, rfl, H, gr12, k10⟩)
          · replace H := H.2 b5
            refine WL.gno rfl rfl (okb b5) rfl ?_
            refine WL.gno rfl rfl (okb b5) rfl ?_
            refine WL.gno rfl rfl (okb b5) rfl ?_
            refine WL.gno rfl rfl (okb b5) rfl ?_
            refine WL.y rfl (Yld.pickF (okb b5) rfl) ?_
            exact WL.weaken (by repeat (first | exact Sub.nil | refine Sub.cons rfl ?_)) (hQ _ _ ⟨false, rfl, H, gr8, k7⟩)
    · replace H := H.2 (of_decide_eq_false b3)
      refine WC.exit (WX.then_exit (WX.then_exit (WX.block_same (WX.then_normal ?_))))
      refine WC.seq ?_
      refine WC.region ?_
      refine WL.y rfl (Yld.pure tab_ok rfl) ?_
      refine WL.call rfl rfl (W_slices_Sort_string_string k5 rfl H) ?_
      rintro _ w13 ⟨ys, rfl, hO4, hg9, hl4, H⟩
      have gr13 := gr_mod gr6 hg9 k5.ge'
      refine WL.nil (WX.then_normal ?_)
      refine WC.seq ?_
      refine WC.region ?_
      refine WL.y rfl (Yld.pure tab_ok rfl) ?_
      refine WL.call rfl rfl (W_slices_Compact_string_string hO4 ((rfl : out.length = out.length).trans hl4.symm) H) ?_
      rintro _ w14 ⟨t6, rfl, hO5, hg10, H⟩
      have gr14 := gr_mod gr13 hg10 hO4.ge'
      refine WL.y rfl (Yld.pure tab_ok rfl) ?_
      refine WL.y rfl (Yld.pure tab_ok rfl) ?_
      refine WL.nil (WX.then_normal ?_)
      refine WC.ret ?_
      exact WX.ret2 rfl rfl rfl ⟨gr14, t6, A_out, c_out, .nilIface, Er.ok, rfl, hO5, (ErrR.okR (S := S) (w := w14)), H⟩

set_option maxHeartbeats 8000000 in
theorem W_smithyref1_Pattern {w : World} {s : List UInt8} {K : Bool → Prop} (H : M_smithyref1_Pattern s K) : Fn Tryd.prog 53 ⟨[vs s]⟩ w (fun v w' => w.grownBy w' none ∧ ∃ (r : Bool), v = .bool r ∧ K r) := by
  unfold M_smithyref1_Pattern at H
  refine Fn.enter (by kernel_rfl) Tryd.func53 rfl Tryd.ntmps53 rfl ?_
  refine WC.seq ?_
  refine WC.region ?_
  refine WL.y rfl (Yld.pure tab_ok rfl) ?_
  refine WL.nil (WX.then_normal ?_)
  refine WC.seq ?_
  refine WC.region ?_
  refine WL.y rfl (Yld.pure tab_ok rfl) ?_
  refine WL.call rfl rfl (W_smithyref1_Parts H) ?_
  rintro _ w1 ⟨hg1, l, A_l, c_l, rfl, hl, H⟩
  have hb1 := hl.ge'
  have k1 := hl.base (fun g hg => Nat.le_trans (Nat.le_refl _) (hb1 g hg))
  have gr1 := hg1
  refine WL.y rfl (Yld.pure tab_ok rfl) ?_
  refine WL.nil (WX.then_normal ?_)
  refine WC.seq ?_
  refine WC.seq ?_
  refine WC.region ?_
  refine WL.y rfl (Yld.pure tab_ok rfl) ?_
  refine WL.nil (WX.then_normal ?_)
  refine WC.block ?_
  obtain ⟨I1, mu1, h0_1, HR1⟩ := H
  refine WC.loopF (fun n' L' w' => ∃ (i : Int), n' = mu1 i ∧ L' = [(0, vs s), (3, .slice A_l l.length c_l), (4, .int .i64 i)] ∧ I1 i ∧ w1 = w') _ _ ⟨(0 : Int), rfl, rfl, h0_1, rfl⟩ (by repeat (first | exact Sub.nil | refine Sub.cons rfl ?_)) ?_
  clear h0_1
  rintro _ _ _ ⟨i, rfl, rfl, hI1, rfl⟩
  have H := HR1 i hI1
  refine WC.seq ?_
  refine WC.seq ?_
  refine WC.region ?_
  refine WL.y rfl (Yld.pure tab_ok rfl) ?_
  refine WL.y rfl (Yld.pure tab_ok rfl) ?_
  refine WL.y rfl (Yld.pure tab_ok rfl) ?_
  refine WL.y rfl (Yld.pure tab_ok rfl) ?_
  refine WL.nil (WX.then_normal ?_)
  refine WC.cond rfl (fun b1 => ?_) (fun b1 => ?_)
  · replace H := H.1 (of_decide_eq_true b1)
    refine WC.skip (WX.then_normal ?_)
    refine WC.seq ?_
    refine WC.block ?_
    refine WC.seq ?_
    refine WC.seq ?_
    refine WC.region ?_
    refine WL.y rfl (Yld.pure tab_ok rfl) ?_
    refine WL.y rfl (Yld.pure tab_ok rfl) ?_
    obtain ⟨h1, H⟩ := H
    refine WL.y rfl (Yld.iaddrW tab_ok k1.rd rfl rfl rfl rfl h1.1 h1.2) ?_
    refine WL.y rfl (Yld.iload [] tab_ok k1.rd rfl rfl (iltN h1 rfl)) ?_
    refine WL.call rfl rfl (W_smithyref1_part H) ?_
    rintro _ _ ⟨rfl, t18, rfl, H⟩
    refine WL.y rfl (Yld.pure tab_ok rfl) ?_
    refine WL.nil (WX.then_normal ?_)
    refine WC.cond rfl (fun b2 => ?_) (fun b2 => ?_)
    · replace H := H.1 (b2)
      refine WC.seq ?_
      refine WC.region ?_
      refine WL.y rfl (Yld.pure tab_ok rfl) ?_
      refine WL.nil (WX.then_normal ?_)
      refine WC.ret (WX.then_ret (WX.block_ret (WX.then_ret (WX.then_ret (WX.block_ret (WX.then_ret ?_))))))
      exact WX.ret1 rfl rfl ⟨gr1, false, rfl, H⟩
    · replace H := H.2 (b2)
      refine WC.skip (WX.then_normal ?_)
      refine WC.seq ?_
      refine WC.region ?_
      refine WL.y rfl (Yld.pure tab_ok rfl) ?_
      refine WL.nil (WX.then_normal ?_)
      refine WC.block ?_
      obtain ⟨I2, mu2, h0_2, HR2⟩ := H
      refine WC.loopF (fun n' L' w' => ∃ (k : Int), n' = mu2 k ∧ L' = [(0, vs s), (3, .slice A_l l.length c_l), (4, .int .i64 i), (5, .int .i64 k)] ∧ I2 k ∧ w1 = w') _ _ ⟨(0 : Int), rfl, rfl, h0_2, rfl⟩ (by repeat (first | exact Sub.nil | refine Sub.cons rfl ?_)) ?_
      clear h0_2
      rintro _ _ _ ⟨k, rfl, rfl, hI2, rfl⟩
      have H := HR2 k hI2
      refine WC.seq ?_
      refine WC.seq ?_
      refine WC.region ?_
      refine WL.y rfl (Yld.pure tab_ok rfl) ?_
      obtain ⟨h2, H⟩ := H
      refine WL.y rfl (Yld.add rfl rfl h2) ?_
      refine WL.y rfl (Yld.pure tab_ok rfl) ?_
      refine WL.y rfl (Yld.pure tab_ok rfl) ?_
      obtain ⟨h3, H⟩ := H
      refine WL.y rfl (Yld.iaddrW tab_ok k1.rd rfl rfl rfl rfl h3.1 h3.2) ?_
      refine WL.y rfl (Yld.iload [] tab_ok k1.rd rfl rfl (iltN h3 rfl)) ?_
      refine WL.y rfl (Yld.pure tab_ok rfl) ?_
      refine WL.y rfl (Yld.pure tab_ok rfl) ?_
      refine WL.nil (WX.then_normal ?_)
      refine WC.cond rfl (fun b3 => ?_) (fun b3 => ?_)
      · replace H := H.1 (of_decide_eq_true b3)
        refine WC.skip (WX.then_normal ?_)
        refine WC.seq ?_
        refine WC.block ?_
        refine WC.seq ?_
        refine WC.region ?_
        refine WL.y rfl (Yld.pure tab_ok rfl) ?_
        refine WL.y rfl (Yld.pure tab_ok rfl) ?_
        obtain ⟨h4, H⟩ := H
        refine WL.y rfl (Yld.iaddrW tab_ok k1.rd rfl rfl rfl rfl h4.1 h4.2) ?_
        refine WL.y rfl (Yld.iload [] tab_ok k1.rd rfl rfl (iltN h4 rfl)) ?_
        refine WL.y rfl (Yld.pure tab_ok rfl) ?_
        obtain ⟨h5, H⟩ := H
        refine WL.y rfl (Yld.sidx tab_ok rfl rfl rfl h5.1 h5.2) ?_
        refine WL.y rfl (Yld.pure tab_ok rfl) ?_
        refine WL.y rfl (Yld.pure tab_ok rfl) ?_
        obtain ⟨h6, H⟩ := H
        obtain ⟨h7, H⟩ := H
        obtain ⟨h8, H⟩ := H
        refine WL.midF 9 (fun L' w' => ∃ q1 : Bool, L' = [(46, .bool q1), (0, vs s), (3, .slice A_l l.length c_l), (4, .int .i64 i), (5, .int .i64 k)] ∧ q1 = ((decide ((((l.getD i.toNat []).getD k.toNat 0).toNat : Int) = (42 : Int))) && (decide ((((l.getD i.toNat []).getD (k + (1 : Int)).toNat 0).toNat : Int) = (42 : Int)))) ∧ w1 = w') ?_ (fun hQ => ?_)
        · rintro _ _ ⟨q1, rfl, rfl, rfl⟩
          refine WL.y rfl (Yld.pure tab_ok rfl) ?_
          obtain ⟨h9, H⟩ := H
          refine WL.midF 6 (fun L' w' => ∃ q2 : Bool, L' = [(53, .bool q2), (0, vs s), (3, .slice A_l l.length c_l), (4, .int .i64 i), (5, .int .i64 k)] ∧ q2 = (((decide ((((l.getD i.toNat []).getD k.toNat 0).toNat : Int) = (42 : Int))) && (decide ((((l.getD i.toNat []).getD (k + (1 : Int)).toNat 0).toNat : Int) = (42 : Int)))) && (!decide ((l.getD i.toNat []) = ([42, 42] : List UInt8)))) ∧ w1 = w') ?_ (fun hQ => ?_)
          · rintro _ _ ⟨q2, rfl, rfl, rfl⟩
            refine WL.nil (WX.then_normal ?_)
            refine WC.cond rfl (fun b4 => ?_) (fun b4 => ?_)
            · replace H := H.1 (b4)
              refine WC.seq ?_
              refine WC.region ?_
              refine WL.y rfl (Yld.pure tab_ok rfl) ?_
              refine WL.nil (WX.then_normal ?_)
              refine WC.ret (WX.block_ret (WX.then_ret (WX.then_ret (WX.block_ret (WX.block_ret (WX.then_ret (WX.then_ret (WX.block_ret (WX.then_ret ?_)))))))))
              exact WX.ret1 rfl rfl ⟨gr1, false, rfl, H⟩
            · replace H := H.2 (b4)
              refine WC.skip (WX.block_normal (WX.then_normal ?_))
              refine WC.region ?_
              refine WL.y rfl (Yld.pure tab_ok rfl) ?_
              obtain ⟨h10, H⟩ := H
              refine WL.y rfl (Yld.add rfl rfl h10) ?_
              refine WL.y rfl (Yld.pure tab_ok rfl) ?_
              refine WL.nil ?_
              exact WX.roundF _ ⟨k + (1 : Int), rfl, rfl, H.1, rfl⟩ (by repeat (first | exact Sub.nil | refine Sub.cons rfl ?_)) H.2
          · clear H
            rcases Bool.eq_false_or_eq_true ((decide ((((l.getD i.toNat []).getD k.toNat 0).toNat : Int) = (42 : Int))) && (decide ((((l.getD i.toNat []).getD (k + (1 : Int)).toNat 0).toNat : Int) = (42 : Int)))) with b5 | b5
            · refine WL.gyes rfl rfl (okb b5) rfl (Yld.pure tab_ok rfl) ?_
              refine WL.gyes rfl rfl (okb b5) rfl (Yld.pure tab_ok rfl) ?_
              refine WL.gyes rfl rfl (okb b5) rfl (Yld.iaddrW tab_ok k1.rd rfl rfl rfl rfl (h9 b5).1 (h9 b5).2) ?_
              refine WL.gyes rfl rfl (okb b5) rfl (Yld.iload [] tab_ok k1.rd rfl rfl (iltN (h9 b5) rfl)) ?_
              refine WL.gyes rfl rfl (okb b5) rfl (Yld.pure tab_ok rfl) ?_
              refine WL.y rfl (Yld.pickT (okb b5) rfl) ?_
              exact WL.weaken (by repeat (first | exact Sub.nil | refine Sub.cons rfl ?_)) (hQ _ _ ⟨!decide ((l.getD i.toNat []) = ([42, 42] : List UInt8)), rfl, by rw [b5] <;> rfl, rfl⟩)
            · refine WL.gno rfl rfl (okb b5) rfl ?_
              refine WL.gno rfl rfl (okb b5) rfl ?_
              refine WL.gno rfl rfl (okb b5) rfl ?_
              refine WL.gno rfl rfl (okb b5) rfl ?_
              refine WL.gno rfl rfl (okb b5) rfl ?_
              refine WL.y rfl (Yld.pickF (okb b5) rfl) ?_
              exact WL.weaken (by repeat (first | exact Sub.nil | refine Sub.cons rfl ?_)) (hQ _ _ ⟨false, rfl, by rw [b5] <;> rfl, rfl⟩)
        · clear H
          rcases Bool.eq_false_or_eq_true (decide ((((l.getD i.toNat []).getD k.toNat 0).toNat : Int) = (42 : Int))) with b6 | b6
          · refine WL.gyes rfl rfl (okb b6) rfl (Yld.pure tab_ok rfl) ?_
            refine WL.gyes rfl rfl (okb b6) rfl (Yld.pure tab_ok rfl) ?_
            refine WL.gyes rfl rfl (okb b6) rfl (Yld.iaddrW tab_ok k1.rd rfl rfl rfl rfl (h6 b6).1 (h6 b6).2) ?_
            refine WL.gyes rfl rfl (okb b6) rfl (Yld.iload [] tab_ok k1.rd rfl rfl (iltN (h6 b6) rfl)) ?_
            refine WL.gyes rfl rfl (okb b6) rfl (Yld.pure tab_ok rfl) ?_
            refine WL.gyes rfl rfl (okb b6) rfl (Yld.add rfl rfl (h7 b6)) ?_
            refine WL.gyes rfl rfl (okb b6) rfl (Yld.sidx tab_ok rfl rfl rfl (h8 b6).1 (h8 b6).2) ?_
            refine WL.gyes rfl rfl (okb b6) rfl (Yld.pure tab_ok rfl) ?_
            refine WL.y rfl (Yld.pickT (okb b6) rfl) ?_
            exact WL.weaken (by repeat (first | exact Sub.nil | refine Sub.cons rfl ?_)) (hQ _ _ ⟨decide ((((l.getD i.toNat []).getD (k + (1 : Int)).toNat 0).toNat : Int) = (42 : Int)), rfl, by rw [b6] <;> rfl, rfl⟩)
          · refine WL.gno rfl rfl (okb b6) rfl ?_
            refine WL.gno rfl rfl (okb b6) rfl ?_
            refine WL.gno rfl rfl (okb b6) rfl ?_
            refine WL.gno rfl rfl (okb b6) rfl ?_
            refine WL.gno rfl rfl (okb b6) rfl ?_
            refine WL.gno rfl rfl (okb b6) rfl ?_
            refine WL.gno rfl rfl (okb b6) rfl ?_
            refine WL.gno rfl rfl (okb b6) rfl ?_
            refine WL.y rfl (Yld.pickF (okb b6) rfl) ?_
            exact WL.weaken (by repeat (first | exact Sub.nil | refine Sub.cons rfl ?_)) (hQ _ _ ⟨false, rfl, by rw [b6] <;> rfl, rfl⟩)
      · replace H := H.2 (of_decide_eq_false b3)
        refine WC.exit (WX.then_exit (WX.then_exit (WX.block_same (WX.block_normal (WX.then_normal ?_)))))
        refine WC.region ?_
        refine WL.y rfl (Yld.pure tab_ok rfl) ?_
        obtain ⟨h11, H⟩ := H
        refine WL.y rfl (Yld.add rfl rfl h11) ?_
        refine WL.y rfl (Yld.pure tab_ok rfl) ?_
        refine WL.nil ?_
        exact WX.roundF _ ⟨i + (1 : Int), rfl, rfl, H.1, rfl⟩ (by repeat (first | exact Sub.nil | refine Sub.cons rfl ?_)) H.2
  · replace H := H.2 (of_decide_eq_false b1)
    refine WC.exit (WX.then_exit (WX.then_exit (WX.block_same (WX.then_normal ?_))))
    refine WC.seq ?_
    refine WC.region ?_
    refine WL.y rfl (Yld.pure tab_ok rfl) ?_
    refine WL.y rfl (Yld.pure tab_ok rfl) ?_
    refine WL.y rfl (Yld.pure tab_ok rfl) ?_
    refine WL.y rfl (Yld.pure tab_ok rfl) ?_
    refine WL.nil (WX.then_normal ?_)
    refine WC.ret ?_
    exact WX.ret1 rfl rfl ⟨gr1, decide ((s.length : Int) ≤ (200 : Int)), rfl, H⟩

set_option maxHeartbeats 8000000 in
theorem W_smithyref1_one {w : World} {pattern : List UInt8} {s : List UInt8} {K : Bool → Prop} (H : M_smithyref1_one pattern s K) : Fn Tryd.prog 88 ⟨[vs pattern, vs s]⟩ w (fun v w' => w.grownBy w' none ∧ ∃ (r : Bool), v = .bool r ∧ K r) := by
  unfold M_smithyref1_one at H
  refine Fn.enter (by kernel_rfl) Tryd.func88 rfl Tryd.ntmps88 rfl ?_
  refine WC.seq ?_
  refine WC.region ?_
  refine WL.y rfl (Yld.pure tab_ok rfl) ?_
  refine WL.nil (WX.then_normal ?_)
  refine WC.seq ?_
  refine WC.region ?_
  refine WL.y rfl (Yld.pure tab_ok rfl) ?_
  refine WL.y rfl (Yld.pure tab_ok rfl) ?_
  obtain ⟨h1, H⟩ := H
  refine WL.y rfl (Yld.add rfl rfl h1) ?_
  obtain ⟨h2, H⟩ := H
  refine WL.makeZI (f := vB) (z := false) (B := w.heap.size) tab_ok rfl rfl zero4 rfl rfl h2.1 h2.2.1 h2.2.2 (Nat.le_refl _) (fun g1 w1 hO1 hg1 hl1 => ?_)
  have gr1 := hg1
  refine WL.y rfl (Yld.pure tab_ok rfl) ?_
  refine WL.nil (WX.then_normal ?_)
  refine WC.seq ?_
  refine WC.region ?_
  refine WL.y rfl (Yld.pure tab_ok rfl) ?_
  obtain ⟨h3, H⟩ := H
  refine WL.y rfl (Yld.iaddrW tab_ok hO1.rd rfl rfl ((List.length_replicate).symm) rfl h3.1 h3.2) ?_
  refine WL.ostore (v := true) one4 One.B hO1 rfl rfl (iltN h3 ((List.length_replicate).symm)) (fun w2 hO2 hg2 => ?_)
  have gr2 := gr_mod gr1 hg2 hO1.ge'
  refine WL.nil (WX.then_normal ?_)
  refine WC.seq ?_
  refine WC.seq ?_
  refine WC.region ?_
  refine WL.y rfl (Yld.pure tab_ok rfl) ?_
  refine WL.nil (WX.then_normal ?_)
  refine WC.block ?_
  obtain ⟨I1, mu1, h0_1, HR1⟩ := H
  refine WC.loopF (fun n' L' w' => ∃ (reach : List Bool), ∃ (A_reach : Option Addr), ∃ (c_reach : Nat), ∃ (n_reach : Nat), ∃ (i : Int), n' = mu1 reach i ∧ L' = [(0, vs pattern), (1, vs s), (5, .slice A_reach n_reach c_reach), (6, .int .i64 i)] ∧ I1 reach i ∧ n_reach = reach.length ∧ w.grownBy w' none ∧ Own vB w' w.heap.size 4 A_reach c_reach reach) _ _ ⟨(List.replicate ((s.length : Int) + (1 : Int)).toNat false).set 0 true, (some ⟨g1, 0, none⟩), ((s.length : Int) + (1 : Int)).toNat, ((s.length : Int) + (1 : Int)).toNat, (0 : Int), rfl, rfl, h0_1, (((List.length_replicate).symm).trans List.length_set.symm), gr2, hO2⟩ (by repeat (first | exact Sub.nil | refine Sub.cons rfl ?_)) ?_
  clear h0_1
  rintro _ _ w3 ⟨reach, A_reach, c_reach, n_reach, i, rfl, rfl, hI1, rfl, gr3, k1⟩
  have H := HR1 reach i hI1
  refine WC.seq ?_
  refine WC.seq ?_
  refine WC.region ?_
  refine WL.y rfl (Yld.pure tab_ok rfl) ?_
  refine WL.y rfl (Yld.pure tab_ok rfl) ?_
  refine WL.y rfl (Yld.pure tab_ok rfl) ?_
  refine WL.y rfl (Yld.pure tab_ok rfl) ?_
  refine WL.nil (WX.then_normal ?_)
  refine WC.cond rfl (fun b1 => ?_) (fun b1 => ?_)
  · replace H := H.1 (of_decide_eq_true b1)
    refine WC.skip (WX.then_normal ?_)
    refine WC.seq ?_
    refine WC.block ?_
    refine WC.seq ?_
    refine WC.region ?_
    refine WL.y rfl (Yld.pure tab_ok rfl) ?_
    refine WL.y rfl (Yld.pure tab_ok rfl) ?_
    obtain ⟨h4, H⟩ := H
    refine WL.y rfl (Yld.add rfl rfl h4) ?_
    obtain ⟨h5, H⟩ := H
    refine WL.makeZI (f := vB) (z := false) (B := w.heap.size) tab_ok rfl rfl zero4 rfl rfl h5.1 h5.2.1 h5.2.2 (size_le gr3) (fun g2 w4 hO3 hg3 hl2 => ?_)
    have gr4 := gr_trans gr3 hg3
    have k2 := k1.grown hg3
    refine WL.y rfl (Yld.pure tab_ok rfl) ?_
    refine WL.nil (WX.then_normal ?_)
    refine WC.seq ?_
    refine WC.seq ?_
    refine WC.region ?_
    refine WL.y rfl (Yld.pure tab_ok rfl) ?_
    refine WL.nil (WX.then_normal ?_)
    refine WC.block ?_
    obtain ⟨I2, mu2, h0_2, HR2⟩ := H
    refine WC.loopF (fun n' L' w' => ∃ (k : Int), ∃ (next : List Bool), n' = mu2 k next ∧ L' = [(0, vs pattern), (1, vs s), (5, .slice A_reach reach.length c_reach), (6, .int .i64 i), (7, .slice (some ⟨g2, 0, none⟩) (((s.length : Int) + (1 : Int)).toNat) (((s.length : Int) + (1 : Int)).toNat)), (8, .int .i64 k)] ∧ I2 k next ∧ ((s.length : Int) + (1 : Int)).toNat = next.length ∧ w.grownBy w' none ∧ Own vB w' w.heap.size 4 A_reach c_reach reach ∧ Own vB w' w.heap.size 4 (some ⟨g2, 0, none⟩) (((s.length : Int) + (1 : Int)).toNat) next ∧ Dj (blk A_reach) (blk (some ⟨g2, 0, none⟩))) _ _ ⟨(0 : Int), (List.replicate ((s.length : Int) + (1 : Int)).toNat false), rfl, rfl, h0_2, (List.length_replicate).symm, gr4, k2, hO3, (Dj.new k1.lt' (Ge.box hl2))⟩ (by repeat (first | exact Sub.nil | refine Sub.cons rfl ?_)) ?_
    clear h0_2
    rintro _ _ w5 ⟨k, next, rfl, rfl, hI2, hn_next, gr5, k3, k4, dj1⟩
    have H := HR2 k next hI2
    replace H := H hn_next
    refine WC.seq ?_
    refine WC.seq ?_
    refine WC.region ?_
    refine WL.y rfl (Yld.pure tab_ok rfl) ?_
    refine WL.y rfl (Yld.pure tab_ok rfl) ?_
    refine WL.y rfl (Yld.pure tab_ok rfl) ?_
    refine WL.y rfl (Yld.pure tab_ok rfl) ?_
    refine WL.nil (WX.then_normal ?_)
    refine WC.cond rfl (fun b2 => ?_) (fun b2 => ?_)
    · replace H := H.1 (of_decide_eq_true b2)
      refine WC.skip (WX.then_normal ?_)
      refine WC.seq ?_
      obtain ⟨J1, H, hJ1⟩ := H
      refine WC.midF (fun L' w' => ∃ (xs : List Bool), L' = [(0, vs pattern), (1, vs s), (5, .slice A_reach reach.length c_reach), (6, .int .i64 i), (7, .slice (some ⟨g2, 0, none⟩) (((s.length : Int) + (1 : Int)).toNat) (((s.length : Int) + (1 : Int)).toNat)), (8, .int .i64 k)] ∧ J1 xs ∧ ((s.length : Int) + (1 : Int)).toNat = xs.length ∧ w.grownBy w' none ∧ Own vB w' w.heap.size 4 A_reach c_reach reach ∧ Own vB w' w.heap.size 4 (some ⟨g2, 0, none⟩) (((s.length : Int) + (1 : Int)).toNat) xs ∧ Dj (blk A_reach) (blk (some ⟨g2, 0, none⟩))) ?_ (fun hQ => ?_)
      · clear H
        rintro _ w6 ⟨xs, rfl, H, hn_xs, gr6, k5, k6, dj2⟩
        replace H := hJ1 xs H
        replace H := H hn_xs
        refine WX.then_normal ?_
        refine WC.region ?_
        refine WL.y rfl (Yld.pure tab_ok rfl) ?_
        obtain ⟨h6, H⟩ := H
        refine WL.y rfl (Yld.add rfl rfl h6) ?_
        refine WL.y rfl (Yld.pure tab_ok rfl) ?_
        refine WL.nil ?_
        exact WX.roundF _ ⟨k + (1 : Int), xs, rfl, rfl, H.1, hn_xs, gr6, k5, k6, dj2⟩ (by repeat (first | exact Sub.nil | refine Sub.cons rfl ?_)) H.2
      · clear hJ1
        refine WC.block ?_
        refine WC.seq ?_
        refine WC.seq ?_
        refine WC.region ?_
        refine WL.y rfl (Yld.pure tab_ok rfl) ?_
        refine WL.y rfl (Yld.pure tab_ok rfl) ?_
        obtain ⟨h7, H⟩ := H
        refine WL.y rfl (Yld.iaddrW tab_ok k3.rd rfl rfl rfl rfl h7.1 h7.2) ?_
        refine WL.y rfl (Yld.iload false tab_ok k3.rd rfl rfl (iltN h7 rfl)) ?_
        refine WL.y rfl (Yld.pure tab_ok rfl) ?_
        refine WL.nil (WX.then_normal ?_)
        refine WC.cond rfl (fun b3 => ?_) (fun b3 => ?_)
        · replace H := H.1 (b3)
          refine WC.exit (WX.then_exit (WX.block_same ?_))
          exact WX.weaken (by repeat (first | exact Sub.nil | refine Sub.cons rfl ?_)) (hQ _ _ ⟨next, rfl, H, hn_next, gr5, k3, k4, dj1⟩)
        · replace H := H.2 (b3)
          refine WC.skip (WX.then_normal ?_)
          refine WC.seq ?_
          refine WC.region ?_
          refine WL.y rfl (Yld.pure tab_ok rfl) ?_
          refine WL.y rfl (Yld.pure tab_ok rfl) ?_
          obtain ⟨h8, H⟩ := H
          refine WL.y rfl (Yld.sidx tab_ok rfl rfl rfl h8.1 h8.2) ?_
          refine WL.y rfl (Yld.pure tab_ok rfl) ?_
          refine WL.nil (WX.then_normal ?_)
          refine WC.cond rfl (fun b4 => ?_) (fun b4 => ?_)
          · replace H := H.1 (of_decide_eq_true b4)
            refine WC.seq ?_
            refine WC.region ?_
            refine WL.y rfl (Yld.pure tab_ok rfl) ?_
            refine WL.y rfl (Yld.pure tab_ok rfl) ?_
            refine WL.nil (WX.then_normal ?_)
            refine WC.block ?_
            obtain ⟨I3, mu3, h0_3, HR3⟩ := H
            refine WC.loopF (fun n' L' w' => ∃ (j : Int), ∃ (next2 : List Bool), n' = mu3 j next2 ∧ L' = [(0, vs pattern), (1, vs s), (5, .slice A_reach reach.length c_reach), (6, .int .i64 i), (7, .slice (some ⟨g2, 0, none⟩) (((s.length : Int) + (1 : Int)).toNat) (((s.length : Int) + (1 : Int)).toNat)), (8, .int .i64 k), (9, .int .i64 j)] ∧ I3 j next2 ∧ ((s.length : Int) + (1 : Int)).toNat = next2.length ∧ w.grownBy w' none ∧ Own vB w' w.heap.size 4 A_reach c_reach reach ∧ Own vB w' w.heap.size 4 (some ⟨g2, 0, none⟩) (((s.length : Int) + (1 : Int)).toNat) next2 ∧ Dj (blk A_reach) (blk (some ⟨g2, 0, none⟩))) _ _ ⟨k, next, rfl, rfl, h0_3, hn_next, gr5, k3, k4, dj1⟩ (by repeat (first | exact Sub.nil | refine Sub.cons rfl ?_)) ?_
            clear h0_3
            rintro _ _ w7 ⟨j, next2, rfl, rfl, hI3, hn_next2, gr7, k7, k8, dj3⟩
            have H := HR3 j next2 hI3
            replace H := H hn_next2
            refine WC.seq ?_
            refine WC.seq ?_
            refine WC.region ?_
            refine WL.y rfl (Yld.pure tab_ok rfl) ?_
            refine WL.y rfl (Yld.pure tab_ok rfl) ?_
            refine WL.y rfl (Yld.pure tab_ok rfl) ?_
            refine WL.y rfl (Yld.pure tab_ok rfl) ?_
            refine WL.nil (WX.then_normal ?_)
            refine WC.cond rfl (fun b5 => ?_) (fun b5 => ?_)
            · replace H := H.1 (of_decide_eq_true b5)
              refine WC.skip (WX.then_normal ?_)
              refine WC.seq ?_
              refine WC.block ?_
              refine WC.region ?_
              refine WL.y rfl (Yld.pure tab_ok rfl) ?_
              refine WL.y rfl (Yld.pure tab_ok rfl) ?_
              obtain ⟨h9, H⟩ := H
              refine WL.y rfl (Yld.iaddrW tab_ok k8.rd rfl rfl hn_next2 rfl h9.1 h9.2) ?_
              refine WL.ostore (v := true) one4 One.B k8 rfl rfl (iltN h9 hn_next2) (fun w8 hO4 hg4 => ?_)
              have gr8 := gr_mod gr7 hg4 k8.ge'
              have k9 := k7.go hg4 dj3
              refine WL.nil (WX.block_normal (WX.then_normal ?_))
              refine WC.region ?_
              refine WL.y rfl (Yld.pure tab_ok rfl) ?_
              obtain ⟨h10, H⟩ := H
              refine WL.y rfl (Yld.add rfl rfl h10) ?_
              refine WL.y rfl (Yld.pure tab_ok rfl) ?_
              refine WL.nil ?_
              exact WX.roundF _ ⟨j + (1 : Int), next2.set j.toNat true, rfl, rfl, H.1, (hn_next2.trans List.length_set.symm), gr8, k9, hO4, dj3⟩ (by repeat (first | exact Sub.nil | refine Sub.cons rfl ?_)) H.2
            · replace H := H.2 (of_decide_eq_false b5)
              refine WC.exit (WX.then_exit (WX.then_exit (WX.block_same (WX.block_normal ?_))))
              exact WX.weaken (by repeat (first | exact Sub.nil | refine Sub.cons rfl ?_)) (hQ _ _ ⟨next2, rfl, H, hn_next2, gr7, k7, k8, dj3⟩)
          · replace H := H.2 (of_decide_eq_false b4)
            refine WC.seq ?_
            refine WC.quiet mixed (by kernel_rfl) ?_
            refine WQ.y rfl (Yld.pure tab_ok rfl) ?_
            refine WQ.y rfl (Yld.pure tab_ok rfl) ?_
            refine WQ.y rfl (Yld.pure tab_ok rfl) ?_
            refine WQ.y rfl (Yld.pure tab_ok rfl) ?_
            refine WQ.y rfl (Yld.pure tab_ok rfl) ?_
            obtain ⟨h11, H⟩ := H
            obtain ⟨h12, H⟩ := H
            refine WQ.midF 8 (fun L' w' => ∃ q1 : Bool, L' = [(63, .bool q1), (0, vs pattern), (1, vs s), (5, .slice A_reach reach.length c_reach), (6, .int .i64 i), (7, .slice (some ⟨g2, 0, none⟩) (((s.length : Int) + (1 : Int)).toNat) (((s.length : Int) + (1 : Int)).toNat)), (8, .int .i64 k)] ∧ q1 = ((decide (k < (s.length : Int))) && (decide (((s.getD k.toNat 0).toNat : Int) = ((pattern.getD i.toNat 0).toNat : Int)))) ∧ w5 = w') ?_ (fun hQ => ?_)
            · rintro _ _ ⟨q1, rfl, rfl, rfl⟩
              refine WQ.nil (WX.then_normal ?_)
              refine WC.cond rfl (fun b6 => ?_) (fun b6 => ?_)
              · replace H := H.1 (b6)
                refine WC.region ?_
                refine WL.y rfl (Yld.pure tab_ok rfl) ?_
                refine WL.y rfl (Yld.pure tab_ok rfl) ?_
                obtain ⟨h13, H⟩ := H
                refine WL.y rfl (Yld.add rfl rfl h13) ?_
                obtain ⟨h14, H⟩ := H
                refine WL.y rfl (Yld.iaddrW tab_ok k4.rd rfl rfl hn_next rfl h14.1 h14.2) ?_
                refine WL.ostore (v := true) one4 One.B k4 rfl rfl (iltN h14 hn_next) (fun w9 hO5 hg5 => ?_)
                have gr9 := gr_mod gr5 hg5 k4.ge'
                have k10 := k3.go hg5 dj1
                refine WL.nil (WX.block_normal ?_)
                exact WX.weaken (by repeat (first | exact Sub.nil | refine Sub.cons rfl ?_)) (hQ _ _ ⟨next.set ((k + (1 : Int)).toNat) true, rfl, H, (hn_next.trans List.length_set.symm), gr9, k10, hO5, dj1⟩)
              · replace H := H.2 (b6)
                refine WC.skip (WX.block_normal ?_)
                exact WX.weaken (by repeat (first | exact Sub.nil | refine Sub.cons rfl ?_)) (hQ _ _ ⟨next, rfl, H, hn_next, gr5, k3, k4, dj1⟩)
            · clear H
              rcases Bool.eq_false_or_eq_true (decide (k < (s.length : Int))) with b7 | b7
              · refine WQ.gyes rfl rfl (okb b7) rfl (Yld.pure tab_ok rfl) ?_
                refine WQ.gyes rfl rfl (okb b7) rfl (Yld.pure tab_ok rfl) ?_
                refine WQ.gyes rfl rfl (okb b7) rfl (Yld.sidx tab_ok rfl rfl rfl (h11 b7).1 (h11 b7).2) ?_
                refine WQ.gyes rfl rfl (okb b7) rfl (Yld.pure tab_ok rfl) ?_
                refine WQ.gyes rfl rfl (okb b7) rfl (Yld.pure tab_ok rfl) ?_
                refine WQ.gyes rfl rfl (okb b7) rfl (Yld.sidx tab_ok rfl rfl rfl (h12 b7).1 (h12 b7).2) ?_
                refine WQ.gyes rfl rfl (okb b7) rfl (Yld.pure tab_ok rfl) ?_
                refine WQ.y rfl (Yld.pickT (okb b7) rfl) ?_
                exact WQ.weaken (by repeat (first | exact Sub.nil | refine Sub.cons rfl ?_)) (hQ _ _ ⟨decide (((s.getD k.toNat 0).toNat : Int) = ((pattern.getD i.toNat 0).toNat : Int)), rfl, by rw [b7] <;> rfl, rfl⟩)
              · refine WQ.gno rfl rfl (okb b7) rfl ?_
                refine WQ.gno rfl rfl (okb b7) rfl ?_
                refine WQ.gno rfl rfl (okb b7) rfl ?_
                refine WQ.gno rfl rfl (okb b7) rfl ?_
                refine WQ.gno rfl rfl (okb b7) rfl ?_
                refine WQ.gno rfl rfl (okb b7) rfl ?_
                refine WQ.gno rfl rfl (okb b7) rfl ?_
                refine WQ.y rfl (Yld.pickF (okb b7) rfl) ?_
                exact WQ.weaken (by repeat (first | exact Sub.nil | refine Sub.cons rfl ?_)) (hQ _ _ ⟨false, rfl, by rw [b7] <;> rfl, rfl⟩)
    · replace H := H.2 (of_decide_eq_false b2)
      refine WC.exit (WX.then_exit (WX.then_exit (WX.block_same (WX.then_normal ?_))))
      refine WC.region ?_
      refine WL.y rfl (Yld.pure tab_ok rfl) ?_
      refine WL.y rfl (Yld.pure tab_ok rfl) ?_
      refine WL.nil (WX.block_normal (WX.then_normal ?_))
      refine WC.region ?_
      refine WL.y rfl (Yld.pure tab_ok rfl) ?_
      obtain ⟨h15, H⟩ := H
      refine WL.y rfl (Yld.add rfl rfl h15) ?_
      refine WL.y rfl (Yld.pure tab_ok rfl) ?_
      refine WL.nil ?_
      exact WX.roundF _ ⟨next, (some ⟨g2, 0, none⟩), ((s.length : Int) + (1 : Int)).toNat, ((s.length : Int) + (1 : Int)).toNat, i + (1 : Int), rfl, rfl, H.1, hn_next, gr5, k4⟩ (by repeat (first | exact Sub.nil | refine Sub.cons rfl ?_)) H.2
  · replace H := H.2 (of_decide_eq_false b1)
    refine WC.exit (WX.then_exit (WX.then_exit (WX.block_same (WX.then_normal ?_))))
    refine WC.seq ?_
    refine WC.region ?_
    refine WL.y rfl (Yld.pure tab_ok rfl) ?_
    refine WL.y rfl (Yld.pure tab_ok rfl) ?_
    refine WL.y rfl (Yld.pure tab_ok rfl) ?_
    obtain ⟨h16, H⟩ := H
    refine WL.y rfl (Yld.iaddrW tab_ok k1.rd rfl rfl rfl rfl h16.1 h16.2) ?_
    refine WL.y rfl (Yld.iload false tab_ok k1.rd rfl rfl (iltN h16 rfl)) ?_
    refine WL.y rfl (Yld.pure tab_ok rfl) ?_
    refine WL.nil (WX.then_normal ?_)
    refine WC.ret ?_
    exact WX.ret1 rfl rfl ⟨gr3, reach.getD ((s.length : Int).toNat) false, rfl, H⟩

set_option maxHeartbeats 8000000 in
theorem W_smithyref1_Match {w : World} {pattern : List UInt8} {p : List UInt8} {K : Bool → Prop} (H : M_smithyref1_Match pattern p K) : Fn Tryd.prog 54 ⟨[vs pattern, vs p]⟩ w (fun v w' => w.grownBy w' none ∧ ∃ (r : Bool), v = .bool r ∧ K r) := by
  unfold M_smithyref1_Match at H
  refine Fn.enter (by kernel_rfl) Tryd.func54 rfl Tryd.ntmps54 rfl ?_
  refine WC.seq ?_
  refine WC.region ?_
  refine WL.y rfl (Yld.pure tab_ok rfl) ?_
  refine WL.nil (WX.then_normal ?_)
  refine WC.seq ?_
  refine WC.region ?_
  refine WL.y rfl (Yld.pure tab_ok rfl) ?_
  refine WL.call rfl rfl (W_smithyref1_Parts H) ?_
  rintro _ w1 ⟨hg1, a, A_a, c_a, rfl, ha, H⟩
  have hb1 := ha.ge'
  have k1 := ha.base (fun g hg => Nat.le_trans (Nat.le_refl _) (hb1 g hg))
  have gr1 := hg1
  refine WL.y rfl (Yld.pure tab_ok rfl) ?_
  refine WL.nil (WX.then_normal ?_)
  refine WC.seq ?_
  refine WC.region ?_
  refine WL.y rfl (Yld.pure tab_ok rfl) ?_
  refine WL.call rfl rfl (W_smithyref1_Parts H) ?_
  rintro _ w2 ⟨hg2, b, A_b, c_b, rfl, hb, H⟩
  have hb2 := hb.ge'
  have k2 := hb.base (fun g hg => Nat.le_trans (size_le gr1) (hb2 g hg))
  have gr2 := gr_trans gr1 hg2
  have k3 := k1.grown hg2
  refine WL.y rfl (Yld.pure tab_ok rfl) ?_
  refine WL.nil (WX.then_normal ?_)
  refine WC.seq ?_
  refine WC.region ?_
  refine WL.y rfl (Yld.pure tab_ok rfl) ?_
  refine WL.y rfl (Yld.pure tab_ok rfl) ?_
  obtain ⟨h1, H⟩ := H
  refine WL.y rfl (Yld.add rfl rfl h1) ?_
  obtain ⟨h2, H⟩ := H
  refine WL.makeZI (f := vB) (z := false) (B := w.heap.size) tab_ok rfl rfl zero4 rfl rfl h2.1 h2.2.1 h2.2.2 (size_le gr2) (fun g1 w3 hO1 hg3 hl1 => ?_)
  have gr3 := gr_trans gr2 hg3
  have k4 := k3.grown hg3
  have k5 := k2.grown hg3
  refine WL.y rfl (Yld.pure tab_ok rfl) ?_
  refine WL.nil (WX.then_normal ?_)
  refine WC.seq ?_
  refine WC.region ?_
  refine WL.y rfl (Yld.pure tab_ok rfl) ?_
  obtain ⟨h3, H⟩ := H
  refine WL.y rfl (Yld.iaddrW tab_ok hO1.rd rfl rfl ((List.length_replicate).symm) rfl h3.1 h3.2) ?_
  refine WL.ostore (v := true) one4 One.B hO1 rfl rfl (iltN h3 ((List.length_replicate).symm)) (fun w4 hO2 hg4 => ?_)
  have gr4 := gr_mod gr3 hg4 hO1.ge'
  have k6 := k4.go hg4 (Dj.new k3.lt' (Ge.box hl1))
  have k7 := k5.go hg4 (Dj.new k2.lt' (Ge.box hl1))
  refine WL.nil (WX.then_normal ?_)
  refine WC.seq ?_
  refine WC.seq ?_
  refine WC.region ?_
  refine WL.y rfl (Yld.pure tab_ok rfl) ?_
  refine WL.nil (WX.then_normal ?_)
  refine WC.block ?_
  obtain ⟨I1, mu1, h0_1, HR1⟩ := H
  refine WC.loopF (fun n' L' w' => ∃ (reach : List Bool), ∃ (A_reach : Option Addr), ∃ (c_reach : Nat), ∃ (n_reach : Nat), ∃ (i : Int), n' = mu1 reach i ∧ L' = [(1, vs p), (5, .slice A_a a.length c_a), (6, .slice A_b b.length c_b), (7, .slice A_reach n_reach c_reach), (8, .int .i64 i)] ∧ I1 reach i ∧ n_reach = reach.length ∧ w.grownBy w' none ∧ Own vs w' w.heap.size 9 A_a c_a a ∧ Own vs w' w.heap.size 9 A_b c_b b ∧ Own vB w' w.heap.size 4 A_reach c_reach reach ∧ Dj (blk A_a) (blk A_b) ∧ Dj (blk A_a) (blk A_reach) ∧ Dj (blk A_b) (blk A_reach)) _ _ ⟨(List.replicate ((b.length : Int) + (1 : Int)).toNat false).set 0 true, (some ⟨g1, 0, none⟩), ((b.length : Int) + (1 : Int)).toNat, ((b.length : Int) + (1 : Int)).toNat, (0 : Int), rfl, rfl, h0_1, (((List.length_replicate).symm).trans List.length_set.symm), gr4, k6, k7, hO2, (Dj.new k1.lt' hb2), (Dj.new k3.lt' (Ge.box hl1)), (Dj.new k2.lt' (Ge.box hl1))⟩ (by repeat (first | exact Sub.nil | refine Sub.cons rfl ?_)) ?_
  clear h0_1
  rintro _ _ w5 ⟨reach, A_reach, c_reach, n_reach, i, rfl, rfl, hI1, rfl, gr5, k8, k9, k10, dj1, dj2, dj3⟩
  have H := HR1 reach i hI1
  refine WC.seq ?_
  refine WC.seq ?_
  refine WC.region ?_
  refine WL.y rfl (Yld.pure tab_ok rfl) ?_
  refine WL.y rfl (Yld.pure tab_ok rfl) ?_
  refine WL.y rfl (Yld.pure tab_ok rfl) ?_
  refine WL.y rfl (Yld.pure tab_ok rfl) ?_
  refine WL.nil (WX.then_normal ?_)
  refine WC.cond rfl (fun b1 => ?_) (fun b1 => ?_)
  · replace H := H.1 (of_decide_eq_true b1)
    refine WC.skip (WX.then_normal ?_)
    refine WC.seq ?_
    refine WC.block ?_
    refine WC.seq ?_
    refine WC.region ?_
    refine WL.y rfl (Yld.pure tab_ok rfl) ?_
    refine WL.y rfl (Yld.pure tab_ok rfl) ?_
    obtain ⟨h4, H⟩ := H
    refine WL.y rfl (Yld.add rfl rfl h4) ?_
    obtain ⟨h5, H⟩ := H
    refine WL.makeZI (f := vB) (z := false) (B := w.heap.size) tab_ok rfl rfl zero4 rfl rfl h5.1 h5.2.1 h5.2.2 (size_le gr5) (fun g2 w6 hO3 hg5 hl2 => ?_)
    have gr6 := gr_trans gr5 hg5
    have k11 := k8.grown hg5
    have k12 := k9.grown hg5
    have k13 := k10.grown hg5
    refine WL.y rfl (Yld.pure tab_ok rfl) ?_
    refine WL.nil (WX.then_normal ?_)
    refine WC.seq ?_
    refine WC.seq ?_
    refine WC.region ?_
    refine WL.y rfl (Yld.pure tab_ok rfl) ?_
    refine WL.nil (WX.then_normal ?_)
    refine WC.block ?_
    obtain ⟨I2, mu2, h0_2, HR2⟩ := H
    refine WC.loopF (fun n' L' w' => ∃ (k : Int), ∃ (next : List Bool), n' = mu2 k next ∧ L' = [(1, vs p), (5, .slice A_a a.length c_a), (6, .slice A_b b.length c_b), (7, .slice A_reach reach.length c_reach), (8, .int .i64 i), (9, .slice (some ⟨g2, 0, none⟩) (((b.length : Int) + (1 : Int)).toNat) (((b.length : Int) + (1 : Int)).toNat)), (10, .int .i64 k)] ∧ I2 k next ∧ ((b.length : Int) + (1 : Int)).toNat = next.length ∧ w.grownBy w' none ∧ Own vs w' w.heap.size 9 A_a c_a a ∧ Own vs w' w.heap.size 9 A_b c_b b ∧ Own vB w' w.heap.size 4 A_reach c_reach reach ∧ Own vB w' w.heap.size 4 (some ⟨g2, 0, none⟩) (((b.length : Int) + (1 : Int)).toNat) next ∧ Dj (blk A_a) (blk A_b) ∧ Dj (blk A_a) (blk A_reach) ∧ Dj (blk A_a) (blk (some ⟨g2, 0, none⟩)) ∧ Dj (blk A_b) (blk A_reach) ∧ Dj (blk A_b) (blk (some ⟨g2, 0, none⟩)) ∧ Dj (blk A_reach) (blk (some ⟨g2, 0, none⟩))) _ _ ⟨(0 : Int), (List.replicate ((b.length : Int) + (1 : Int)).toNat false), rfl, rfl, h0_2, (List.length_replicate).symm, gr6, k11, k12, k13, hO3, dj1, dj2, (Dj.new k8.lt' (Ge.box hl2)), dj3, (Dj.new k9.lt' (Ge.box hl2)), (Dj.new k10.lt' (Ge.box hl2))⟩ (by repeat (first | exact Sub.nil | refine Sub.cons rfl ?_)) ?_
    clear h0_2
    rintro _ _ w7 ⟨k, next, rfl, rfl, hI2, hn_next, gr7, k14, k15, k16, k17, dj4, dj5, dj6, dj7, dj8, dj9⟩
    have H := HR2 k next hI2
    replace H := H hn_next
    refine WC.seq ?_
    refine WC.seq ?_
    refine WC.region ?_
    refine WL.y rfl (Yld.pure tab_ok rfl) ?_
    refine WL.y rfl (Yld.pure tab_ok rfl) ?_
    refine WL.y rfl (Yld.pure tab_ok rfl) ?_
    refine WL.y rfl (Yld.pure tab_ok rfl) ?_
    refine WL.nil (WX.then_normal ?_)
    refine WC.cond rfl (fun b2 => ?_) (fun b2 => ?_)
    · replace H := H.1 (of_decide_eq_true b2)
      refine WC.skip (WX.then_normal ?_)
      refine WC.seq ?_
      obtain ⟨J1, H, hJ1⟩ := H
      refine WC.midF (fun L' w' => ∃ (xs : List Bool), L' = [(1, vs p), (5, .slice A_a a.length c_a), (6, .slice A_b b.length c_b), (7, .slice A_reach reach.length c_reach), (8, .int .i64 i), (9, .slice (some ⟨g2, 0, none⟩) (((b.length : Int) + (1 : Int)).toNat) (((b.length : Int) + (1 : Int)).toNat)), (10, .int .i64 k)] ∧ J1 xs ∧ ((b.length : Int) + (1 : Int)).toNat = xs.length ∧ w.grownBy w' none ∧ Own vs w' w.heap.size 9 A_a c_a a ∧ Own vs w' w.heap.size 9 A_b c_b b ∧ Own vB w' w.heap.size 4 A_reach c_reach reach ∧ Own vB w' w.heap.size 4 (some ⟨g2, 0, none⟩) (((b.length : Int) + (1 : Int)).toNat) xs ∧ Dj (blk A_a) (blk A_b) ∧ Dj (blk A_a) (blk A_reach) ∧ Dj (blk A_a) (blk (some ⟨g2, 0, none⟩)) ∧ Dj (blk A_b) (blk A_reach) ∧ Dj (blk A_b) (blk (some ⟨g2, 0, none⟩)) ∧ Dj (blk A_reach) (blk (some ⟨g2, 0, none⟩))) ?_ (fun hQ => ?_)
      · clear H
        rintro _ w8 ⟨xs, rfl, H, hn_xs, gr8, k18, k19, k20, k21, dj10, dj11, dj12, dj13, dj14, dj15⟩
        replace H := hJ1 xs H
        replace H := H hn_xs
        refine WX.then_normal ?_
        refine WC.region ?_
        refine WL.y rfl (Yld.pure tab_ok rfl) ?_
        obtain ⟨h6, H⟩ := H
        refine WL.y rfl (Yld.add rfl rfl h6) ?_
        refine WL.y rfl (Yld.pure tab_ok rfl) ?_
        refine WL.nil ?_
        exact WX.roundF _ ⟨k + (1 : Int), xs, rfl, rfl, H.1, hn_xs, gr8, k18, k19, k20, k21, dj10, dj11, dj12, dj13, dj14, dj15⟩ (by repeat (first | exact Sub.nil | refine Sub.cons rfl ?_)) H.2
      · clear hJ1
        refine WC.block ?_
        refine WC.seq ?_
        refine WC.seq ?_
        refine WC.region ?_
        refine WL.y rfl (Yld.pure tab_ok rfl) ?_
        refine WL.y rfl (Yld.pure tab_ok rfl) ?_
        obtain ⟨h7, H⟩ := H
        refine WL.y rfl (Yld.iaddrW tab_ok k16.rd rfl rfl rfl rfl h7.1 h7.2) ?_
        refine WL.y rfl (Yld.iload false tab_ok k16.rd rfl rfl (iltN h7 rfl)) ?_
        refine WL.y rfl (Yld.pure tab_ok rfl) ?_
        refine WL.nil (WX.then_normal ?_)
        refine WC.cond rfl (fun b3 => ?_) (fun b3 => ?_)
        · replace H := H.1 (b3)
          refine WC.exit (WX.then_exit (WX.block_same ?_))
          exact WX.weaken (by repeat (first | exact Sub.nil | refine Sub.cons rfl ?_)) (hQ _ _ ⟨next, rfl, H, hn_next, gr7, k14, k15, k16, k17, dj4, dj5, dj6, dj7, dj8, dj9⟩)
        · replace H := H.2 (b3)
          refine WC.skip (WX.then_normal ?_)
          refine WC.seq ?_
          refine WC.region ?_
          refine WL.y rfl (Yld.pure tab_ok rfl) ?_
          refine WL.y rfl (Yld.pure tab_ok rfl) ?_
          obtain ⟨h8, H⟩ := H
          refine WL.y rfl (Yld.iaddrW tab_ok k14.rd rfl rfl rfl rfl h8.1 h8.2) ?_
          refine WL.y rfl (Yld.iload [] tab_ok k14.rd rfl rfl (iltN h8 rfl)) ?_
          refine WL.y rfl (Yld.pure tab_ok rfl) ?_
          refine WL.nil (WX.then_normal ?_)
          refine WC.cond rfl (fun b4 => ?_) (fun b4 => ?_)
          · replace H := H.1 (of_decide_eq_true b4)
            refine WC.seq ?_
            refine WC.region ?_
            refine WL.y rfl (Yld.pure tab_ok rfl) ?_
            refine WL.y rfl (Yld.pure tab_ok rfl) ?_
            refine WL.nil (WX.then_normal ?_)
            refine WC.block ?_
            obtain ⟨I3, mu3, h0_3, HR3⟩ := H
            refine WC.loopF (fun n' L' w' => ∃ (j : Int), ∃ (next2 : List Bool), n' = mu3 j next2 ∧ L' = [(1, vs p), (5, .slice A_a a.length c_a), (6, .slice A_b b.length c_b), (7, .slice A_reach reach.length c_reach), (8, .int .i64 i), (9, .slice (some ⟨g2, 0, none⟩) (((b.length : Int) + (1 : Int)).toNat) (((b.length : Int) + (1 : Int)).toNat)), (10, .int .i64 k), (11, .int .i64 j)] ∧ I3 j next2 ∧ ((b.length : Int) + (1 : Int)).toNat = next2.length ∧ w.grownBy w' none ∧ Own vs w' w.heap.size 9 A_a c_a a ∧ Own vs w' w.heap.size 9 A_b c_b b ∧ Own vB w' w.heap.size 4 A_reach c_reach reach ∧ Own vB w' w.heap.size 4 (some ⟨g2, 0, none⟩) (((b.length : Int) + (1 : Int)).toNat) next2 ∧ Dj (blk A_a) (blk A_b) ∧ Dj (blk A_a) (blk A_reach) ∧ Dj (blk A_a) (blk (some ⟨g2, 0, none⟩)) ∧ Dj (blk A_b) (blk A_reach) ∧ Dj (blk A_b) (blk (some ⟨g2, 0, none⟩)) ∧ Dj (blk A_reach) (blk (some ⟨g2, 0, none⟩))) _ _ ⟨k, next, rfl, rfl, h0_3, hn_next, gr7, k14, k15, k16, k17, dj4, dj5, dj6, dj7, dj8, dj9⟩ (by repeat (first | exact Sub.nil | refine Sub.cons rfl ?_)) ?_
            clear h0_3
            rintro _ _ w9 ⟨j, next2, rfl, rfl, hI3, hn_next2, gr9, k22, k23, k24, k25, dj16, dj17, dj18, dj19, dj20, dj21⟩
            have H := HR3 j next2 hI3
            replace H := H hn_next2
            refine WC.seq ?_
            refine WC.seq ?_
            refine WC.region ?_
            refine WL.y rfl (Yld.pure tab_ok rfl) ?_
            refine WL.y rfl (Yld.pure tab_ok rfl) ?_
            refine WL.y rfl (Yld.pure tab_ok rfl) ?_
            refine WL.y rfl (Yld.pure tab_ok rfl) ?_
            refine WL.nil (WX.then_normal ?_)
            refine WC.cond rfl (fun b5 => ?_) (fun b5 => ?_)
            · replace H := H.1 (of_decide_eq_true b5)
              refine WC.skip (WX.then_normal ?_)
              refine WC.seq ?_
              refine WC.block ?_
              refine WC.region ?_
              refine WL.y rfl (Yld.pure tab_ok rfl) ?_
              refine WL.y rfl (Yld.pure tab_ok rfl) ?_
              obtain ⟨h9, H⟩ := H
              refine WL.y rfl (Yld.iaddrW tab_ok k25.rd rfl rfl hn_next2 rfl h9.1 h9.2) ?_
              refine WL.ostore (v := true) one4 One.B k25 rfl rfl (iltN h9 hn_next2) (fun w10 hO4 hg6 => ?_)
              have gr10 := gr_mod gr9 hg6 k25.ge'
              have k26 := k22.go hg6 dj18
              have k27 := k23.go hg6 dj20
              have k28 := k24.go hg6 dj21
              refine WL.nil (WX.block_normal (WX.then_normal ?_))
              refine WC.region ?_
              refine WL.y rfl (Yld.pure tab_ok rfl) ?_
              obtain ⟨h10, H⟩ := H
              refine WL.y rfl (Yld.add rfl rfl h10) ?_
              refine WL.y rfl (Yld.pure tab_ok rfl) ?_
              refine WL.nil ?_
              exact WX.roundF _ ⟨j + (1 : Int), next2.set j.toNat true, rfl, rfl, H.1, (hn_next2.trans List.length_set.symm), gr10, k26, k27, k28, hO4, dj16, dj17, dj18, dj19, dj20, dj21⟩ (by repeat (first | exact Sub.nil | refine Sub.cons rfl ?_)) H.2
            · replace H := H.2 (of_decide_eq_false b5)
              refine WC.exit (WX.then_exit (WX.then_exit (WX.block_same (WX.block_normal ?_))))
              exact WX.weaken (by repeat (first | exact Sub.nil | refine Sub.cons rfl ?_)) (hQ _ _ ⟨next2, rfl, H, hn_next2, gr9, k22, k23, k24, k25, dj16, dj17, dj18, dj19, dj20, dj21⟩)
          · replace H := H.2 (of_decide_eq_false b4)
            refine WC.seq ?_
            refine WC.chainF (fun k => !(Nat.beq k 13)) (LD [8, 12] (fun w' => Rd vs w' A_a c_a a ∧ Rd vs w' A_b c_b b)) mixed (by kernel_rfl) (fun k w' h _ => ⟨(rd_eqv h k14.rd), (rd_eqv h k15.rd)⟩) ?_
            refine WJ.y rfl rfl (fun w' hw' => Yld.pure tab_ok rfl) ?_
            refine WJ.y rfl rfl (fun w' hw' => Yld.pure tab_ok rfl) ?_
            refine WJ.y rfl rfl (fun w' hw' => Yld.pure tab_ok rfl) ?_
            refine WJ.y rfl rfl (fun w' hw' => Yld.pure tab_ok rfl) ?_
            refine WJ.y rfl rfl (fun w' hw' => Yld.pure tab_ok rfl) ?_
            obtain ⟨J2, H, hJ2⟩ := H
            refine WJ.midF 10 (fun L' w' => ∃ q1 : Bool, L' = [(72, .bool q1), (1, vs p), (5, .slice A_a a.length c_a), (6, .slice A_b b.length c_b), (7, .slice A_reach reach.length c_reach), (8, .int .i64 i), (9, .slice (some ⟨g2, 0, none⟩) (((b.length : Int) + (1 : Int)).toNat) (((b.length : Int) + (1 : Int)).toNat)), (10, .int .i64 k)] ∧ J2 q1 ∧ w.grownBy w' none ∧ Own vs w' w.heap.size 9 A_a c_a a ∧ Own vs w' w.heap.size 9 A_b c_b b ∧ Own vB w' w.heap.size 4 A_reach c_reach reach ∧ Own vB w' w.heap.size 4 (some ⟨g2, 0, none⟩) (((b.length : Int) + (1 : Int)).toNat) next) ?_ (fun hQ => ?_)
            · clear H
              rintro _ w11 ⟨q1, rfl, H, gr11, k29, k30, k31, k32⟩
              replace H := hJ2 q1 H
              refine WJ.nil (WX.then_normal ?_)
              refine WC.cond rfl (fun b6 => ?_) (fun b6 => ?_)
              · replace H := H.1 (b6)
                refine WC.region ?_
                refine WL.y rfl (Yld.pure tab_ok rfl) ?_
                refine WL.y rfl (Yld.pure tab_ok rfl) ?_
                obtain ⟨h11, H⟩ := H
                refine WL.y rfl (Yld.add rfl rfl h11) ?_
                obtain ⟨h12, H⟩ := H
                refine WL.y rfl (Yld.iaddrW tab_ok k32.rd rfl rfl hn_next rfl h12.1 h12.2) ?_
                refine WL.ostore (v := true) one4 One.B k32 rfl rfl (iltN h12 hn_next) (fun w12 hO5 hg7 => ?_)
                have gr12 := gr_mod gr11 hg7 k32.ge'
                have k33 := k29.go hg7 dj6
                have k34 := k30.go hg7 dj8
                have k35 := k31.go hg7 dj9
                refine WL.nil (WX.block_normal ?_)
                exact WX.weaken (by repeat (first | exact Sub.nil | refine Sub.cons rfl ?_)) (hQ _ _ ⟨next.set ((k + (1 : Int)).toNat) true, rfl, H, (hn_next.trans List.length_set.symm), gr12, k33, k34, k35, hO5, dj4, dj5, dj6, dj7, dj8, dj9⟩)
              · replace H := H.2 (b6)
                refine WC.skip (WX.block_normal ?_)
                exact WX.weaken (by repeat (first | exact Sub.nil | refine Sub.cons rfl ?_)) (hQ _ _ ⟨next, rfl, H, hn_next, gr11, k29, k30, k31, k32, dj4, dj5, dj6, dj7, dj8, dj9⟩)
            · clear hJ2
              rcases Bool.eq_false_or_eq_true (decide (k < (b.length : Int))) with b7 | b7
              · replace H := H.1 b7
                refine WJ.yw rfl (wants_some rfl rfl (okb b7)) rfl (fun w' hw' => Yld.pure tab_ok rfl) ?_
                refine WJ.yw rfl (wants_some rfl rfl (okb b7)) rfl (fun w' hw' => Yld.pure tab_ok rfl) ?_
                obtain ⟨h13, H⟩ := H
                refine WJ.yw rfl (wants_some rfl rfl (okb b7)) rfl (fun w' hw' => Yld.iaddrW tab_ok k14.rd rfl rfl rfl rfl h13.1 h13.2) ?_
                refine WJ.yw rfl (wants_some rfl rfl (okb b7)) rfl (fun w' hw' => Yld.iload [] tab_ok (hw' rfl).1 rfl rfl (iltN h13 rfl)) ?_
                refine WJ.yw rfl (wants_some rfl rfl (okb b7)) rfl (fun w' hw' => Yld.pure tab_ok rfl) ?_
                refine WJ.yw rfl (wants_some rfl rfl (okb b7)) rfl (fun w' hw' => Yld.pure tab_ok rfl) ?_
                obtain ⟨h14, H⟩ := H
                refine WJ.yw rfl (wants_some rfl rfl (okb b7)) rfl (fun w' hw' => Yld.iaddrW tab_ok k15.rd rfl rfl rfl rfl h14.1 h14.2) ?_
                refine WJ.yw rfl (wants_some rfl rfl (okb b7)) rfl (fun w' hw' => Yld.iload [] tab_ok (hw' rfl).2 rfl rfl (iltN h14 rfl)) ?_
                refine WJ.call rfl (wants_some rfl rfl (okb b7)) rfl rfl (W_smithyref1_one H) (fun v w' h w2 e => DD.keep (⟨(Rd.grown k14.rd (gr_eqv h.1 e)), (Rd.grown k15.rd (gr_eqv h.1 e))⟩)) ?_
                rintro _ w13 ⟨hg8, t71, rfl, H⟩
                have gr13 := gr_trans gr7 hg8
                have k36 := k14.grown hg8
                have k37 := k15.grown hg8
                have k38 := k16.grown hg8
                have k39 := k17.grown hg8
                refine WJ.y rfl rfl (fun w' hw' => Yld.pickT (okb b7) rfl) ?_
                exact WJ.weaken (by repeat (first | exact Sub.nil | refine Sub.cons rfl ?_)) (hQ _ _ ⟨t71, rfl, H, gr13, k36, k37, k38, k39⟩)
              · replace H := H.2 b7
                refine WJ.no rfl rfl (okb b7) rfl ?_
                refine WJ.no rfl rfl (okb b7) rfl ?_
                refine WJ.no rfl rfl (okb b7) rfl ?_
                refine WJ.no rfl rfl (okb b7) rfl ?_
                refine WJ.no rfl rfl (okb b7) rfl ?_
                refine WJ.no rfl rfl (okb b7) rfl ?_
                refine WJ.no rfl rfl (okb b7) rfl ?_
                refine WJ.no rfl rfl (okb b7) rfl ?_
                refine WJ.no rfl rfl (okb b7) rfl ?_
                refine WJ.y rfl rfl (fun w' hw' => Yld.pickF (okb b7) rfl) ?_
                exact WJ.weaken (by repeat (first | exact Sub.nil | refine Sub.cons rfl ?_)) (hQ _ _ ⟨false, rfl, H, gr7, k14, k15, k16, k17⟩)
    · replace H := H.2 (of_decide_eq_false b2)
      refine WC.exit (WX.then_exit (WX.then_exit (WX.block_same (WX.then_normal ?_))))
      refine WC.region ?_
      refine WL.y rfl (Yld.pure tab_ok rfl) ?_
      refine WL.y rfl (Yld.pure tab_ok rfl) ?_
      refine WL.nil (WX.block_normal (WX.then_normal ?_))
      refine WC.region ?_
      refine WL.y rfl (Yld.pure tab_ok rfl) ?_
      obtain ⟨h15, H⟩ := H
      refine WL.y rfl (Yld.add rfl rfl h15) ?_
      refine WL.y rfl (Yld.pure tab_ok rfl) ?_
      refine WL.nil ?_
      exact WX.roundF _ ⟨next, (some ⟨g2, 0, none⟩), ((b.length : Int) + (1 : Int)).toNat, ((b.length : Int) + (1 : Int)).toNat, i + (1 : Int), rfl, rfl, H.1, hn_next, gr7, k14, k15, k17, dj4, dj6, dj8⟩ (by repeat (first | exact Sub.nil | refine Sub.cons rfl ?_)) H.2
  · replace H := H.2 (of_decide_eq_false b1)
    refine WC.exit (WX.then_exit (WX.then_exit (WX.block_same (WX.then_normal ?_))))
    refine WC.seq ?_
    refine WC.region ?_
    refine WL.y rfl (Yld.pure tab_ok rfl) ?_
    refine WL.y rfl (Yld.pure tab_ok rfl) ?_
    refine WL.y rfl (Yld.pure tab_ok rfl) ?_
    obtain ⟨h16, H⟩ := H
    refine WL.y rfl (Yld.iaddrW tab_ok k10.rd rfl rfl rfl rfl h16.1 h16.2) ?_
    refine WL.y rfl (Yld.iload false tab_ok k10.rd rfl rfl (iltN h16 rfl)) ?_
    refine WL.y rfl (Yld.pure tab_ok rfl) ?_
    obtain ⟨J3, H, hJ3⟩ := H
    refine WL.midF 3 (fun L' w' => ∃ q2 : Bool, L' = [(86, .bool q2)] ∧ J3 q2 ∧ w.grownBy w' none) ?_ (fun hQ => ?_)
    · clear H
      rintro _ w14 ⟨q2, rfl, H, gr14⟩
      replace H := hJ3 q2 H
      refine WL.y rfl (Yld.pure tab_ok rfl) ?_
      refine WL.nil (WX.then_normal ?_)
      refine WC.ret ?_
      exact WX.ret1 rfl rfl ⟨gr14, q2, rfl, H⟩
    · clear hJ3
      rcases Bool.eq_false_or_eq_true (reach.getD ((b.length : Int).toNat) false) with b8 | b8
      · replace H := H.1 b8
        refine WL.gyes rfl rfl (okb b8) rfl (Yld.pure tab_ok rfl) ?_
        refine WL.callw (wants_some rfl rfl (okb b8)) rfl rfl (W_smithyref1_Valid H) ?_
        rintro _ w15 ⟨hg9, t85, rfl, H⟩
        have gr15 := gr_trans gr5 hg9
        refine WL.y rfl (Yld.pickT (okb b8) rfl) ?_
        exact WL.weaken (by repeat (first | exact Sub.nil | refine Sub.cons rfl ?_)) (hQ _ _ ⟨t85, rfl, H, gr15⟩)
      · replace H := H.2 b8
        refine WL.gno rfl rfl (okb b8) rfl ?_
        refine WL.gno rfl rfl (okb b8) rfl ?_
        refine WL.y rfl (Yld.pickF (okb b8) rfl) ?_
        exact WL.weaken (by repeat (first | exact Sub.nil | refine Sub.cons rfl ?_)) (hQ _ _ ⟨false, rfl, H, gr5⟩)

set_option maxHeartbeats 8000000 in
theorem W_smithyref1_Glob {w : World} {patterns : List (List UInt8)} {A_patterns : Option Addr} {c_patterns : Nat} {but : List (List UInt8)} {A_but : Option Addr} {c_but : Nat} {paths : List (List UInt8)} {A_paths : Option Addr} {c_paths : Nat} {n_patterns : Nat} {n_but : Nat} {n_paths : Nat} {K : (List (List UInt8)) → Int → Prop} (hpatterns : Rd vs w A_patterns c_patterns patterns) (hn_patterns : n_patterns = patterns.length) (hbut : Rd vs w A_but c_but but) (hn_but : n_but = but.length) (hpaths : Rd vs w A_paths c_paths paths) (hn_paths : n_paths = paths.length) (H : M_smithyref1_Glob patterns but paths K) : Fn Tryd.prog 56 ⟨[.slice A_patterns n_patterns c_patterns, .slice A_but n_but c_but, .slice A_paths n_paths c_paths]⟩ w (fun v w' => w.grownBy w' none ∧ ∃ (r0 : List (List UInt8)), ∃ (A_r0 : Option Addr), ∃ (c_r0 : Nat), ∃ (r1 : Int), v = .tuple #[.slice A_r0 r0.length c_r0, .int .i64 r1] ∧ Own vs w' w.heap.size 9 A_r0 c_r0 r0 ∧ K r0 r1) := by
  subst hn_patterns
  subst hn_but
  subst hn_paths
  unfold M_smithyref1_Glob at H
  refine Fn.enter (by kernel_rfl) Tryd.func56 rfl Tryd.ntmps56 rfl ?_
  replace H := H (Nat.le_trans hpatterns.cap hpatterns.max)
  replace H := H (Nat.le_trans hbut.cap hbut.max)
  replace H := H (Nat.le_trans hpaths.cap hpaths.max)
  refine WC.seq ?_
  refine WC.region ?_
  refine WL.y rfl (Yld.pure tab_ok rfl) ?_
  refine WL.y rfl (Yld.pure tab_ok rfl) ?_
  refine WL.nil (WX.then_normal ?_)
  refine WC.seq ?_
  refine WC.region ?_
  refine WL.y rfl (Yld.pure tab_ok rfl) ?_
  refine WL.call rfl rfl (W_smithyref_Texts hpatterns rfl H) ?_
  rintro _ w1 ⟨hg1, t16, A_t16, c_t16, rfl, ht16, H⟩
  have hb1 := ht16.ge'
  have k1 := ht16.base (fun g hg => Nat.le_trans (Nat.le_refl _) (hb1 g hg))
  have gr1 := hg1
  refine WL.y rfl (Yld.pure tab_ok rfl) ?_
  obtain ⟨h1, H⟩ := H
  refine WL.append tab_ok rfl rfl One.s k1 rfl rfl (hbut.grown gr1) rfl rfl h1 (applen h1) (size_le gr1) (fun A_all c_all w2 hO1 hg2 hk1 => ?_)
  have gr2 := gr_mod gr1 hg2 k1.ge'
  refine WL.y rfl (Yld.pure tab_ok rfl) ?_
  refine WL.nil (WX.then_normal ?_)
  refine WC.seq ?_
  refine WC.seq ?_
  refine WC.region ?_
  refine WL.y rfl (Yld.pure tab_ok rfl) ?_
  refine WL.nil (WX.then_normal ?_)
  refine WC.block ?_
  obtain ⟨I1, mu1, h0_1, HR1⟩ := H
  refine WC.loopF (fun n' L' w' => ∃ (i : Int), n' = mu1 i ∧ L' = [(0, .slice A_patterns patterns.length c_patterns), (1, .slice A_but but.length c_but), (2, .slice A_paths paths.length c_paths), (8, .slice A_all ((t16 ++ but).length) c_all), (9, .int .i64 i)] ∧ I1 i ∧ w.grownBy w' none ∧ Own vs w' w.heap.size 9 A_all c_all (t16 ++ but)) _ _ ⟨(0 : Int), rfl, rfl, h0_1, gr2, hO1⟩ (by repeat (first | exact Sub.nil | refine Sub.cons rfl ?_)) ?_
  clear h0_1
  rintro _ _ w3 ⟨i, rfl, rfl, hI1, gr3, k2⟩
  have H := HR1 i hI1
  refine WC.seq ?_
  refine WC.seq ?_
  refine WC.region ?_
  refine WL.y rfl (Yld.pure tab_ok rfl) ?_
  refine WL.y rfl (Yld.pure tab_ok rfl) ?_
  refine WL.y rfl (Yld.pure tab_ok rfl) ?_
  refine WL.y rfl (Yld.pure tab_ok rfl) ?_
  refine WL.nil (WX.then_normal ?_)
  refine WC.cond rfl (fun b1 => ?_) (fun b1 => ?_)
  · replace H := H.1 (of_decide_eq_true b1)
    refine WC.skip (WX.then_normal ?_)
    refine WC.seq ?_
    refine WC.block ?_
    refine WC.seq ?_
    refine WC.region ?_
    refine WL.y rfl (Yld.pure tab_ok rfl) ?_
    refine WL.y rfl (Yld.pure tab_ok rfl) ?_
    obtain ⟨h2, H⟩ := H
    refine WL.y rfl (Yld.iaddrW tab_ok k2.rd rfl rfl rfl rfl h2.1 h2.2) ?_
    refine WL.y rfl (Yld.iload [] tab_ok k2.rd rfl rfl (iltN h2 rfl)) ?_
    refine WL.call rfl rfl (W_smithyref1_Pattern H) ?_
    rintro _ w4 ⟨hg3, t29, rfl, H⟩
    have gr4 := gr_trans gr3 hg3
    have k3 := k2.grown hg3
    refine WL.y rfl (Yld.pure tab_ok rfl) ?_
    refine WL.nil (WX.then_normal ?_)
    refine WC.cond rfl (fun b2 => ?_) (fun b2 => ?_)
    · replace H := H.1 (b2)
      refine WC.seq ?_
      refine WC.region ?_
      refine WL.y rfl (Yld.pure tab_ok rfl) ?_
      refine WL.y rfl (Yld.pure tab_ok rfl) ?_
      refine WL.y rfl (Yld.pure tab_ok rfl) ?_
      refine WL.nil (WX.then_normal ?_)
      refine WC.ret (WX.block_ret (WX.then_ret (WX.then_ret (WX.block_ret (WX.then_ret ?_)))))
      exact WX.ret2 rfl rfl rfl ⟨gr4, [], none, 0, i, rfl, (Own.nil vs w4 w.heap.size 9), H⟩
    · replace H := H.2 (b2)
      refine WC.skip (WX.block_normal (WX.then_normal ?_))
      refine WC.region ?_
      refine WL.y rfl (Yld.pure tab_ok rfl) ?_
      obtain ⟨h3, H⟩ := H
      refine WL.y rfl (Yld.add rfl rfl h3) ?_
      refine WL.y rfl (Yld.pure tab_ok rfl) ?_
      refine WL.nil ?_
      exact WX.roundF _ ⟨i + (1 : Int), rfl, rfl, H.1, gr4, k3⟩ (by repeat (first | exact Sub.nil | refine Sub.cons rfl ?_)) H.2
  · replace H := H.2 (of_decide_eq_false b1)
    refine WC.exit (WX.then_exit (WX.then_exit (WX.block_same (WX.then_normal ?_))))
    refine WC.seq ?_
    refine WC.region ?_
    refine WL.y rfl (Yld.pure tab_ok rfl) ?_
    refine WL.nil (WX.then_normal ?_)
    refine WC.seq ?_
    refine WC.seq ?_
    refine WC.region ?_
    refine WL.y rfl (Yld.pure tab_ok rfl) ?_
    refine WL.nil (WX.then_normal ?_)
    refine WC.block ?_
    obtain ⟨I2, mu2, h0_2, HR2⟩ := H
    refine WC.loopF (fun n' L' w' => ∃ (out : List (List UInt8)), ∃ (A_out : Option Addr), ∃ (c_out : Nat), ∃ (n_out : Nat), ∃ (i2 : Int), n' = mu2 out i2 ∧ L' = [(0, .slice A_patterns patterns.length c_patterns), (1, .slice A_but but.length c_but), (2, .slice A_paths paths.length c_paths), (10, .slice A_out n_out c_out), (11, .int .i64 i2)] ∧ I2 out i2 ∧ n_out = out.length ∧ w.grownBy w' none ∧ Own vs w' w.heap.size 9 A_out c_out out) _ _ ⟨[], none, 0, 0, (0 : Int), rfl, rfl, h0_2, rfl, gr3, (Own.nil vs w3 w.heap.size 9)⟩ (by repeat (first | exact Sub.nil | refine Sub.cons rfl ?_)) ?_
    clear h0_2
    rintro _ _ w5 ⟨out, A_out, c_out, n_out, i2, rfl, rfl, hI2, rfl, gr5, k4⟩
    have H := HR2 out i2 hI2
    refine WC.seq ?_
    refine WC.seq ?_
    refine WC.region ?_
    refine WL.y rfl (Yld.pure tab_ok rfl) ?_
    refine WL.y rfl (Yld.pure tab_ok rfl) ?_
    refine WL.y rfl (Yld.pure tab_ok rfl) ?_
    refine WL.y rfl (Yld.pure tab_ok rfl) ?_
    refine WL.nil (WX.then_normal ?_)
    refine WC.cond rfl (fun b3 => ?_) (fun b3 => ?_)
    · replace H := H.1 (of_decide_eq_true b3)
      refine WC.skip (WX.then_normal ?_)
      refine WC.seq ?_
      obtain ⟨J1, H, hJ1⟩ := H
      refine WC.midF (fun L' w' => ∃ (out2 : List (List UInt8)), ∃ (A_out2 : Option Addr), ∃ (c_out2 : Nat), ∃ (n_out2 : Nat), L' = [(0, .slice A_patterns patterns.length c_patterns), (1, .slice A_but but.length c_but), (2, .slice A_paths paths.length c_paths), (10, .slice A_out2 n_out2 c_out2), (11, .int .i64 i2)] ∧ J1 out2 ∧ n_out2 = out2.length ∧ w.grownBy w' none ∧ Own vs w' w.heap.size 9 A_out2 c_out2 out2) ?_ (fun hQ => ?_)
      · clear H
        rintro _ w6 ⟨out2, A_out2, c_out2, n_out2, rfl, H, rfl, gr6, k5⟩
        replace H := hJ1 out2 H
        refine WX.then_normal ?_
        refine WC.region ?_
        refine WL.y rfl (Yld.pure tab_ok rfl) ?_
        obtain ⟨h4, H⟩ := H
        refine WL.y rfl (Yld.add rfl rfl h4) ?_
        refine WL.y rfl (Yld.pure tab_ok rfl) ?_
        refine WL.nil ?_
        exact WX.roundF _ ⟨out2, A_out2, c_out2, out2.length, i2 + (1 : Int), rfl, rfl, H.1, rfl, gr6, k5⟩ (by repeat (first | exact Sub.nil | refine Sub.cons rfl ?_)) H.2
      · clear hJ1
        refine WC.block ?_
        refine WC.seq ?_
        refine WC.region ?_
        refine WL.y rfl (Yld.pure tab_ok rfl) ?_
        refine WL.nil (WX.then_normal ?_)
        refine WC.seq ?_
        refine WC.seq ?_
        refine WC.region ?_
        refine WL.y rfl (Yld.pure tab_ok rfl) ?_
        refine WL.nil (WX.then_normal ?_)
        refine WC.block ?_
        obtain ⟨I3, mu3, h0_3, HR3⟩ := H
        refine WC.loopF (fun n' L' w' => ∃ (in_ : Bool), ∃ (k : Int), n' = mu3 in_ k ∧ L' = [(0, .slice A_patterns patterns.length c_patterns), (1, .slice A_but but.length c_but), (2, .slice A_paths paths.length c_paths), (10, .slice A_out out.length c_out), (11, .int .i64 i2), (12, .bool in_), (13, .int .i64 k)] ∧ I3 in_ k ∧ w.grownBy w' none ∧ Own vs w' w.heap.size 9 A_out c_out out) _ _ ⟨false, (0 : Int), rfl, rfl, h0_3, gr5, k4⟩ (by repeat (first | exact Sub.nil | refine Sub.cons rfl ?_)) ?_
        clear h0_3
        rintro _ _ w7 ⟨in_, k, rfl, rfl, hI3, gr7, k6⟩
        have H := HR3 in_ k hI3
        refine WC.seq ?_
        refine WC.seq ?_
        refine WC.region ?_
        refine WL.y rfl (Yld.pure tab_ok rfl) ?_
        refine WL.y rfl (Yld.pure tab_ok rfl) ?_
        refine WL.y rfl (Yld.pure tab_ok rfl) ?_
        refine WL.y rfl (Yld.pure tab_ok rfl) ?_
        refine WL.nil (WX.then_normal ?_)
        refine WC.cond rfl (fun b4 => ?_) (fun b4 => ?_)
        · replace H := H.1 (of_decide_eq_true b4)
          refine WC.skip (WX.then_normal ?_)
          refine WC.seq ?_
          refine WC.block ?_
          refine WC.chainF (fun k => !(Nat.beq k 10)) (LD [5, 9] (fun w' => Rd vs w' A_patterns c_patterns patterns ∧ Rd vs w' A_paths c_paths paths)) mixed (by kernel_rfl) (fun k w' h _ => ⟨(rd_eqv h (hpatterns.grown gr7)), (rd_eqv h (hpaths.grown gr7))⟩) ?_
          refine WJ.y rfl rfl (fun w' hw' => Yld.pure tab_ok rfl) ?_
          refine WJ.y rfl rfl (fun w' hw' => Yld.pure tab_ok rfl) ?_
          obtain ⟨J2, H, hJ2⟩ := H
          refine WJ.midF 10 (fun L' w' => ∃ q1 : Bool, L' = [(55, .bool q1), (0, .slice A_patterns patterns.length c_patterns), (1, .slice A_but but.length c_but), (2, .slice A_paths paths.length c_paths), (10, .slice A_out out.length c_out), (11, .int .i64 i2), (13, .int .i64 k)] ∧ J2 q1 ∧ w.grownBy w' none ∧ Own vs w' w.heap.size 9 A_out c_out out) ?_ (fun hQ => ?_)
          · clear H
            rintro _ w8 ⟨q1, rfl, H, gr8, k7⟩
            replace H := hJ2 q1 H
            refine WJ.y rfl rfl (fun w' hw' => Yld.pure tab_ok rfl) ?_
            refine WJ.nil (WX.block_normal (WX.then_normal ?_))
            refine WC.region ?_
            refine WL.y rfl (Yld.pure tab_ok rfl) ?_
            obtain ⟨h5, H⟩ := H
            refine WL.y rfl (Yld.add rfl rfl h5) ?_
            refine WL.y rfl (Yld.pure tab_ok rfl) ?_
            refine WL.nil ?_
            exact WX.roundF _ ⟨q1, k + (1 : Int), rfl, rfl, H.1, gr8, k7⟩ (by repeat (first | exact Sub.nil | refine Sub.cons rfl ?_)) H.2
          · clear hJ2
            rcases Bool.eq_false_or_eq_true (in_) with b5 | b5
            · replace H := H.1 b5
              refine WJ.no rfl rfl (okb b5) rfl ?_
              refine WJ.no rfl rfl (okb b5) rfl ?_
              refine WJ.no rfl rfl (okb b5) rfl ?_
              refine WJ.no rfl rfl (okb b5) rfl ?_
              refine WJ.no rfl rfl (okb b5) rfl ?_
              refine WJ.no rfl rfl (okb b5) rfl ?_
              refine WJ.no rfl rfl (okb b5) rfl ?_
              refine WJ.no rfl rfl (okb b5) rfl ?_
              refine WJ.no rfl rfl (okb b5) rfl ?_
              refine WJ.y rfl rfl (fun w' hw' => Yld.pickT (okb b5) rfl) ?_
              exact WJ.weaken (by repeat (first | exact Sub.nil | refine Sub.cons rfl ?_)) (hQ _ _ ⟨true, rfl, H, gr7, k6⟩)
            · replace H := H.2 b5
              refine WJ.yw rfl (wants_some rfl rfl (okb b5)) rfl (fun w' hw' => Yld.pure tab_ok rfl) ?_
              refine WJ.yw rfl (wants_some rfl rfl (okb b5)) rfl (fun w' hw' => Yld.pure tab_ok rfl) ?_
              obtain ⟨h6, H⟩ := H
              refine WJ.yw rfl (wants_some rfl rfl (okb b5)) rfl (fun w' hw' => Yld.iaddrW tab_ok (hpatterns.grown gr7) rfl rfl rfl rfl h6.1 h6.2) ?_
              refine WJ.yw rfl (wants_some rfl rfl (okb b5)) rfl (fun w' hw' => Yld.iload [] tab_ok (hw' rfl).1 rfl rfl (iltN h6 rfl)) ?_
              refine WJ.yw rfl (wants_some rfl rfl (okb b5)) rfl (fun w' hw' => Yld.pure tab_ok rfl) ?_
              refine WJ.yw rfl (wants_some rfl rfl (okb b5)) rfl (fun w' hw' => Yld.pure tab_ok rfl) ?_
              obtain ⟨h7, H⟩ := H
              refine WJ.yw rfl (wants_some rfl rfl (okb b5)) rfl (fun w' hw' => Yld.iaddrW tab_ok (hpaths.grown gr7) rfl rfl rfl rfl h7.1 h7.2) ?_
              refine WJ.yw rfl (wants_some rfl rfl (okb b5)) rfl (fun w' hw' => Yld.iload [] tab_ok (hw' rfl).2 rfl rfl (iltN h7 rfl)) ?_
              refine WJ.call rfl (wants_some rfl rfl (okb b5)) rfl rfl (W_smithyref1_Match H) (fun v w' h w2 e => DD.keep (⟨(Rd.grown (hpatterns.grown gr7) (gr_eqv h.1 e)), (Rd.grown (hpaths.grown gr7) (gr_eqv h.1 e))⟩)) ?_
              rintro _ w9 ⟨hg4, t54, rfl, H⟩
              have gr9 := gr_trans gr7 hg4
              have k8 := k6.grown hg4
              refine WJ.y rfl rfl (fun w' hw' => Yld.pickF (okb b5) rfl) ?_
              exact WJ.weaken (by repeat (first | exact Sub.nil | refine Sub.cons rfl ?_)) (hQ _ _ ⟨t54, rfl, H, gr9, k8⟩)
        · replace H := H.2 (of_decide_eq_false b4)
          refine WC.exit (WX.then_exit (WX.then_exit (WX.block_same (WX.then_normal ?_))))
          refine WC.seq ?_
          refine WC.seq ?_
          refine WC.region ?_
          refine WL.y rfl (Yld.pure tab_ok rfl) ?_
          refine WL.nil (WX.then_normal ?_)
          refine WC.block ?_
          obtain ⟨I4, mu4, h0_4, HR4⟩ := H
          refine WC.loopF (fun n' L' w' => ∃ (in_2 : Bool), ∃ (k2 : Int), n' = mu4 in_2 k2 ∧ L' = [(0, .slice A_patterns patterns.length c_patterns), (1, .slice A_but but.length c_but), (2, .slice A_paths paths.length c_paths), (10, .slice A_out out.length c_out), (11, .int .i64 i2), (12, .bool in_2), (14, .int .i64 k2)] ∧ I4 in_2 k2 ∧ w.grownBy w' none ∧ Own vs w' w.heap.size 9 A_out c_out out) _ _ ⟨in_, (0 : Int), rfl, rfl, h0_4, gr7, k6⟩ (by repeat (first | exact Sub.nil | refine Sub.cons rfl ?_)) ?_
          clear h0_4
          rintro _ _ w10 ⟨in_2, k2, rfl, rfl, hI4, gr10, k9⟩
          have H := HR4 in_2 k2 hI4
          refine WC.seq ?_
          refine WC.seq ?_
          refine WC.region ?_
          refine WL.y rfl (Yld.pure tab_ok rfl) ?_
          refine WL.y rfl (Yld.pure tab_ok rfl) ?_
          refine WL.y rfl (Yld.pure tab_ok rfl) ?_
          refine WL.y rfl (Yld.pure tab_ok rfl) ?_
          refine WL.nil (WX.then_normal ?_)
          refine WC.cond rfl (fun b6 => ?_) (fun b6 => ?_)
          · replace H := H.1 (of_decide_eq_true b6)
            refine WC.skip (WX.then_normal ?_)
            refine WC.seq ?_
            refine WC.block ?_
            refine WC.chainF (fun k => !(Nat.beq k 10)) (LD [5, 9] (fun w' => Rd vs w' A_but c_but but ∧ Rd vs w' A_paths c_paths paths)) mixed (by kernel_rfl) (fun k w' h _ => ⟨(rd_eqv h (hbut.grown gr10)), (rd_eqv h (hpaths.grown gr10))⟩) ?_
            refine WJ.y rfl rfl (fun w' hw' => Yld.pure tab_ok rfl) ?_
            refine WJ.y rfl rfl (fun w' hw' => Yld.pure tab_ok rfl) ?_
            obtain ⟨J3, H, hJ3⟩ := H
            refine WJ.midF 11 (fun L' w' => ∃ q2 : Bool, L' = [(74, .bool q2), (0, .slice A_patterns patterns.length c_patterns), (1, .slice A_but but.length c_but), (2, .slice A_paths paths.length c_paths), (10, .slice A_out out.length c_out), (11, .int .i64 i2), (14, .int .i64 k2)] ∧ J3 q2 ∧ w.grownBy w' none ∧ Own vs w' w.heap.size 9 A_out c_out out) ?_ (fun hQ => ?_)
            · clear H
              rintro _ w11 ⟨q2, rfl, H, gr11, k10⟩
              replace H := hJ3 q2 H
              refine WJ.y rfl rfl (fun w' hw' => Yld.pure tab_ok rfl) ?_
              refine WJ.nil (WX.block_normal (WX.then_normal ?_))
              refine WC.region ?_
              refine WL.y rfl (Yld.pure tab_ok rfl) ?_
              obtain ⟨h8, H⟩ := H
              refine WL.y rfl (Yld.add rfl rfl h8) ?_
              refine WL.y rfl (Yld.pure tab_ok rfl) ?_
              refine WL.nil ?_
              exact WX.roundF _ ⟨q2, k2 + (1 : Int), rfl, rfl, H.1, gr11, k10⟩ (by repeat (first | exact Sub.nil | refine Sub.cons rfl ?_)) H.2
            · clear hJ3
              rcases Bool.eq_false_or_eq_true (in_2) with b7 | b7
              · replace H := H.1 b7
                refine WJ.yw rfl (wants_some rfl rfl (okb b7)) rfl (fun w' hw' => Yld.pure tab_ok rfl) ?_
                refine WJ.yw rfl (wants_some rfl rfl (okb b7)) rfl (fun w' hw' => Yld.pure tab_ok rfl) ?_
                obtain ⟨h9, H⟩ := H
                refine WJ.yw rfl (wants_some rfl rfl (okb b7)) rfl (fun w' hw' => Yld.iaddrW tab_ok (hbut.grown gr10) rfl rfl rfl rfl h9.1 h9.2) ?_
                refine WJ.yw rfl (wants_some rfl rfl (okb b7)) rfl (fun w' hw' => Yld.iload [] tab_ok (hw' rfl).1 rfl rfl (iltN h9 rfl)) ?_
                refine WJ.yw rfl (wants_some rfl rfl (okb b7)) rfl (fun w' hw' => Yld.pure tab_ok rfl) ?_
                refine WJ.yw rfl (wants_some rfl rfl (okb b7)) rfl (fun w' hw' => Yld.pure tab_ok rfl) ?_
                obtain ⟨h10, H⟩ := H
                refine WJ.yw rfl (wants_some rfl rfl (okb b7)) rfl (fun w' hw' => Yld.iaddrW tab_ok (hpaths.grown gr10) rfl rfl rfl rfl h10.1 h10.2) ?_
                refine WJ.yw rfl (wants_some rfl rfl (okb b7)) rfl (fun w' hw' => Yld.iload [] tab_ok (hw' rfl).2 rfl rfl (iltN h10 rfl)) ?_
                refine WJ.call rfl (wants_some rfl rfl (okb b7)) rfl rfl (W_smithyref1_Match H) (fun v w' h w2 e => DD.keep (⟨(Rd.grown (hbut.grown gr10) (gr_eqv h.1 e)), (Rd.grown (hpaths.grown gr10) (gr_eqv h.1 e))⟩)) ?_
                rintro _ w12 ⟨hg5, t72, rfl, H⟩
                have gr12 := gr_trans gr10 hg5
                have k11 := k9.grown hg5
                refine WJ.yw rfl (wants_some rfl rfl (okb b7)) rfl (fun w' hw' => Yld.pure tab_ok rfl) ?_
                refine WJ.y rfl rfl (fun w' hw' => Yld.pickT (okb b7) rfl) ?_
                exact WJ.weaken (by repeat (first | exact Sub.nil | refine Sub.cons rfl ?_)) (hQ _ _ ⟨!t72, rfl, H, gr12, k11⟩)
              · replace H := H.2 b7
                refine WJ.no rfl rfl (okb b7) rfl ?_
                refine WJ.no rfl rfl (okb b7) rfl ?_
                refine WJ.no rfl rfl (okb b7) rfl ?_
                refine WJ.no rfl rfl (okb b7) rfl ?_
                refine WJ.no rfl rfl (okb b7) rfl ?_
                refine WJ.no rfl rfl (okb b7) rfl ?_
                refine WJ.no rfl rfl (okb b7) rfl ?_
                refine WJ.no rfl rfl (okb b7) rfl ?_
                refine WJ.no rfl rfl (okb b7) rfl ?_
                refine WJ.no rfl rfl (okb b7) rfl ?_
                refine WJ.y rfl rfl (fun w' hw' => Yld.pickF (okb b7) rfl) ?_
                exact WJ.weaken (by repeat (first | exact Sub.nil | refine Sub.cons rfl ?_)) (hQ _ _ ⟨false, rfl, H, gr10, k9⟩)
          · replace H := H.2 (of_decide_eq_false b6)
            refine WC.exit (WX.then_exit (WX.then_exit (WX.block_same (WX.then_normal ?_))))
            refine WC.seq ?_
            refine WC.region ?_
            refine WL.y rfl (Yld.pure tab_ok rfl) ?_
            refine WL.nil (WX.then_normal ?_)
            refine WC.cond rfl (fun b8 => ?_) (fun b8 => ?_)
            · replace H := H.1 (b8)
              refine WC.region ?_
              refine WL.y rfl (Yld.pure tab_ok rfl) ?_
              refine WL.y rfl (Yld.pure tab_ok rfl) ?_
              refine WL.y rfl (Yld.pure tab_ok rfl) ?_
              obtain ⟨h11, H⟩ := H
              refine WL.y rfl (Yld.iaddrW tab_ok (hpaths.grown gr10) rfl rfl rfl rfl h11.1 h11.2) ?_
              refine WL.y rfl (Yld.iload [] tab_ok (hpaths.grown gr10) rfl rfl (iltN h11 rfl)) ?_
              refine WL.lit tab_ok rfl rfl rfl (all1c rfl all1n) rfl (by omega) (fun g1 w13 hB1 hg6 hl1 => ?_)
              have hO2 : Own vs w13 w.heap.size 9 (some ⟨g1, 0, none⟩) 1 ([paths.getD i2.toNat []] : List (List UInt8)) := Own.ofBl hB1 (Nat.le_trans (size_le gr10) hl1) (by simp [maxLen]) rfl
              have gr13 := gr_trans gr10 hg6
              have k12 := k9.grown hg6
              obtain ⟨h12, H⟩ := H
              refine WL.append tab_ok rfl rfl One.s k12 rfl rfl hO2.rd rfl rfl h12 (applen h12) (size_le gr13) (fun A_out3 c_out3 w14 hO3 hg7 hk2 => ?_)
              have gr14 := gr_mod gr13 hg7 k12.ge'
              refine WL.y rfl (Yld.pure tab_ok rfl) ?_
              refine WL.nil (WX.block_normal ?_)
              exact WX.weaken (by repeat (first | exact Sub.nil | refine Sub.cons rfl ?_)) (hQ _ _ ⟨out ++ ([paths.getD i2.toNat []] : List (List UInt8)), A_out3, c_out3, (out ++ ([paths.getD i2.toNat []] : List (List UInt8))).length, rfl, H, rfl, gr14, hO3⟩)
            · replace H := H.2 (b8)
              refine WC.skip (WX.block_normal ?_)
              exact WX.weaken (by repeat (first | exact Sub.nil | refine Sub.cons rfl ?_)) (hQ _ _ ⟨out, A_out, c_out, out.length, rfl, H, rfl, gr10, k9⟩)
    · replace H := H.2 (of_decide_eq_false b3)
      refine WC.exit (WX.then_exit (WX.then_exit (WX.block_same (WX.then_normal ?_))))
      refine WC.seq ?_
      refine WC.region ?_
      refine WL.y rfl (Yld.pure tab_ok rfl) ?_
      refine WL.call rfl rfl (W_smithyref_SortedTexts k4.rd rfl H) ?_
      rintro _ w15 ⟨hg8, t6, A_t6, c_t6, rfl, ht6, H⟩
      have hb2 := ht6.ge'
      have k13 := ht6.base (fun g hg => Nat.le_trans (size_le gr5) (hb2 g hg))
      have gr15 := gr_trans gr5 hg8
      refine WL.y rfl (Yld.pure tab_ok rfl) ?_
      refine WL.y rfl (Yld.pure tab_ok rfl) ?_
      refine WL.nil (WX.then_normal ?_)
      refine WC.ret ?_
      exact WX.ret2 rfl rfl rfl ⟨gr15, t6, A_t6, c_t6, (-1 : Int), rfl, k13, H⟩

set_option maxHeartbeats 8000000 in
theorem W_smithylaw1_PathMatches {S : List Nat} {w : World} {pattern : List UInt8} {p : List UInt8} {l : List (List UInt8)} {A_l : Option Addr} {c_l : Nat} {but : List (List UInt8)} {A_but : Option Addr} {c_but : Nat} {paths : List (List UInt8)} {A_paths : Option Addr} {c_paths : Nat} {n_l : Nat} {n_but : Nat} {n_paths : Nat} {K : Bool → Prop} (hG : GOK S w) (hS0 : 0 ∈ S) (hS1 : 1 ∈ S) (hS2 : 2 ∈ S) (hS3 : 3 ∈ S) (hS4 : 4 ∈ S) (hS5 : 5 ∈ S) (hS6 : 6 ∈ S) (hS7 : 7 ∈ S) (hS8 : 8 ∈ S) (hS9 : 9 ∈ S) (hS10 : 10 ∈ S) (hS11 : 11 ∈ S) (hS12 : 12 ∈ S) (hS13 : 13 ∈ S) (hS14 : 14 ∈ S) (hS15 : 15 ∈ S) (hS16 : 16 ∈ S) (hS100 : 100 ∈ S) (hl : Rd vs w A_l c_l l) (hn_l : n_l = l.length) (hbut : Rd vs w A_but c_but but) (hn_but : n_but = but.length) (hpaths : Rd vs w A_paths c_paths paths) (hn_paths : n_paths = paths.length) (H : M_smithylaw1_PathMatches pattern p l but paths K) : Fn Tryd.prog 13 ⟨[vs pattern, vs p, .slice A_l n_l c_l, .slice A_but n_but c_but, .slice A_paths n_paths c_paths]⟩ w (fun v w' => w.grownBy w' none ∧ ∃ (r : Bool), v = .bool r ∧ K r) := by
  subst hn_l
  subst hn_but
  subst hn_paths
  unfold M_smithylaw1_PathMatches at H
  refine Fn.enter (by kernel_rfl) Tryd.func13 rfl Tryd.ntmps13 rfl ?_
  replace H := H (Nat.le_trans hl.cap hl.max)
  replace H := H (Nat.le_trans hbut.cap hbut.max)
  replace H := H (Nat.le_trans hpaths.cap hpaths.max)
  refine WC.seq ?_
  refine WC.region ?_
  refine WL.y rfl (Yld.pure tab_ok rfl) ?_
  refine WL.nil (WX.then_normal ?_)
  refine WC.seq ?_
  refine WC.region ?_
  refine WL.call rfl rfl (W_smithylaw1_first hG hS11 hS100 H) ?_
  rintro _ w1 ⟨hg1, ok, rfl, H⟩
  have gr1 := hg1
  refine WL.y rfl (Yld.pure tab_ok rfl) ?_
  refine WL.nil (WX.then_normal ?_)
  refine WC.seq ?_
  refine WC.seq ?_
  refine WC.region ?_
  refine WL.y rfl (Yld.pure tab_ok rfl) ?_
  refine WL.y rfl (Yld.pure tab_ok rfl) ?_
  refine WL.nil (WX.then_normal ?_)
  refine WC.cond rfl (fun b1 => ?_) (fun b1 => ?_)
  · replace H := H.1 (b1)
    refine WC.seq ?_
    refine WC.region ?_
    refine WL.y rfl (Yld.pure tab_ok rfl) ?_
    refine WL.nil (WX.then_normal ?_)
    refine WC.ret (WX.then_ret ?_)
    exact WX.ret1 rfl rfl ⟨gr1, false, rfl, H⟩
  · replace H := H.2 (b1)
    refine WC.skip (WX.then_normal ?_)
    refine WC.seq ?_
    refine WC.seq ?_
    refine WC.region ?_
    refine WL.y rfl (Yld.pure tab_ok rfl) ?_
    refine WL.y rfl (Yld.pure tab_ok rfl) ?_
    refine WL.y rfl (Yld.pure tab_ok rfl) ?_
    refine WL.y rfl (Yld.pure tab_ok rfl) ?_
    refine WL.midF 4 (fun L' w' => ∃ q1 : Bool, L' = [(31, .bool q1), (0, vs pattern), (1, vs p), (2, .slice A_l l.length c_l), (3, .slice A_but but.length c_but), (4, .slice A_paths paths.length c_paths), (11, .bool ok)] ∧ q1 = ((decide ((210 : Int) < (pattern.length : Int))) || (decide ((210 : Int) < (p.length : Int)))) ∧ w1 = w') ?_ (fun hQ => ?_)
    · rintro _ _ ⟨q1, rfl, rfl, rfl⟩
      refine WL.y rfl (Yld.pure tab_ok rfl) ?_
      refine WL.midF 4 (fun L' w' => ∃ q2 : Bool, L' = [(36, .bool q2), (0, vs pattern), (1, vs p), (2, .slice A_l l.length c_l), (3, .slice A_but but.length c_but), (4, .slice A_paths paths.length c_paths), (11, .bool ok)] ∧ q2 = (((decide ((210 : Int) < (pattern.length : Int))) || (decide ((210 : Int) < (p.length : Int)))) || (decide ((8 : Int) < (l.length : Int)))) ∧ w1 = w') ?_ (fun hQ => ?_)
      · rintro _ _ ⟨q2, rfl, rfl, rfl⟩
        refine WL.y rfl (Yld.pure tab_ok rfl) ?_
        refine WL.midF 4 (fun L' w' => ∃ q3 : Bool, L' = [(41, .bool q3), (0, vs pattern), (1, vs p), (2, .slice A_l l.length c_l), (3, .slice A_but but.length c_but), (4, .slice A_paths paths.length c_paths), (11, .bool ok)] ∧ q3 = ((((decide ((210 : Int) < (pattern.length : Int))) || (decide ((210 : Int) < (p.length : Int)))) || (decide ((8 : Int) < (l.length : Int)))) || (decide ((8 : Int) < (but.length : Int)))) ∧ w1 = w') ?_ (fun hQ => ?_)
        · rintro _ _ ⟨q3, rfl, rfl, rfl⟩
          refine WL.y rfl (Yld.pure tab_ok rfl) ?_
          refine WL.midF 4 (fun L' w' => ∃ q4 : Bool, L' = [(46, .bool q4), (0, vs pattern), (1, vs p), (2, .slice A_l l.length c_l), (3, .slice A_but but.length c_but), (4, .slice A_paths paths.length c_paths), (11, .bool ok)] ∧ q4 = (((((decide ((210 : Int) < (pattern.length : Int))) || (decide ((210 : Int) < (p.length : Int)))) || (decide ((8 : Int) < (l.length : Int)))) || (decide ((8 : Int) < (but.length : Int)))) || (decide ((30 : Int) < (paths.length : Int)))) ∧ w1 = w') ?_ (fun hQ => ?_)
          · rintro _ _ ⟨q4, rfl, rfl, rfl⟩
            refine WL.y rfl (Yld.pure tab_ok rfl) ?_
            refine WL.midF 3 (fun L' w' => ∃ q5 : Bool, L' = [(50, .bool q5), (0, vs pattern), (1, vs p), (2, .slice A_l l.length c_l), (3, .slice A_but but.length c_but), (4, .slice A_paths paths.length c_paths), (11, .bool ok)] ∧ q5 = ((((((decide ((210 : Int) < (pattern.length : Int))) || (decide ((210 : Int) < (p.length : Int)))) || (decide ((8 : Int) < (l.length : Int)))) || (decide ((8 : Int) < (but.length : Int)))) || (decide ((30 : Int) < (paths.length : Int)))) || (!ok)) ∧ w1 = w') ?_ (fun hQ => ?_)
            · rintro _ _ ⟨q5, rfl, rfl, rfl⟩
              refine WL.nil (WX.then_normal ?_)
              refine WC.cond rfl (fun b2 => ?_) (fun b2 => ?_)
              · replace H := H.1 (b2)
                refine WC.seq ?_
                refine WC.region ?_
                refine WL.y rfl (Yld.pure tab_ok rfl) ?_
                refine WL.y rfl (Yld.pure tab_ok rfl) ?_
                refine WL.nil (WX.then_normal ?_)
                refine WC.ret (WX.then_ret ?_)
                exact WX.ret1 rfl rfl ⟨gr1, ok, rfl, H⟩
              · replace H := H.2 (b2)
                refine WC.skip (WX.then_normal ?_)
                refine WC.seq ?_
                refine WC.region ?_
                refine WL.y rfl (Yld.pure tab_ok rfl) ?_
                refine WL.call rfl rfl (W_smithyref_Texts (hl.grown gr1) rfl H) ?_
                rintro _ w2 ⟨hg2, t53, A_t53, c_t53, rfl, ht53, H⟩
                have hb1 := ht53.ge'
                have k1 := ht53.base (fun g hg => Nat.le_trans (size_le gr1) (hb1 g hg))
                have gr2 := gr_trans gr1 hg2
                refine WL.y rfl (Yld.pure tab_ok rfl) ?_
                obtain ⟨h1, H⟩ := H
                refine WL.append tab_ok rfl rfl One.s k1 rfl rfl (hbut.grown gr2) rfl rfl h1 (applen h1) (size_le gr2) (fun A_t55 c_t55 w3 hO1 hg3 hk1 => ?_)
                have gr3 := gr_mod gr2 hg3 k1.ge'
                refine WL.y rfl (Yld.pure tab_ok rfl) ?_
                obtain ⟨h2, H⟩ := H
                refine WL.append tab_ok rfl rfl One.s hO1 rfl rfl (hpaths.grown gr3) rfl rfl h2 (applen h2) (size_le gr3) (fun A_all c_all w4 hO2 hg4 hk2 => ?_)
                have gr4 := gr_mod gr3 hg4 hO1.ge'
                refine WL.y rfl (Yld.pure tab_ok rfl) ?_
                refine WL.nil (WX.then_normal ?_)
                refine WC.seq ?_
                refine WC.seq ?_
                refine WC.region ?_
                refine WL.y rfl (Yld.pure tab_ok rfl) ?_
                refine WL.nil (WX.then_normal ?_)
                refine WC.block ?_
                obtain ⟨I1, mu1, h0_1, HR1⟩ := H
                refine WC.loopF (fun n' L' w' => ∃ (i : Int), n' = mu1 i ∧ L' = [(0, vs pattern), (1, vs p), (2, .slice A_l l.length c_l), (3, .slice A_but but.length c_but), (4, .slice A_paths paths.length c_paths), (12, .slice A_all (((t53 ++ but) ++ paths).length) c_all), (13, .int .i64 i)] ∧ I1 i ∧ w4 = w') _ _ ⟨(0 : Int), rfl, rfl, h0_1, rfl⟩ (by repeat (first | exact Sub.nil | refine Sub.cons rfl ?_)) ?_
                clear h0_1
                rintro _ _ _ ⟨i, rfl, rfl, hI1, rfl⟩
                have H := HR1 i hI1
                refine WC.seq ?_
                refine WC.seq ?_
                refine WC.region ?_
                refine WL.y rfl (Yld.pure tab_ok rfl) ?_
                refine WL.y rfl (Yld.pure tab_ok rfl) ?_
                refine WL.y rfl (Yld.pure tab_ok rfl) ?_
                refine WL.y rfl (Yld.pure tab_ok rfl) ?_
                refine WL.nil (WX.then_normal ?_)
                refine WC.cond rfl (fun b3 => ?_) (fun b3 => ?_)
                · replace H := H.1 (of_decide_eq_true b3)
                  refine WC.skip (WX.then_normal ?_)
                  refine WC.seq ?_
                  refine WC.block ?_
                  refine WC.seq ?_
                  refine WC.region ?_
                  refine WL.y rfl (Yld.pure tab_ok rfl) ?_
                  refine WL.y rfl (Yld.pure tab_ok rfl) ?_
                  obtain ⟨h3, H⟩ := H
                  refine WL.y rfl (Yld.iaddrW tab_ok hO2.rd rfl rfl rfl rfl h3.1 h3.2) ?_
                  refine WL.y rfl (Yld.iload [] tab_ok hO2.rd rfl rfl (iltN h3 rfl)) ?_
                  refine WL.y rfl (Yld.pure tab_ok rfl) ?_
                  refine WL.y rfl (Yld.pure tab_ok rfl) ?_
                  refine WL.nil (WX.then_normal ?_)
                  refine WC.cond rfl (fun b4 => ?_) (fun b4 => ?_)
                  · replace H := H.1 (of_decide_eq_true b4)
                    refine WC.seq ?_
                    refine WC.region ?_
                    refine WL.y rfl (Yld.pure tab_ok rfl) ?_
                    refine WL.nil (WX.then_normal ?_)
                    refine WC.ret (WX.block_ret (WX.then_ret (WX.then_ret (WX.block_ret (WX.then_ret ?_)))))
                    exact WX.ret1 rfl rfl ⟨gr4, true, rfl, H⟩
                  · replace H := H.2 (of_decide_eq_false b4)
                    refine WC.skip (WX.block_normal (WX.then_normal ?_))
                    refine WC.region ?_
                    refine WL.y rfl (Yld.pure tab_ok rfl) ?_
                    obtain ⟨h4, H⟩ := H
                    refine WL.y rfl (Yld.add rfl rfl h4) ?_
                    refine WL.y rfl (Yld.pure tab_ok rfl) ?_
                    refine WL.nil ?_
                    exact WX.roundF _ ⟨i + (1 : Int), rfl, rfl, H.1, rfl⟩ (by repeat (first | exact Sub.nil | refine Sub.cons rfl ?_)) H.2
                · replace H := H.2 (of_decide_eq_false b3)
                  refine WC.exit (WX.then_exit (WX.then_exit (WX.block_same (WX.then_normal ?_))))
                  refine WC.seq ?_
                  refine WC.region ?_
                  refine WL.y rfl (Yld.pure tab_ok rfl) ?_
                  refine WL.y rfl (Yld.pure tab_ok rfl) ?_
                  refine WL.call rfl rfl (W_path_Match (hG.grown gr4) hS11 hS100 H) ?_
                  rintro _ w5 ⟨hg5, t730, v_t731, t731, rfl, ht731, H⟩
                  have gr5 := gr_trans gr4 hg5
                  refine WL.y rfl (Yld.pure tab_ok rfl) ?_
                  refine WL.y rfl (Yld.pure tab_ok rfl) ?_
                  refine WL.y rfl (Yld.pure tab_ok rfl) ?_
                  refine WL.y rfl (Yld.pure tab_ok rfl) ?_
                  refine WL.y rfl (Yld.pure tab_ok rfl) ?_
                  refine WL.nil (WX.then_normal ?_)
                  refine WC.seq ?_
                  refine WC.region ?_
                  refine WL.y rfl (Yld.pure tab_ok rfl) ?_
                  refine WL.call rfl rfl (W_smithyref1_Pattern H) ?_
                  rintro _ w6 ⟨hg6, good, rfl, H⟩
                  have gr6 := gr_trans gr5 hg6
                  have k2 := ht731.grown hg6
                  refine WL.y rfl (Yld.pure tab_ok rfl) ?_
                  refine WL.nil (WX.then_normal ?_)
                  refine WC.seq ?_
                  refine WC.seq ?_
                  refine WC.region ?_
                  refine WL.y rfl (Yld.pure tab_ok rfl) ?_
                  refine WL.y rfl (Yld.pure tab_ok rfl) ?_
                  refine WL.call rfl rfl (W_smithylaw1_code H) ?_
                  rintro _ _ ⟨rfl, t80, rfl, H⟩
                  refine WL.call rfl rfl (W_smithysee_Is (hG.grown gr6) hS0 hS1 hS2 hS3 hS4 hS5 hS6 hS7 hS8 hS9 hS10 hS11 hS12 hS13 hS14 hS15 hS16 k2 H) ?_
                  rintro _ w7 ⟨hg7, t81, rfl, H⟩
                  have gr7 := gr_trans gr6 hg7
                  refine WL.y rfl (Yld.pure tab_ok rfl) ?_
                  refine WL.y rfl (Yld.pure tab_ok rfl) ?_
                  obtain ⟨J1, H, hJ1⟩ := H
                  refine WL.midF 9 (fun L' w' => ∃ q6 : Bool, L' = [(92, .bool q6), (2, .slice A_l l.length c_l), (3, .slice A_but but.length c_but), (4, .slice A_paths paths.length c_paths)] ∧ J1 q6 ∧ w.grownBy w' none) ?_ (fun hQ => ?_)
                  · clear H
                    rintro _ w8 ⟨q6, rfl, H, gr8⟩
                    replace H := hJ1 q6 H
                    refine WL.nil (WX.then_normal ?_)
                    refine WC.cond rfl (fun b5 => ?_) (fun b5 => ?_)
                    · replace H := H.1 (b5)
                      refine WC.seq ?_
                      refine WC.region ?_
                      refine WL.y rfl (Yld.pure tab_ok rfl) ?_
                      refine WL.nil (WX.then_normal ?_)
                      refine WC.ret (WX.then_ret ?_)
                      exact WX.ret1 rfl rfl ⟨gr8, false, rfl, H⟩
                    · replace H := H.2 (b5)
                      refine WC.skip (WX.then_normal ?_)
                      refine WC.seq ?_
                      refine WC.region ?_
                      refine WL.y rfl (Yld.pure tab_ok rfl) ?_
                      refine WL.y rfl (Yld.pure tab_ok rfl) ?_
                      refine WL.y rfl (Yld.pure tab_ok rfl) ?_
                      refine WL.call rfl rfl (W_path_Glob (hG.grown gr8) hS11 hS100 (hl.grown gr8) rfl (hbut.grown gr8) rfl (hpaths.grown gr8) rfl H) ?_
                      rintro _ w9 ⟨hg8, t970, A_t970, c_t970, v_t971, t971, rfl, ht970, ht971, H⟩
                      have hb2 := ht970.ge'
                      have k3 := ht970.base (fun g hg => Nat.le_trans (size_le gr8) (hb2 g hg))
                      have gr9 := gr_trans gr8 hg8
                      refine WL.y rfl (Yld.pure tab_ok rfl) ?_
                      refine WL.y rfl (Yld.pure tab_ok rfl) ?_
                      refine WL.y rfl (Yld.pure tab_ok rfl) ?_
                      refine WL.y rfl (Yld.pure tab_ok rfl) ?_
                      refine WL.y rfl (Yld.pure tab_ok rfl) ?_
                      refine WL.nil (WX.then_normal ?_)
                      refine WC.seq ?_
                      refine WC.region ?_
                      refine WL.y rfl (Yld.pure tab_ok rfl) ?_
                      refine WL.y rfl (Yld.pure tab_ok rfl) ?_
                      refine WL.y rfl (Yld.pure tab_ok rfl) ?_
                      refine WL.call rfl rfl (W_smithyref1_Glob (hl.grown gr9) rfl (hbut.grown gr9) rfl (hpaths.grown gr9) rfl H) ?_
                      rintro _ w10 ⟨hg9, t1040, A_t1040, c_t1040, t1041, rfl, ht1040, H⟩
                      have hb3 := ht1040.ge'
                      have k4 := ht1040.base (fun g hg => Nat.le_trans (size_le gr9) (hb3 g hg))
                      have gr10 := gr_trans gr9 hg9
                      have k5 := k3.grown hg9
                      have k6 := ht971.grown hg9
                      refine WL.y rfl (Yld.pure tab_ok rfl) ?_
                      refine WL.y rfl (Yld.pure tab_ok rfl) ?_
                      refine WL.y rfl (Yld.pure tab_ok rfl) ?_
                      refine WL.y rfl (Yld.pure tab_ok rfl) ?_
                      refine WL.y rfl (Yld.pure tab_ok rfl) ?_
                      refine WL.nil (WX.then_normal ?_)
                      refine WC.seq ?_
                      refine WC.seq ?_
                      refine WC.region ?_
                      refine WL.y rfl (Yld.pure tab_ok rfl) ?_
                      refine WL.y rfl (Yld.pure tab_ok rfl) ?_
                      refine WL.nil (WX.then_normal ?_)
                      refine WC.cond rfl (fun b6 => ?_) (fun b6 => ?_)
                      · replace H := H.1 (of_decide_eq_true b6)
                        refine WC.seq ?_
                        refine WC.region ?_
                        refine WL.y rfl (Yld.pure tab_ok rfl) ?_
                        refine WL.y rfl (Yld.pure tab_ok rfl) ?_
                        refine WL.y rfl (Yld.pure tab_ok rfl) ?_
                        refine WL.y rfl (Yld.pure tab_ok rfl) ?_
                        obtain ⟨J2, H, hJ2⟩ := H
                        refine WL.midF 5 (fun L' w' => ∃ q7 : Bool, L' = [(117, .bool q7)] ∧ J2 q7 ∧ w.grownBy w' none) ?_ (fun hQ => ?_)
                        · clear H
                          rintro _ w11 ⟨q7, rfl, H, gr11⟩
                          replace H := hJ2 q7 H
                          refine WL.y rfl (Yld.pure tab_ok rfl) ?_
                          refine WL.nil (WX.then_normal ?_)
                          refine WC.ret (WX.then_ret ?_)
                          exact WX.ret1 rfl rfl ⟨gr11, q7, rfl, H⟩
                        · clear hJ2
                          rcases Bool.eq_false_or_eq_true (decide ((t970.length : Int) = (0 : Int))) with b7 | b7
                          · replace H := H.1 b7
                            refine WL.gyes rfl rfl (okb b7) rfl (Yld.pure tab_ok rfl) ?_
                            refine WL.gyes rfl rfl (okb b7) rfl (Yld.pure tab_ok rfl) ?_
                            refine WL.callw (wants_some rfl rfl (okb b7)) rfl rfl (W_smithyref_Placed H) ?_
                            rintro _ w12 ⟨hg10, t115_Code, t115_Placed, t115_Pos, t115_Filed, t115_File, rfl, H⟩
                            have gr12 := gr_trans gr10 hg10
                            have k7 := k6.grown hg10
                            refine WL.callw (wants_some rfl rfl (okb b7)) rfl rfl (W_smithysee_Same (hG.grown gr12) hS0 hS1 hS2 hS3 hS4 hS5 hS6 hS7 hS8 hS9 hS10 hS11 hS12 hS13 hS14 hS15 hS16 k7 H) ?_
                            rintro _ w13 ⟨hg11, t116, rfl, H⟩
                            have gr13 := gr_trans gr12 hg11
                            have k8 := k7.grown hg11
                            refine WL.y rfl (Yld.pickT (okb b7) rfl) ?_
                            exact WL.weaken (by repeat (first | exact Sub.nil | refine Sub.cons rfl ?_)) (hQ _ _ ⟨t116, rfl, H, gr13⟩)
                          · replace H := H.2 b7
                            refine WL.gno rfl rfl (okb b7) rfl ?_
                            refine WL.gno rfl rfl (okb b7) rfl ?_
                            refine WL.gno rfl rfl (okb b7) rfl ?_
                            refine WL.gno rfl rfl (okb b7) rfl ?_
                            refine WL.y rfl (Yld.pickF (okb b7) rfl) ?_
                            exact WL.weaken (by repeat (first | exact Sub.nil | refine Sub.cons rfl ?_)) (hQ _ _ ⟨false, rfl, H, gr10⟩)
                      · replace H := H.2 (of_decide_eq_false b6)
                        refine WC.skip (WX.then_normal ?_)
                        refine WC.seq ?_
                        refine WC.region ?_
                        refine WL.y rfl (Yld.pure tab_ok rfl) ?_
                        refine WL.y rfl (Yld.erreql Tryd.underlying30 k6 rfl) ?_
                        refine WL.y rfl (Yld.pure tab_ok rfl) ?_
                        obtain ⟨J3, H, hJ3⟩ := H
                        refine WL.midF 4 (fun L' w' => ∃ q8 : Bool, L' = [(124, .bool q8)] ∧ J3 q8 ∧ w10 = w') ?_ (fun hQ => ?_)
                        · clear H
                          rintro _ _ ⟨q8, rfl, H, rfl⟩
                          replace H := hJ3 q8 H
                          refine WL.y rfl (Yld.pure tab_ok rfl) ?_
                          refine WL.nil (WX.then_normal ?_)
                          refine WC.ret ?_
                          exact WX.ret1 rfl rfl ⟨gr10, q8, rfl, H⟩
                        · clear hJ3
                          rcases Bool.eq_false_or_eq_true (decide (t971 = Er.ok)) with b8 | b8
                          · replace H := H.1 b8
                            refine WL.gyes rfl rfl (okb b8) rfl (Yld.pure tab_ok rfl) ?_
                            refine WL.gyes rfl rfl (okb b8) rfl (Yld.pure tab_ok rfl) ?_
                            refine WL.callw (wants_some rfl rfl (okb b8)) rfl rfl (W_smithyref_SameTexts k5.rd rfl k4.rd rfl H) ?_
                            rintro _ _ ⟨rfl, t123, rfl, H⟩
                            refine WL.y rfl (Yld.pickT (okb b8) rfl) ?_
                            exact WL.weaken (by repeat (first | exact Sub.nil | refine Sub.cons rfl ?_)) (hQ _ _ ⟨t123, rfl, H, rfl⟩)
                          · replace H := H.2 b8
                            refine WL.gno rfl rfl (okb b8) rfl ?_
                            refine WL.gno rfl rfl (okb b8) rfl ?_
                            refine WL.gno rfl rfl (okb b8) rfl ?_
                            refine WL.y rfl (Yld.pickF (okb b8) rfl) ?_
                            exact WL.weaken (by repeat (first | exact Sub.nil | refine Sub.cons rfl ?_)) (hQ _ _ ⟨false, rfl, H, rfl⟩)
                  · clear hJ1
                    rcases Bool.eq_false_or_eq_true (!t81) with b9 | b9
                    · replace H := H.1 b9
                      refine WL.gno rfl rfl (okb b9) rfl ?_
                      refine WL.gno rfl rfl (okb b9) rfl ?_
                      refine WL.gno rfl rfl (okb b9) rfl ?_
                      refine WL.gun rfl rfl rfl rfl ?_
                      refine WL.gun rfl rfl rfl rfl ?_
                      refine WL.gun rfl rfl rfl rfl ?_
                      refine WL.gno rfl rfl (okb b9) rfl ?_
                      refine WL.gno rfl rfl (okb b9) rfl ?_
                      refine WL.y rfl (Yld.pickT (okb b9) rfl) ?_
                      exact WL.weaken (by repeat (first | exact Sub.nil | refine Sub.cons rfl ?_)) (hQ _ _ ⟨true, rfl, H, gr7⟩)
                    · replace H := H.2 b9
                      refine WL.gyes rfl rfl (okb b9) rfl (Yld.pure tab_ok rfl) ?_
                      refine WL.gyes rfl rfl (okb b9) rfl (Yld.pure tab_ok rfl) ?_
                      refine WL.gyes rfl rfl (okb b9) rfl (Yld.pure tab_ok rfl) ?_
                      rcases Bool.eq_false_or_eq_true (good) with b10 | b10
                      · replace H := H.1 b10
                        refine WL.gyes rfl rfl (okb b10) rfl (Yld.pure tab_ok rfl) ?_
                        refine WL.gyes rfl rfl (okb b10) rfl (Yld.pure tab_ok rfl) ?_
                        refine WL.callw (wants_some rfl rfl (okb b10)) rfl rfl (W_smithyref1_Match H) ?_
                        rintro _ w14 ⟨hg12, t89, rfl, H⟩
                        have gr14 := gr_trans gr7 hg12
                        refine WL.gyes rfl rfl (okb b9) rfl (Yld.pickT (okb b10) rfl) ?_
                        refine WL.gyes rfl rfl (okb b9) rfl (Yld.bneq Tryd.underlying4 rfl rfl) ?_
                        refine WL.y rfl (Yld.pickF (okb b9) rfl) ?_
                        exact WL.weaken (by repeat (first | exact Sub.nil | refine Sub.cons rfl ?_)) (hQ _ _ ⟨!(t730 == t89), rfl, H, gr14⟩)
                      · replace H := H.2 b10
                        refine WL.gno rfl rfl (okb b10) rfl ?_
                        refine WL.gno rfl rfl (okb b10) rfl ?_
                        refine WL.gno rfl rfl (okb b10) rfl ?_
                        refine WL.gyes rfl rfl (okb b9) rfl (Yld.pickF (okb b10) rfl) ?_
                        refine WL.gyes rfl rfl (okb b9) rfl (Yld.bneq Tryd.underlying4 rfl rfl) ?_
                        refine WL.y rfl (Yld.pickF (okb b9) rfl) ?_
                        exact WL.weaken (by repeat (first | exact Sub.nil | refine Sub.cons rfl ?_)) (hQ _ _ ⟨!(t730 == false), rfl, H, gr7⟩)
            · clear H
              rcases Bool.eq_false_or_eq_true (((((decide ((210 : Int) < (pattern.length : Int))) || (decide ((210 : Int) < (p.length : Int)))) || (decide ((8 : Int) < (l.length : Int)))) || (decide ((8 : Int) < (but.length : Int)))) || (decide ((30 : Int) < (paths.length : Int)))) with b11 | b11
              · refine WL.gno rfl rfl (okb b11) rfl ?_
                refine WL.gno rfl rfl (okb b11) rfl ?_
                refine WL.y rfl (Yld.pickT (okb b11) rfl) ?_
                exact WL.weaken (by repeat (first | exact Sub.nil | refine Sub.cons rfl ?_)) (hQ _ _ ⟨true, rfl, by rw [b11] <;> rfl, rfl⟩)
              · refine WL.gyes rfl rfl (okb b11) rfl (Yld.pure tab_ok rfl) ?_
                refine WL.gyes rfl rfl (okb b11) rfl (Yld.pure tab_ok rfl) ?_
                refine WL.y rfl (Yld.pickF (okb b11) rfl) ?_
                exact WL.weaken (by repeat (first | exact Sub.nil | refine Sub.cons rfl ?_)) (hQ _ _ ⟨!ok, rfl, by rw [b11] <;> rfl, rfl⟩)
          · clear H
            rcases Bool.eq_false_or_eq_true ((((decide ((210 : Int) < (pattern.length : Int))) || (decide ((210 : Int) < (p.length : Int)))) || (decide ((8 : Int) < (l.length : Int)))) || (decide ((8 : Int) < (but.length : Int)))) with b12 | b12
            · refine WL.gno rfl rfl (okb b12) rfl ?_
              refine WL.gno rfl rfl (okb b12) rfl ?_
              refine WL.gno rfl rfl (okb b12) rfl ?_
              refine WL.y rfl (Yld.pickT (okb b12) rfl) ?_
              exact WL.weaken (by repeat (first | exact Sub.nil | refine Sub.cons rfl ?_)) (hQ _ _ ⟨true, rfl, by rw [b12] <;> rfl, rfl⟩)
            · refine WL.gyes rfl rfl (okb b12) rfl (Yld.pure tab_ok rfl) ?_
              refine WL.gyes rfl rfl (okb b12) rfl (Yld.pure tab_ok rfl) ?_
              refine WL.gyes rfl rfl (okb b12) rfl (Yld.pure tab_ok rfl) ?_
              refine WL.y rfl (Yld.pickF (okb b12) rfl) ?_
              exact WL.weaken (by repeat (first | exact Sub.nil | refine Sub.cons rfl ?_)) (hQ _ _ ⟨decide ((30 : Int) < (paths.length : Int)), rfl, by rw [b12] <;> rfl, rfl⟩)
        · clear H
          rcases Bool.eq_false_or_eq_true (((decide ((210 : Int) < (pattern.length : Int))) || (decide ((210 : Int) < (p.length : Int)))) || (decide ((8 : Int) < (l.length : Int)))) with b13 | b13
          · refine WL.gno rfl rfl (okb b13) rfl ?_
            refine WL.gno rfl rfl (okb b13) rfl ?_
            refine WL.gno rfl rfl (okb b13) rfl ?_
            refine WL.y rfl (Yld.pickT (okb b13) rfl) ?_
            exact WL.weaken (by repeat (first | exact Sub.nil | refine Sub.cons rfl ?_)) (hQ _ _ ⟨true, rfl, by rw [b13] <;> rfl, rfl⟩)
          · refine WL.gyes rfl rfl (okb b13) rfl (Yld.pure tab_ok rfl) ?_
            refine WL.gyes rfl rfl (okb b13) rfl (Yld.pure tab_ok rfl) ?_
            refine WL.gyes rfl rfl (okb b13) rfl (Yld.pure tab_ok rfl) ?_
            refine WL.y rfl (Yld.pickF (okb b13) rfl) ?_
            exact WL.weaken (by repeat (first | exact Sub.nil | refine Sub.cons rfl ?_)) (hQ _ _ ⟨decide ((8 : Int) < (but.length : Int)), rfl, by rw [b13] <;> rfl, rfl⟩)
      · clear H
        rcases Bool.eq_false_or_eq_true ((decide ((210 : Int) < (pattern.length : Int))) || (decide ((210 : Int) < (p.length : Int)))) with b14 | b14
        · refine WL.gno rfl rfl (okb b14) rfl ?_
          refine WL.gno rfl rfl (okb b14) rfl ?_
          refine WL.gno rfl rfl (okb b14) rfl ?_
          refine WL.y rfl (Yld.pickT (okb b14) rfl) ?_
          exact WL.weaken (by repeat (first | exact Sub.nil | refine Sub.cons rfl ?_)) (hQ _ _ ⟨true, rfl, by rw [b14] <;> rfl, rfl⟩)
        · refine WL.gyes rfl rfl (okb b14) rfl (Yld.pure tab_ok rfl) ?_
          refine WL.gyes rfl rfl (okb b14) rfl (Yld.pure tab_ok rfl) ?_
          refine WL.gyes rfl rfl (okb b14) rfl (Yld.pure tab_ok rfl) ?_
          refine WL.y rfl (Yld.pickF (okb b14) rfl) ?_
          exact WL.weaken (by repeat (first | exact Sub.nil | refine Sub.cons rfl ?_)) (hQ _ _ ⟨decide ((8 : Int) < (l.length : Int)), rfl, by rw [b14] <;> rfl, rfl⟩)
    · clear H
      rcases Bool.eq_false_or_eq_true (decide ((210 : Int) < (pattern.length : Int))) with b15 | b15
      · refine WL.gno rfl rfl (okb b15) rfl ?_
        refine WL.gno rfl rfl (okb b15) rfl ?_
        refine WL.gno rfl rfl (okb b15) rfl ?_
        refine WL.y rfl (Yld.pickT (okb b15) rfl) ?_
        exact WL.weaken (by repeat (first | exact Sub.nil | refine Sub.cons rfl ?_)) (hQ _ _ ⟨true, rfl, by rw [b15] <;> rfl, rfl⟩)
      · refine WL.gyes rfl rfl (okb b15) rfl (Yld.pure tab_ok rfl) ?_
        refine WL.gyes rfl rfl (okb b15) rfl (Yld.pure tab_ok rfl) ?_
        refine WL.gyes rfl rfl (okb b15) rfl (Yld.pure tab_ok rfl) ?_
        refine WL.y rfl (Yld.pickF (okb b15) rfl) ?_
        exact WL.weaken (by repeat (first | exact Sub.nil | refine Sub.cons rfl ?_)) (hQ _ _ ⟨decide ((210 : Int) < (p.length : Int)), rfl, by rw [b15] <;> rfl, rfl⟩)

set_option maxHeartbeats 8000000 in
theorem W_smithylaw1_PathGlobs {S : List Nat} {w : World} {l : List (List UInt8)} {A_l : Option Addr} {c_l : Nat} {but : List (List UInt8)} {A_but : Option Addr} {c_but : Nat} {paths : List (List UInt8)} {A_paths : Option Addr} {c_paths : Nat} {more : List UInt8} {n_l : Nat} {n_but : Nat} {n_paths : Nat} {K : Bool → Prop} (hG : GOK S w) (hS11 : 11 ∈ S) (hS100 : 100 ∈ S) (hl : Rd vs w A_l c_l l) (hn_l : n_l = l.length) (hbut : Rd vs w A_but c_but but) (hn_but : n_but = but.length) (hpaths : Rd vs w A_paths c_paths paths) (hn_paths : n_paths = paths.length) (H : M_smithylaw1_PathGlobs l but paths more K) : Fn Tryd.prog 14 ⟨[.slice A_l n_l c_l, .slice A_but n_but c_but, .slice A_paths n_paths c_paths, vs more]⟩ w (fun v w' => w.grownBy w' none ∧ ∃ (r : Bool), v = .bool r ∧ K r) := by
  subst hn_l
  subst hn_but
  subst hn_paths
  unfold M_smithylaw1_PathGlobs at H
  refine Fn.enter (by kernel_rfl) Tryd.func14 rfl Tryd.ntmps14 rfl ?_
  replace H := H (Nat.le_trans hl.cap hl.max)
  replace H := H (Nat.le_trans hbut.cap hbut.max)
  replace H := H (Nat.le_trans hpaths.cap hpaths.max)
  refine WC.seq ?_
  refine WC.region ?_
  refine WL.y rfl (Yld.pure tab_ok rfl) ?_
  refine WL.nil (WX.then_normal ?_)
  refine WC.seq ?_
  refine WC.region ?_
  refine WL.call rfl rfl (W_smithylaw1_first hG hS11 hS100 H) ?_
  rintro _ w1 ⟨hg1, ok, rfl, H⟩
  have gr1 := hg1
  refine WL.y rfl (Yld.pure tab_ok rfl) ?_
  refine WL.nil (WX.then_normal ?_)
  refine WC.seq ?_
  refine WC.seq ?_
  refine WC.region ?_
  refine WL.y rfl (Yld.pure tab_ok rfl) ?_
  refine WL.y rfl (Yld.pure tab_ok rfl) ?_
  refine WL.nil (WX.then_normal ?_)
  refine WC.cond rfl (fun b1 => ?_) (fun b1 => ?_)
  · replace H := H.1 (b1)
    refine WC.seq ?_
    refine WC.region ?_
    refine WL.y rfl (Yld.pure tab_ok rfl) ?_
    refine WL.nil (WX.then_normal ?_)
    refine WC.ret (WX.then_ret ?_)
    exact WX.ret1 rfl rfl ⟨gr1, false, rfl, H⟩
  · replace H := H.2 (b1)
    refine WC.skip (WX.then_normal ?_)
    refine WC.seq ?_
    refine WC.seq ?_
    refine WC.region ?_
    refine WL.y rfl (Yld.pure tab_ok rfl) ?_
    refine WL.y rfl (Yld.pure tab_ok rfl) ?_
    refine WL.y rfl (Yld.pure tab_ok rfl) ?_
    refine WL.y rfl (Yld.pure tab_ok rfl) ?_
    refine WL.midF 4 (fun L' w' => ∃ q1 : Bool, L' = [(31, .bool q1), (0, .slice A_l l.length c_l), (1, .slice A_but but.length c_but), (2, .slice A_paths paths.length c_paths), (3, vs more), (9, .bool ok)] ∧ q1 = ((decide ((6 : Int) < (l.length : Int))) || (decide ((6 : Int) < (but.length : Int)))) ∧ w1 = w') ?_ (fun hQ => ?_)
    · rintro _ _ ⟨q1, rfl, rfl, rfl⟩
      refine WL.y rfl (Yld.pure tab_ok rfl) ?_
      refine WL.midF 4 (fun L' w' => ∃ q2 : Bool, L' = [(36, .bool q2), (0, .slice A_l l.length c_l), (1, .slice A_but but.length c_but), (2, .slice A_paths paths.length c_paths), (3, vs more), (9, .bool ok)] ∧ q2 = (((decide ((6 : Int) < (l.length : Int))) || (decide ((6 : Int) < (but.length : Int)))) || (decide ((20 : Int) < (paths.length : Int)))) ∧ w1 = w') ?_ (fun hQ => ?_)
      · rintro _ _ ⟨q2, rfl, rfl, rfl⟩
        refine WL.y rfl (Yld.pure tab_ok rfl) ?_
        refine WL.midF 4 (fun L' w' => ∃ q3 : Bool, L' = [(41, .bool q3), (0, .slice A_l l.length c_l), (1, .slice A_but but.length c_but), (2, .slice A_paths paths.length c_paths), (3, vs more), (9, .bool ok)] ∧ q3 = ((((decide ((6 : Int) < (l.length : Int))) || (decide ((6 : Int) < (but.length : Int)))) || (decide ((20 : Int) < (paths.length : Int)))) || (decide ((100 : Int) < (more.length : Int)))) ∧ w1 = w') ?_ (fun hQ => ?_)
        · rintro _ _ ⟨q3, rfl, rfl, rfl⟩
          refine WL.y rfl (Yld.pure tab_ok rfl) ?_
          refine WL.midF 3 (fun L' w' => ∃ q4 : Bool, L' = [(45, .bool q4), (0, .slice A_l l.length c_l), (1, .slice A_but but.length c_but), (2, .slice A_paths paths.length c_paths), (3, vs more), (9, .bool ok)] ∧ q4 = (((((decide ((6 : Int) < (l.length : Int))) || (decide ((6 : Int) < (but.length : Int)))) || (decide ((20 : Int) < (paths.length : Int)))) || (decide ((100 : Int) < (more.length : Int)))) || (!ok)) ∧ w1 = w') ?_ (fun hQ => ?_)
          · rintro _ _ ⟨q4, rfl, rfl, rfl⟩
            refine WL.nil (WX.then_normal ?_)
            refine WC.cond rfl (fun b2 => ?_) (fun b2 => ?_)
            · replace H := H.1 (b2)
              refine WC.seq ?_
              refine WC.region ?_
              refine WL.y rfl (Yld.pure tab_ok rfl) ?_
              refine WL.y rfl (Yld.pure tab_ok rfl) ?_
              refine WL.nil (WX.then_normal ?_)
              refine WC.ret (WX.then_ret ?_)
              exact WX.ret1 rfl rfl ⟨gr1, ok, rfl, H⟩
            · replace H := H.2 (b2)
              refine WC.skip (WX.then_normal ?_)
              refine WC.seq ?_
              refine WC.region ?_
              refine WL.y rfl (Yld.pure tab_ok rfl) ?_
              refine WL.call rfl rfl (W_smithyref_Texts (hl.grown gr1) rfl H) ?_
              rintro _ w2 ⟨hg2, t48, A_t48, c_t48, rfl, ht48, H⟩
              have hb1 := ht48.ge'
              have k1 := ht48.base (fun g hg => Nat.le_trans (size_le gr1) (hb1 g hg))
              have gr2 := gr_trans gr1 hg2
              refine WL.y rfl (Yld.pure tab_ok rfl) ?_
              obtain ⟨h1, H⟩ := H
              refine WL.append tab_ok rfl rfl One.s k1 rfl rfl (hbut.grown gr2) rfl rfl h1 (applen h1) (size_le gr2) (fun A_t50 c_t50 w3 hO1 hg3 hk1 => ?_)
              have gr3 := gr_mod gr2 hg3 k1.ge'
              refine WL.y rfl (Yld.pure tab_ok rfl) ?_
              obtain ⟨h2, H⟩ := H
              refine WL.append tab_ok rfl rfl One.s hO1 rfl rfl (hpaths.grown gr3) rfl rfl h2 (applen h2) (size_le gr3) (fun A_all c_all w4 hO2 hg4 hk2 => ?_)
              have gr4 := gr_mod gr3 hg4 hO1.ge'
              refine WL.y rfl (Yld.pure tab_ok rfl) ?_
              refine WL.nil (WX.then_normal ?_)
              refine WC.seq ?_
              refine WC.seq ?_
              refine WC.region ?_
              refine WL.y rfl (Yld.pure tab_ok rfl) ?_
              refine WL.nil (WX.then_normal ?_)
              refine WC.block ?_
              obtain ⟨I1, mu1, h0_1, HR1⟩ := H
              refine WC.loopF (fun n' L' w' => ∃ (i : Int), n' = mu1 i ∧ L' = [(0, .slice A_l l.length c_l), (1, .slice A_but but.length c_but), (2, .slice A_paths paths.length c_paths), (3, vs more), (10, .slice A_all (((t48 ++ but) ++ paths).length) c_all), (11, .int .i64 i)] ∧ I1 i ∧ w4 = w') _ _ ⟨(0 : Int), rfl, rfl, h0_1, rfl⟩ (by repeat (first | exact Sub.nil | refine Sub.cons rfl ?_)) ?_
              clear h0_1
              rintro _ _ _ ⟨i, rfl, rfl, hI1, rfl⟩
              have H := HR1 i hI1
              refine WC.seq ?_
              refine WC.seq ?_
              refine WC.region ?_
              refine WL.y rfl (Yld.pure tab_ok rfl) ?_
              refine WL.y rfl (Yld.pure tab_ok rfl) ?_
              refine WL.y rfl (Yld.pure tab_ok rfl) ?_
              refine WL.y rfl (Yld.pure tab_ok rfl) ?_
              refine WL.nil (WX.then_normal ?_)
              refine WC.cond rfl (fun b3 => ?_) (fun b3 => ?_)
              · replace H := H.1 (of_decide_eq_true b3)
                refine WC.skip (WX.then_normal ?_)
                refine WC.seq ?_
                refine WC.block ?_
                refine WC.seq ?_
                refine WC.region ?_
                refine WL.y rfl (Yld.pure tab_ok rfl) ?_
                refine WL.y rfl (Yld.pure tab_ok rfl) ?_
                obtain ⟨h3, H⟩ := H
                refine WL.y rfl (Yld.iaddrW tab_ok hO2.rd rfl rfl rfl rfl h3.1 h3.2) ?_
                refine WL.y rfl (Yld.iload [] tab_ok hO2.rd rfl rfl (iltN h3 rfl)) ?_
                refine WL.y rfl (Yld.pure tab_ok rfl) ?_
                refine WL.y rfl (Yld.pure tab_ok rfl) ?_
                refine WL.nil (WX.then_normal ?_)
                refine WC.cond rfl (fun b4 => ?_) (fun b4 => ?_)
                · replace H := H.1 (of_decide_eq_true b4)
                  refine WC.seq ?_
                  refine WC.region ?_
                  refine WL.y rfl (Yld.pure tab_ok rfl) ?_
                  refine WL.nil (WX.then_normal ?_)
                  refine WC.ret (WX.block_ret (WX.then_ret (WX.then_ret (WX.block_ret (WX.then_ret ?_)))))
                  exact WX.ret1 rfl rfl ⟨gr4, true, rfl, H⟩
                · replace H := H.2 (of_decide_eq_false b4)
                  refine WC.skip (WX.block_normal (WX.then_normal ?_))
                  refine WC.region ?_
                  refine WL.y rfl (Yld.pure tab_ok rfl) ?_
                  obtain ⟨h4, H⟩ := H
                  refine WL.y rfl (Yld.add rfl rfl h4) ?_
                  refine WL.y rfl (Yld.pure tab_ok rfl) ?_
                  refine WL.nil ?_
                  exact WX.roundF _ ⟨i + (1 : Int), rfl, rfl, H.1, rfl⟩ (by repeat (first | exact Sub.nil | refine Sub.cons rfl ?_)) H.2
              · replace H := H.2 (of_decide_eq_false b3)
                refine WC.exit (WX.then_exit (WX.then_exit (WX.block_same (WX.then_normal ?_))))
                refine WC.seq ?_
                refine WC.region ?_
                refine WL.y rfl (Yld.pure tab_ok rfl) ?_
                refine WL.y rfl (Yld.pure tab_ok rfl) ?_
                refine WL.y rfl (Yld.pure tab_ok rfl) ?_
                refine WL.call rfl rfl (W_path_Glob (hG.grown gr4) hS11 hS100 (hl.grown gr4) rfl (hbut.grown gr4) rfl (hpaths.grown gr4) rfl H) ?_
                rintro _ w5 ⟨hg5, t690, A_t690, c_t690, v_t691, t691, rfl, ht690, ht691, H⟩
                have hb2 := ht690.ge'
                have k2 := ht690.base (fun g hg => Nat.le_trans (size_le gr4) (hb2 g hg))
                have gr5 := gr_trans gr4 hg5
                refine WL.y rfl (Yld.pure tab_ok rfl) ?_
                refine WL.y rfl (Yld.pure tab_ok rfl) ?_
                refine WL.y rfl (Yld.pure tab_ok rfl) ?_
                refine WL.y rfl (Yld.pure tab_ok rfl) ?_
                refine WL.y rfl (Yld.pure tab_ok rfl) ?_
                refine WL.nil (WX.then_normal ?_)
                refine WC.seq ?_
                refine WC.region ?_
                refine WL.y rfl (Yld.pure tab_ok rfl) ?_
                refine WL.call rfl rfl (W_smithyref_Texts (hl.grown gr5) rfl H) ?_
                rintro _ w6 ⟨hg6, t74, A_t74, c_t74, rfl, ht74, H⟩
                have hb3 := ht74.ge'
                have k3 := ht74.base (fun g hg => Nat.le_trans (size_le gr5) (hb3 g hg))
                have gr6 := gr_trans gr5 hg6
                have k4 := k2.grown hg6
                have k5 := ht691.grown hg6
                refine WL.y rfl (Yld.pure tab_ok rfl) ?_
                refine WL.lit tab_ok rfl rfl rfl (all1c rfl all1n) rfl (by omega) (fun g1 w7 hB1 hg7 hl1 => ?_)
                have hO3 : Own vs w7 w.heap.size 9 (some ⟨g1, 0, none⟩) 1 ([more] : List (List UInt8)) := Own.ofBl hB1 (Nat.le_trans (size_le gr6) hl1) (by simp [maxLen]) rfl
                have gr7 := gr_trans gr6 hg7
                have k6 := k4.grown hg7
                have k7 := k5.grown hg7
                have k8 := k3.grown hg7
                obtain ⟨h5, H⟩ := H
                refine WL.append tab_ok rfl rfl One.s k8 rfl rfl hO3.rd rfl rfl h5 (applen h5) (size_le gr7) (fun A_t77 c_t77 w8 hO4 hg8 hk3 => ?_)
                have gr8 := gr_mod gr7 hg8 k8.ge'
                have k9 := k6.go hg8 (Dj.new k2.lt' hb3)
                have k10 := ErrR.goO k7 hG gr7 hg8 gr8 k8 rfl
                refine WL.y rfl (Yld.pure tab_ok rfl) ?_
                refine WL.y rfl (Yld.pure tab_ok rfl) ?_
                refine WL.call rfl rfl (W_path_Glob (hG.grown gr8) hS11 hS100 hO4.rd rfl (hbut.grown gr8) rfl (hpaths.grown gr8) rfl H) ?_
                rintro _ w9 ⟨hg9, t800, A_t800, c_t800, v_t801, t801, rfl, ht800, ht801, H⟩
                have hb4 := ht800.ge'
                have k11 := ht800.base (fun g hg => Nat.le_trans (size_le gr8) (hb4 g hg))
                have gr9 := gr_trans gr8 hg9
                have k12 := k9.grown hg9
                have k13 := k10.grown hg9
                refine WL.y rfl (Yld.pure tab_ok rfl) ?_
                refine WL.y rfl (Yld.pure tab_ok rfl) ?_
                refine WL.y rfl (Yld.pure tab_ok rfl) ?_
                refine WL.y rfl (Yld.pure tab_ok rfl) ?_
                refine WL.y rfl (Yld.pure tab_ok rfl) ?_
                refine WL.nil (WX.then_normal ?_)
                refine WC.seq ?_
                refine WC.region ?_
                refine WL.y rfl (Yld.pure tab_ok rfl) ?_
                refine WL.y rfl (Yld.pure tab_ok rfl) ?_
                refine WL.call rfl rfl (W_smithyref_Texts (hbut.grown gr9) rfl H) ?_
                rintro _ w10 ⟨hg10, t86, A_t86, c_t86, rfl, ht86, H⟩
                have hb5 := ht86.ge'
                have k14 := ht86.base (fun g hg => Nat.le_trans (size_le gr9) (hb5 g hg))
                have gr10 := gr_trans gr9 hg10
                have k15 := k12.grown hg10
                have k16 := k13.grown hg10
                have k17 := k11.grown hg10
                have k18 := ht801.grown hg10
                refine WL.y rfl (Yld.pure tab_ok rfl) ?_
                refine WL.lit tab_ok rfl rfl rfl (all1c rfl all1n) rfl (by omega) (fun g2 w11 hB2 hg11 hl2 => ?_)
                have hO5 : Own vs w11 w.heap.size 9 (some ⟨g2, 0, none⟩) 1 ([more] : List (List UInt8)) := Own.ofBl hB2 (Nat.le_trans (size_le gr10) hl2) (by simp [maxLen]) rfl
                have gr11 := gr_trans gr10 hg11
                have k19 := k15.grown hg11
                have k20 := k16.grown hg11
                have k21 := k17.grown hg11
                have k22 := k18.grown hg11
                have k23 := k14.grown hg11
                obtain ⟨h6, H⟩ := H
                refine WL.append tab_ok rfl rfl One.s k23 rfl rfl hO5.rd rfl rfl h6 (applen h6) (size_le gr11) (fun A_t89 c_t89 w12 hO6 hg12 hk4 => ?_)
                have gr12 := gr_mod gr11 hg12 k23.ge'
                have k24 := k19.go hg12 (Dj.new k12.lt' hb5)
                have k25 := ErrR.goO k20 hG gr11 hg12 gr12 k23 rfl
                have k26 := k21.go hg12 (Dj.new k11.lt' hb5)
                have k27 := ErrR.goO k22 hG gr11 hg12 gr12 k23 rfl
                refine WL.y rfl (Yld.pure tab_ok rfl) ?_
                refine WL.call rfl rfl (W_path_Glob (hG.grown gr12) hS11 hS100 (hl.grown gr12) rfl hO6.rd rfl (hpaths.grown gr12) rfl H) ?_
                rintro _ w13 ⟨hg13, t910, A_t910, c_t910, v_t911, t911, rfl, ht910, ht911, H⟩
                have hb6 := ht910.ge'
                have k28 := ht910.base (fun g hg => Nat.le_trans (size_le gr12) (hb6 g hg))
                have gr13 := gr_trans gr12 hg13
                have k29 := k24.grown hg13
                have k30 := k25.grown hg13
                have k31 := k26.grown hg13
                have k32 := k27.grown hg13
                refine WL.y rfl (Yld.pure tab_ok rfl) ?_
                refine WL.y rfl (Yld.pure tab_ok rfl) ?_
                refine WL.y rfl (Yld.pure tab_ok rfl) ?_
                refine WL.y rfl (Yld.pure tab_ok rfl) ?_
                refine WL.y rfl (Yld.pure tab_ok rfl) ?_
                refine WL.nil (WX.then_normal ?_)
                refine WC.seq ?_
                refine WC.seq ?_
                refine WC.region ?_
                refine WL.y rfl (Yld.pure tab_ok rfl) ?_
                refine WL.y rfl (Yld.errneq Tryd.underlying30 k30 rfl) ?_
                refine WL.nil (WX.then_normal ?_)
                refine WC.cond rfl (fun b5 => ?_) (fun b5 => ?_)
                · replace H := H.1 (nd_true b5)
                  refine WC.seq ?_
                  refine WC.region ?_
                  refine WL.y rfl (Yld.pure tab_ok rfl) ?_
                  refine WL.y rfl (Yld.pure tab_ok rfl) ?_
                  refine WL.y rfl (Yld.pure tab_ok rfl) ?_
                  refine WL.y rfl (Yld.pure tab_ok rfl) ?_
                  refine WL.midF 3 (fun L' w' => ∃ q5 : Bool, L' = [(102, .bool q5), (17, v_t911)] ∧ q5 = ((decide ((t690.length : Int) = (0 : Int))) && (!decide (t801 = Er.ok))) ∧ w13 = w') ?_ (fun hQ => ?_)
                  · rintro _ _ ⟨q5, rfl, rfl, rfl⟩
                    refine WL.y rfl (Yld.pure tab_ok rfl) ?_
                    refine WL.midF 3 (fun L' w' => ∃ q6 : Bool, L' = [(106, .bool q6)] ∧ q6 = (((decide ((t690.length : Int) = (0 : Int))) && (!decide (t801 = Er.ok))) && (!decide (t911 = Er.ok))) ∧ w13 = w') ?_ (fun hQ => ?_)
                    · rintro _ _ ⟨q6, rfl, rfl, rfl⟩
                      refine WL.y rfl (Yld.pure tab_ok rfl) ?_
                      refine WL.nil (WX.then_normal ?_)
                      refine WC.ret (WX.then_ret ?_)
                      exact WX.ret1 rfl rfl ⟨gr13, ((decide ((t690.length : Int) = (0 : Int))) && (!decide (t801 = Er.ok))) && (!decide (t911 = Er.ok)), rfl, H⟩
                    · clear H
                      rcases Bool.eq_false_or_eq_true ((decide ((t690.length : Int) = (0 : Int))) && (!decide (t801 = Er.ok))) with b6 | b6
                      · refine WL.gyes rfl rfl (okb b6) rfl (Yld.pure tab_ok rfl) ?_
                        refine WL.gyes rfl rfl (okb b6) rfl (Yld.errneq Tryd.underlying30 ht911 rfl) ?_
                        refine WL.y rfl (Yld.pickT (okb b6) rfl) ?_
                        exact WL.weaken (by repeat (first | exact Sub.nil | refine Sub.cons rfl ?_)) (hQ _ _ ⟨!decide (t911 = Er.ok), rfl, by rw [b6] <;> rfl, rfl⟩)
                      · refine WL.gno rfl rfl (okb b6) rfl ?_
                        refine WL.gno rfl rfl (okb b6) rfl ?_
                        refine WL.y rfl (Yld.pickF (okb b6) rfl) ?_
                        exact WL.weaken (by repeat (first | exact Sub.nil | refine Sub.cons rfl ?_)) (hQ _ _ ⟨false, rfl, by rw [b6] <;> rfl, rfl⟩)
                  · clear H
                    rcases Bool.eq_false_or_eq_true (decide ((t690.length : Int) = (0 : Int))) with b7 | b7
                    · refine WL.gyes rfl rfl (okb b7) rfl (Yld.pure tab_ok rfl) ?_
                      refine WL.gyes rfl rfl (okb b7) rfl (Yld.errneq Tryd.underlying30 k32 rfl) ?_
                      refine WL.y rfl (Yld.pickT (okb b7) rfl) ?_
                      exact WL.weaken (by repeat (first | exact Sub.nil | refine Sub.cons rfl ?_)) (hQ _ _ ⟨!decide (t801 = Er.ok), rfl, by rw [b7] <;> rfl, rfl⟩)
                    · refine WL.gno rfl rfl (okb b7) rfl ?_
                      refine WL.gno rfl rfl (okb b7) rfl ?_
                      refine WL.y rfl (Yld.pickF (okb b7) rfl) ?_
                      exact WL.weaken (by repeat (first | exact Sub.nil | refine Sub.cons rfl ?_)) (hQ _ _ ⟨false, rfl, by rw [b7] <;> rfl, rfl⟩)
                · replace H := H.2 (nd_false b5)
                  refine WC.skip (WX.then_normal ?_)
                  refine WC.seq ?_
                  refine WC.seq ?_
                  refine WC.region ?_
                  refine WL.y rfl (Yld.pure tab_ok rfl) ?_
                  refine WL.nil (WX.then_normal ?_)
                  refine WC.block ?_
                  obtain ⟨I2, mu2, h0_2, HR2⟩ := H
                  refine WC.loopF (fun n' L' w' => ∃ (i2 : Int), n' = mu2 i2 ∧ L' = [(2, .slice A_paths paths.length c_paths), (3, vs more), (12, .slice A_t690 t690.length c_t690), (14, .slice A_t800 t800.length c_t800), (15, v_t801), (16, .slice A_t910 t910.length c_t910), (17, v_t911), (18, .int .i64 i2)] ∧ I2 i2 ∧ w.grownBy w' none ∧ Own vs w' w.heap.size 9 A_t690 c_t690 t690 ∧ Own vs w' w.heap.size 9 A_t800 c_t800 t800 ∧ ErrR S w' v_t801 t801 ∧ Own vs w' w.heap.size 9 A_t910 c_t910 t910 ∧ ErrR S w' v_t911 t911 ∧ Dj (blk A_t690) (blk A_t800) ∧ Dj (blk A_t690) (blk A_t910) ∧ Dj (blk A_t800) (blk A_t910)) _ _ ⟨(0 : Int), rfl, rfl, h0_2, gr13, k29, k31, k32, k28, ht911, (Dj.new k9.lt' hb4), (Dj.new k24.lt' hb6), (Dj.new k26.lt' hb6)⟩ (by repeat (first | exact Sub.nil | refine Sub.cons rfl ?_)) ?_
                  clear h0_2
                  rintro _ _ w14 ⟨i2, rfl, rfl, hI2, gr14, k33, k34, k35, k36, k37, dj1, dj2, dj3⟩
                  have H := HR2 i2 hI2
                  refine WC.seq ?_
                  refine WC.seq ?_
                  refine WC.region ?_
                  refine WL.y rfl (Yld.pure tab_ok rfl) ?_
                  refine WL.y rfl (Yld.pure tab_ok rfl) ?_
                  refine WL.y rfl (Yld.pure tab_ok rfl) ?_
                  refine WL.y rfl (Yld.pure tab_ok rfl) ?_
                  refine WL.nil (WX.then_normal ?_)
                  refine WC.cond rfl (fun b8 => ?_) (fun b8 => ?_)
                  · replace H := H.1 (of_decide_eq_true b8)
                    refine WC.skip (WX.then_normal ?_)
                    refine WC.seq ?_
                    refine WC.block ?_
                    refine WC.seq ?_
                    refine WC.seq ?_
                    refine WC.chainF (fun k => !(Nat.beq k 5 || Nat.beq k 32)) (LD [4, 14, 19, 31] (fun w' => Rd vs w' A_t690 c_t690 t690)) mixed (by kernel_rfl) (fun k w' h _ => (rd_eqv h k33.rd)) ?_
                    refine WJ.y rfl rfl (fun w' hw' => Yld.pure tab_ok rfl) ?_
                    refine WJ.y rfl rfl (fun w' hw' => Yld.pure tab_ok rfl) ?_
                    refine WJ.y rfl rfl (fun w' hw' => Yld.pure tab_ok rfl) ?_
                    obtain ⟨h7, H⟩ := H
                    refine WJ.y rfl rfl (fun w' hw' => Yld.iaddrW tab_ok k33.rd rfl rfl rfl rfl h7.1 h7.2) ?_
                    refine WJ.y rfl rfl (fun w' hw' => Yld.iload [] tab_ok (hw' rfl) rfl rfl (iltN h7 rfl)) ?_
                    refine WJ.call rfl (wants_none) rfl rfl (W_smithyref_AmongTexts (hpaths.grown gr14) rfl H) (fun v w' h w2 e => DD.keep (rd_eqv (eqvL h.1 e) k33.rd)) ?_
                    rintro _ _ ⟨rfl, t118, rfl, H⟩
                    refine WJ.y rfl rfl (fun w' hw' => Yld.pure tab_ok rfl) ?_
                    refine WJ.y rfl rfl (fun w' hw' => Yld.pure tab_ok rfl) ?_
                    obtain ⟨h8, H⟩ := H
                    obtain ⟨h9, H⟩ := H
                    obtain ⟨h10, H⟩ := H
                    refine WJ.midF 15 (fun L' w' => ∃ q7 : Bool, L' = [(135, .bool q7), (2, .slice A_paths paths.length c_paths), (3, vs more), (12, .slice A_t690 t690.length c_t690), (14, .slice A_t800 t800.length c_t800), (15, v_t801), (16, .slice A_t910 t910.length c_t910), (17, v_t911), (18, .int .i64 i2)] ∧ q7 = ((decide (t118 < (0 : Int))) || ((decide ((0 : Int) < i2)) && (Op.bytesLess (t690.getD i2.toNat []) (t690.getD ((i2 - (1 : Int)).toNat) []) || decide ((t690.getD i2.toNat []) = (t690.getD ((i2 - (1 : Int)).toNat) []))))) ∧ w14 = w') ?_ (fun hQ => ?_)
                    · rintro _ _ ⟨q7, rfl, rfl, rfl⟩
                      refine WJ.y rfl rfl (fun w' hw' => Yld.pure tab_ok rfl) ?_
                      obtain ⟨J1, H, hJ1⟩ := H
                      refine WJ.midF 12 (fun L' w' => ∃ q8 : Bool, L' = [(148, .bool q8), (2, .slice A_paths paths.length c_paths), (3, vs more), (12, .slice A_t690 t690.length c_t690), (14, .slice A_t800 t800.length c_t800), (15, v_t801), (16, .slice A_t910 t910.length c_t910), (17, v_t911), (18, .int .i64 i2)] ∧ J1 q8 ∧ w14 = w') ?_ (fun hQ => ?_)
                      · clear H
                        rintro _ _ ⟨q8, rfl, H, rfl⟩
                        replace H := hJ1 q8 H
                        refine WJ.nil (WX.then_normal ?_)
                        refine WC.cond rfl (fun b9 => ?_) (fun b9 => ?_)
                        · replace H := H.1 (b9)
                          refine WC.seq ?_
                          refine WC.region ?_
                          refine WL.y rfl (Yld.pure tab_ok rfl) ?_
                          refine WL.nil (WX.then_normal ?_)
                          refine WC.ret (WX.then_ret (WX.block_ret (WX.then_ret (WX.then_ret (WX.block_ret (WX.then_ret ?_))))))
                          exact WX.ret1 rfl rfl ⟨gr14, false, rfl, H⟩
                        · replace H := H.2 (b9)
                          refine WC.skip (WX.then_normal ?_)
                          refine WC.seq ?_
                          refine WC.region ?_
                          refine WL.y rfl (Yld.pure tab_ok rfl) ?_
                          refine WL.y rfl (Yld.pure tab_ok rfl) ?_
                          refine WL.y rfl (Yld.pure tab_ok rfl) ?_
                          obtain ⟨h11, H⟩ := H
                          refine WL.y rfl (Yld.iaddrW tab_ok k33.rd rfl rfl rfl rfl h11.1 h11.2) ?_
                          refine WL.y rfl (Yld.iload [] tab_ok k33.rd rfl rfl (iltN h11 rfl)) ?_
                          refine WL.call rfl rfl (W_path_Match (hG.grown gr14) hS11 hS100 H) ?_
                          rintro _ w15 ⟨hg14, t1550, v_t1551, t1551, rfl, ht1551, H⟩
                          have gr15 := gr_trans gr14 hg14
                          have k38 := k33.grown hg14
                          have k39 := k34.grown hg14
                          have k40 := k35.grown hg14
                          have k41 := k36.grown hg14
                          have k42 := k37.grown hg14
                          refine WL.y rfl (Yld.pure tab_ok rfl) ?_
                          refine WL.y rfl (Yld.pure tab_ok rfl) ?_
                          refine WL.y rfl (Yld.pure tab_ok rfl) ?_
                          refine WL.y rfl (Yld.pure tab_ok rfl) ?_
                          refine WL.y rfl (Yld.pure tab_ok rfl) ?_
                          refine WL.nil (WX.then_normal ?_)
                          refine WC.seq ?_
                          refine WC.region ?_
                          refine WL.y rfl (Yld.pure tab_ok rfl) ?_
                          refine WL.y rfl (Yld.erreql Tryd.underlying30 ht1551 rfl) ?_
                          refine WL.y rfl (Yld.pure tab_ok rfl) ?_
                          refine WL.midF 3 (fun L' w' => ∃ q9 : Bool, L' = [(163, .bool q9), (2, .slice A_paths paths.length c_paths), (3, vs more), (12, .slice A_t690 t690.length c_t690), (14, .slice A_t800 t800.length c_t800), (15, v_t801), (16, .slice A_t910 t910.length c_t910), (17, v_t911), (18, .int .i64 i2), (19, .bool t1550)] ∧ q9 = ((decide (t1551 = Er.ok)) && (decide (t911 = Er.ok))) ∧ w15 = w') ?_ (fun hQ => ?_)
                          · rintro _ _ ⟨q9, rfl, rfl, rfl⟩
                            refine WL.y rfl (Yld.pure tab_ok rfl) ?_
                            obtain ⟨J2, H, hJ2⟩ := H
                            refine WL.midF 10 (fun L' w' => ∃ q10 : Bool, L' = [(174, .bool q10), (2, .slice A_paths paths.length c_paths), (3, vs more), (12, .slice A_t690 t690.length c_t690), (14, .slice A_t800 t800.length c_t800), (15, v_t801), (16, .slice A_t910 t910.length c_t910), (17, v_t911), (18, .int .i64 i2)] ∧ J2 q10 ∧ w15 = w') ?_ (fun hQ => ?_)
                            · clear H
                              rintro _ _ ⟨q10, rfl, H, rfl⟩
                              replace H := hJ2 q10 H
                              refine WL.nil (WX.then_normal ?_)
                              refine WC.cond rfl (fun b10 => ?_) (fun b10 => ?_)
                              · replace H := H.1 (b10)
                                refine WC.seq ?_
                                refine WC.region ?_
                                refine WL.y rfl (Yld.pure tab_ok rfl) ?_
                                refine WL.nil (WX.then_normal ?_)
                                refine WC.ret (WX.block_ret (WX.then_ret (WX.then_ret (WX.block_ret (WX.then_ret ?_)))))
                                exact WX.ret1 rfl rfl ⟨gr15, false, rfl, H⟩
                              · replace H := H.2 (b10)
                                refine WC.skip (WX.block_normal (WX.then_normal ?_))
                                refine WC.region ?_
                                refine WL.y rfl (Yld.pure tab_ok rfl) ?_
                                obtain ⟨h12, H⟩ := H
                                refine WL.y rfl (Yld.add rfl rfl h12) ?_
                                refine WL.y rfl (Yld.pure tab_ok rfl) ?_
                                refine WL.nil ?_
                                exact WX.roundF _ ⟨i2 + (1 : Int), rfl, rfl, H.1, gr15, k38, k39, k40, k41, k42, dj1, dj2, dj3⟩ (by repeat (first | exact Sub.nil | refine Sub.cons rfl ?_)) H.2
                            · clear hJ2
                              rcases Bool.eq_false_or_eq_true ((decide (t1551 = Er.ok)) && (decide (t911 = Er.ok))) with b11 | b11
                              · replace H := H.1 b11
                                refine WL.gyes rfl rfl (okb b11) rfl (Yld.pure tab_ok rfl) ?_
                                refine WL.gyes rfl rfl (okb b11) rfl (Yld.pure tab_ok rfl) ?_
                                refine WL.gyes rfl rfl (okb b11) rfl (Yld.pure tab_ok rfl) ?_
                                obtain ⟨h13, H⟩ := H
                                refine WL.gyes rfl rfl (okb b11) rfl (Yld.iaddrW tab_ok k38.rd rfl rfl rfl rfl h13.1 h13.2) ?_
                                refine WL.gyes rfl rfl (okb b11) rfl (Yld.iload [] tab_ok k38.rd rfl rfl (iltN h13 rfl)) ?_
                                refine WL.callw (wants_some rfl rfl (okb b11)) rfl rfl (W_smithyref_AmongTexts k41.rd rfl H) ?_
                                rintro _ _ ⟨rfl, t170, rfl, H⟩
                                refine WL.gyes rfl rfl (okb b11) rfl (Yld.pure tab_ok rfl) ?_
                                refine WL.gyes rfl rfl (okb b11) rfl (Yld.pure tab_ok rfl) ?_
                                refine WL.gyes rfl rfl (okb b11) rfl (Yld.bneq Tryd.underlying4 rfl rfl) ?_
                                refine WL.y rfl (Yld.pickT (okb b11) rfl) ?_
                                exact WL.weaken (by repeat (first | exact Sub.nil | refine Sub.cons rfl ?_)) (hQ _ _ ⟨!((decide (t170 < (0 : Int))) == t1550), rfl, H, rfl⟩)
                              · replace H := H.2 b11
                                refine WL.gno rfl rfl (okb b11) rfl ?_
                                refine WL.gno rfl rfl (okb b11) rfl ?_
                                refine WL.gno rfl rfl (okb b11) rfl ?_
                                refine WL.gno rfl rfl (okb b11) rfl ?_
                                refine WL.gno rfl rfl (okb b11) rfl ?_
                                refine WL.gno rfl rfl (okb b11) rfl ?_
                                refine WL.gno rfl rfl (okb b11) rfl ?_
                                refine WL.gno rfl rfl (okb b11) rfl ?_
                                refine WL.gno rfl rfl (okb b11) rfl ?_
                                refine WL.y rfl (Yld.pickF (okb b11) rfl) ?_
                                exact WL.weaken (by repeat (first | exact Sub.nil | refine Sub.cons rfl ?_)) (hQ _ _ ⟨false, rfl, H, rfl⟩)
                          · clear H
                            rcases Bool.eq_false_or_eq_true (decide (t1551 = Er.ok)) with b12 | b12
                            · refine WL.gyes rfl rfl (okb b12) rfl (Yld.pure tab_ok rfl) ?_
                              refine WL.gyes rfl rfl (okb b12) rfl (Yld.erreql Tryd.underlying30 k42 rfl) ?_
                              refine WL.y rfl (Yld.pickT (okb b12) rfl) ?_
                              exact WL.weaken (by repeat (first | exact Sub.nil | refine Sub.cons rfl ?_)) (hQ _ _ ⟨decide (t911 = Er.ok), rfl, by rw [b12] <;> rfl, rfl⟩)
                            · refine WL.gno rfl rfl (okb b12) rfl ?_
                              refine WL.gno rfl rfl (okb b12) rfl ?_
                              refine WL.y rfl (Yld.pickF (okb b12) rfl) ?_
                              exact WL.weaken (by repeat (first | exact Sub.nil | refine Sub.cons rfl ?_)) (hQ _ _ ⟨false, rfl, by rw [b12] <;> rfl, rfl⟩)
                      · clear hJ1
                        rcases Bool.eq_false_or_eq_true ((decide (t118 < (0 : Int))) || ((decide ((0 : Int) < i2)) && (Op.bytesLess (t690.getD i2.toNat []) (t690.getD ((i2 - (1 : Int)).toNat) []) || decide ((t690.getD i2.toNat []) = (t690.getD ((i2 - (1 : Int)).toNat) []))))) with b13 | b13
                        · replace H := H.1 b13
                          refine WJ.no rfl rfl (okb b13) rfl ?_
                          refine WJ.no rfl rfl (okb b13) rfl ?_
                          refine WJ.no rfl rfl (okb b13) rfl ?_
                          refine WJ.gun rfl rfl rfl rfl ?_
                          refine WJ.gun rfl rfl rfl rfl ?_
                          refine WJ.gun rfl rfl rfl rfl ?_
                          refine WJ.gun rfl rfl rfl rfl ?_
                          refine WJ.gun rfl rfl rfl rfl ?_
                          refine WJ.gun rfl rfl rfl rfl ?_
                          refine WJ.gun rfl rfl rfl rfl ?_
                          refine WJ.no rfl rfl (okb b13) rfl ?_
                          refine WJ.y rfl rfl (fun w' hw' => Yld.pickT (okb b13) rfl) ?_
                          exact WJ.weaken (by repeat (first | exact Sub.nil | refine Sub.cons rfl ?_)) (hQ _ _ ⟨true, rfl, H, rfl⟩)
                        · replace H := H.2 b13
                          refine WJ.yw rfl (wants_some rfl rfl (okb b13)) rfl (fun w' hw' => Yld.pure tab_ok rfl) ?_
                          refine WJ.yw rfl (wants_some rfl rfl (okb b13)) rfl (fun w' hw' => Yld.erreql Tryd.underlying30 k35 rfl) ?_
                          refine WJ.yw rfl (wants_some rfl rfl (okb b13)) rfl (fun w' hw' => Yld.pure tab_ok rfl) ?_
                          rcases Bool.eq_false_or_eq_true (decide (t801 = Er.ok)) with b14 | b14
                          · replace H := H.1 b14
                            refine WJ.yw rfl (wants_some rfl rfl (okb b14)) rfl (fun w' hw' => Yld.pure tab_ok rfl) ?_
                            refine WJ.yw rfl (wants_some rfl rfl (okb b14)) rfl (fun w' hw' => Yld.pure tab_ok rfl) ?_
                            refine WJ.yw rfl (wants_some rfl rfl (okb b14)) rfl (fun w' hw' => Yld.pure tab_ok rfl) ?_
                            obtain ⟨h14, H⟩ := H
                            refine WJ.yw rfl (wants_some rfl rfl (okb b14)) rfl (fun w' hw' => Yld.iaddrW tab_ok k33.rd rfl rfl rfl rfl h14.1 h14.2) ?_
                            refine WJ.yw rfl (wants_some rfl rfl (okb b14)) rfl (fun w' hw' => Yld.iload [] tab_ok (hw' rfl) rfl rfl (iltN h14 rfl)) ?_
                            refine WJ.call rfl (wants_some rfl rfl (okb b14)) rfl rfl (W_smithyref_AmongTexts k34.rd rfl H) (fun v w' h w2 e => DD.keep (rd_eqv (eqvL h.1 e) k33.rd)) ?_
                            rintro _ _ ⟨rfl, t145, rfl, H⟩
                            refine WJ.yw rfl (wants_some rfl rfl (okb b14)) rfl (fun w' hw' => Yld.pure tab_ok rfl) ?_
                            refine WJ.yw rfl (wants_some rfl rfl (okb b13)) rfl (fun w' hw' => Yld.pickT (okb b14) rfl) ?_
                            refine WJ.y rfl rfl (fun w' hw' => Yld.pickF (okb b13) rfl) ?_
                            exact WJ.weaken (by repeat (first | exact Sub.nil | refine Sub.cons rfl ?_)) (hQ _ _ ⟨decide (t145 < (0 : Int)), rfl, H, rfl⟩)
                          · replace H := H.2 b14
                            refine WJ.no rfl rfl (okb b14) rfl ?_
                            refine WJ.no rfl rfl (okb b14) rfl ?_
                            refine WJ.no rfl rfl (okb b14) rfl ?_
                            refine WJ.no rfl rfl (okb b14) rfl ?_
                            refine WJ.no rfl rfl (okb b14) rfl ?_
                            refine WJ.no rfl rfl (okb b14) rfl ?_
                            refine WJ.no rfl rfl (okb b14) rfl ?_
                            refine WJ.yw rfl (wants_some rfl rfl (okb b13)) rfl (fun w' hw' => Yld.pickF (okb b14) rfl) ?_
                            refine WJ.y rfl rfl (fun w' hw' => Yld.pickF (okb b13) rfl) ?_
                            exact WJ.weaken (by repeat (first | exact Sub.nil | refine Sub.cons rfl ?_)) (hQ _ _ ⟨false, rfl, H, rfl⟩)
                    · clear H
                      rcases Bool.eq_false_or_eq_true (decide (t118 < (0 : Int))) with b15 | b15
                      · refine WJ.no rfl rfl (okb b15) rfl ?_
                        refine WJ.no rfl rfl (okb b15) rfl ?_
                        refine WJ.no rfl rfl (okb b15) rfl ?_
                        refine WJ.gun rfl rfl rfl rfl ?_
                        refine WJ.gun rfl rfl rfl rfl ?_
                        refine WJ.gun rfl rfl rfl rfl ?_
                        refine WJ.gun rfl rfl rfl rfl ?_
                        refine WJ.gun rfl rfl rfl rfl ?_
                        refine WJ.gun rfl rfl rfl rfl ?_
                        refine WJ.gun rfl rfl rfl rfl ?_
                        refine WJ.gun rfl rfl rfl rfl ?_
                        refine WJ.gun rfl rfl rfl rfl ?_
                        refine WJ.gun rfl rfl rfl rfl ?_
                        refine WJ.no rfl rfl (okb b15) rfl ?_
                        refine WJ.y rfl rfl (fun w' hw' => Yld.pickT (okb b15) rfl) ?_
                        exact WJ.weaken (by repeat (first | exact Sub.nil | refine Sub.cons rfl ?_)) (hQ _ _ ⟨true, rfl, by rw [b15] <;> rfl, rfl⟩)
                      · refine WJ.yw rfl (wants_some rfl rfl (okb b15)) rfl (fun w' hw' => Yld.pure tab_ok rfl) ?_
                        refine WJ.yw rfl (wants_some rfl rfl (okb b15)) rfl (fun w' hw' => Yld.pure tab_ok rfl) ?_
                        refine WJ.yw rfl (wants_some rfl rfl (okb b15)) rfl (fun w' hw' => Yld.pure tab_ok rfl) ?_
                        rcases Bool.eq_false_or_eq_true (decide ((0 : Int) < i2)) with b16 | b16
                        · refine WJ.yw rfl (wants_some rfl rfl (okb b16)) rfl (fun w' hw' => Yld.pure tab_ok rfl) ?_
                          refine WJ.yw rfl (wants_some rfl rfl (okb b16)) rfl (fun w' hw' => Yld.pure tab_ok rfl) ?_
                          refine WJ.yw rfl (wants_some rfl rfl (okb b16)) rfl (fun w' hw' => Yld.iaddrW tab_ok k33.rd rfl rfl rfl rfl (h8 b15 b16).1 (h8 b15 b16).2) ?_
                          refine WJ.yw rfl (wants_some rfl rfl (okb b16)) rfl (fun w' hw' => Yld.iload [] tab_ok (hw' rfl) rfl rfl (iltN (h8 b15 b16) rfl)) ?_
                          refine WJ.yw rfl (wants_some rfl rfl (okb b16)) rfl (fun w' hw' => Yld.pure tab_ok rfl) ?_
                          refine WJ.yw rfl (wants_some rfl rfl (okb b16)) rfl (fun w' hw' => Yld.pure tab_ok rfl) ?_
                          refine WJ.yw rfl (wants_some rfl rfl (okb b16)) rfl (fun w' hw' => Yld.sub rfl rfl (h9 b15 b16)) ?_
                          refine WJ.yw rfl (wants_some rfl rfl (okb b16)) rfl (fun w' hw' => Yld.iaddrW tab_ok k33.rd rfl rfl rfl rfl (h10 b15 b16).1 (h10 b15 b16).2) ?_
                          refine WJ.yw rfl (wants_some rfl rfl (okb b16)) rfl (fun w' hw' => Yld.iload [] tab_ok (hw' rfl) rfl rfl (iltN (h10 b15 b16) rfl)) ?_
                          refine WJ.yw rfl (wants_some rfl rfl (okb b16)) rfl (fun w' hw' => Yld.pure tab_ok rfl) ?_
                          refine WJ.yw rfl (wants_some rfl rfl (okb b15)) rfl (fun w' hw' => Yld.pickT (okb b16) rfl) ?_
                          refine WJ.y rfl rfl (fun w' hw' => Yld.pickF (okb b15) rfl) ?_
                          exact WJ.weaken (by repeat (first | exact Sub.nil | refine Sub.cons rfl ?_)) (hQ _ _ ⟨Op.bytesLess (t690.getD i2.toNat []) (t690.getD ((i2 - (1 : Int)).toNat) []) || decide ((t690.getD i2.toNat []) = (t690.getD ((i2 - (1 : Int)).toNat) [])), rfl, by rw [b15, b16] <;> rfl, rfl⟩)
                        · refine WJ.no rfl rfl (okb b16) rfl ?_
                          refine WJ.no rfl rfl (okb b16) rfl ?_
                          refine WJ.no rfl rfl (okb b16) rfl ?_
                          refine WJ.no rfl rfl (okb b16) rfl ?_
                          refine WJ.no rfl rfl (okb b16) rfl ?_
                          refine WJ.no rfl rfl (okb b16) rfl ?_
                          refine WJ.no rfl rfl (okb b16) rfl ?_
                          refine WJ.no rfl rfl (okb b16) rfl ?_
                          refine WJ.no rfl rfl (okb b16) rfl ?_
                          refine WJ.no rfl rfl (okb b16) rfl ?_
                          refine WJ.yw rfl (wants_some rfl rfl (okb b15)) rfl (fun w' hw' => Yld.pickF (okb b16) rfl) ?_
                          refine WJ.y rfl rfl (fun w' hw' => Yld.pickF (okb b15) rfl) ?_
                          exact WJ.weaken (by repeat (first | exact Sub.nil | refine Sub.cons rfl ?_)) (hQ _ _ ⟨false, rfl, by rw [b15, b16] <;> rfl, rfl⟩)
                  · replace H := H.2 (of_decide_eq_false b8)
                    refine WC.exit (WX.then_exit (WX.then_exit (WX.block_same (WX.then_normal ?_))))
                    refine WC.seq ?_
                    refine WC.quiet mixed (by kernel_rfl) ?_
                    refine WQ.y rfl (Yld.pure tab_ok rfl) ?_
                    refine WQ.y rfl (Yld.erreql Tryd.underlying30 k35 rfl) ?_
                    refine WQ.y rfl (Yld.pure tab_ok rfl) ?_
                    refine WQ.y rfl (Yld.erreql Tryd.underlying30 k37 rfl) ?_
                    refine WQ.y rfl (Yld.beql Tryd.underlying4 rfl rfl) ?_
                    refine WQ.y rfl (Yld.pure tab_ok rfl) ?_
                    refine WQ.midF 6 (fun L' w' => ∃ q11 : Bool, L' = [(186, .bool q11)] ∧ q11 = (((decide (t801 = Er.ok)) == (decide (t911 = Er.ok))) && (decide ((t910.length : Int) ≤ (t690.length : Int)))) ∧ w14 = w') ?_ (fun hQ => ?_)
                    · rintro _ _ ⟨q11, rfl, rfl, rfl⟩
                      refine WQ.y rfl (Yld.pure tab_ok rfl) ?_
                      refine WQ.nil (WX.then_normal ?_)
                      refine WC.ret ?_
                      exact WX.ret1 rfl rfl ⟨gr14, ((decide (t801 = Er.ok)) == (decide (t911 = Er.ok))) && (decide ((t910.length : Int) ≤ (t690.length : Int))), rfl, H⟩
                    · clear H
                      rcases Bool.eq_false_or_eq_true ((decide (t801 = Er.ok)) == (decide (t911 = Er.ok))) with b17 | b17
                      · refine WQ.gyes rfl rfl (okb b17) rfl (Yld.pure tab_ok rfl) ?_
                        refine WQ.gyes rfl rfl (okb b17) rfl (Yld.pure tab_ok rfl) ?_
                        refine WQ.gyes rfl rfl (okb b17) rfl (Yld.pure tab_ok rfl) ?_
                        refine WQ.gyes rfl rfl (okb b17) rfl (Yld.pure tab_ok rfl) ?_
                        refine WQ.gyes rfl rfl (okb b17) rfl (Yld.pure tab_ok rfl) ?_
                        refine WQ.y rfl (Yld.pickT (okb b17) rfl) ?_
                        exact WQ.weaken (by repeat (first | exact Sub.nil | refine Sub.cons rfl ?_)) (hQ _ _ ⟨decide ((t910.length : Int) ≤ (t690.length : Int)), rfl, by rw [b17] <;> rfl, rfl⟩)
                      · refine WQ.gno rfl rfl (okb b17) rfl ?_
                        refine WQ.gno rfl rfl (okb b17) rfl ?_
                        refine WQ.gno rfl rfl (okb b17) rfl ?_
                        refine WQ.gno rfl rfl (okb b17) rfl ?_
                        refine WQ.gno rfl rfl (okb b17) rfl ?_
                        refine WQ.y rfl (Yld.pickF (okb b17) rfl) ?_
                        exact WQ.weaken (by repeat (first | exact Sub.nil | refine Sub.cons rfl ?_)) (hQ _ _ ⟨false, rfl, by rw [b17] <;> rfl, rfl⟩)
          · clear H
            rcases Bool.eq_false_or_eq_true ((((decide ((6 : Int) < (l.length : Int))) || (decide ((6 : Int) < (but.length : Int)))) || (decide ((20 : Int) < (paths.length : Int)))) || (decide ((100 : Int) < (more.length : Int)))) with b18 | b18
            · refine WL.gno rfl rfl (okb b18) rfl ?_
              refine WL.gno rfl rfl (okb b18) rfl ?_
              refine WL.y rfl (Yld.pickT (okb b18) rfl) ?_
              exact WL.weaken (by repeat (first | exact Sub.nil | refine Sub.cons rfl ?_)) (hQ _ _ ⟨true, rfl, by rw [b18] <;> rfl, rfl⟩)
            · refine WL.gyes rfl rfl (okb b18) rfl (Yld.pure tab_ok rfl) ?_
              refine WL.gyes rfl rfl (okb b18) rfl (Yld.pure tab_ok rfl) ?_
              refine WL.y rfl (Yld.pickF (okb b18) rfl) ?_
              exact WL.weaken (by repeat (first | exact Sub.nil | refine Sub.cons rfl ?_)) (hQ _ _ ⟨!ok, rfl, by rw [b18] <;> rfl, rfl⟩)
        · clear H
          rcases Bool.eq_false_or_eq_true (((decide ((6 : Int) < (l.length : Int))) || (decide ((6 : Int) < (but.length : Int)))) || (decide ((20 : Int) < (paths.length : Int)))) with b19 | b19
          · refine WL.gno rfl rfl (okb b19) rfl ?_
            refine WL.gno rfl rfl (okb b19) rfl ?_
            refine WL.gno rfl rfl (okb b19) rfl ?_
            refine WL.y rfl (Yld.pickT (okb b19) rfl) ?_
            exact WL.weaken (by repeat (first | exact Sub.nil | refine Sub.cons rfl ?_)) (hQ _ _ ⟨true, rfl, by rw [b19] <;> rfl, rfl⟩)
          · refine WL.gyes rfl rfl (okb b19) rfl (Yld.pure tab_ok rfl) ?_
            refine WL.gyes rfl rfl (okb b19) rfl (Yld.pure tab_ok rfl) ?_
            refine WL.gyes rfl rfl (okb b19) rfl (Yld.pure tab_ok rfl) ?_
            refine WL.y rfl (Yld.pickF (okb b19) rfl) ?_
            exact WL.weaken (by repeat (first | exact Sub.nil | refine Sub.cons rfl ?_)) (hQ _ _ ⟨decide ((100 : Int) < (more.length : Int)), rfl, by rw [b19] <;> rfl, rfl⟩)
      · clear H
        rcases Bool.eq_false_or_eq_true ((decide ((6 : Int) < (l.length : Int))) || (decide ((6 : Int) < (but.length : Int)))) with b20 | b20
        · refine WL.gno rfl rfl (okb b20) rfl ?_
          refine WL.gno rfl rfl (okb b20) rfl ?_
          refine WL.gno rfl rfl (okb b20) rfl ?_
          refine WL.y rfl (Yld.pickT (okb b20) rfl) ?_
          exact WL.weaken (by repeat (first | exact Sub.nil | refine Sub.cons rfl ?_)) (hQ _ _ ⟨true, rfl, by rw [b20] <;> rfl, rfl⟩)
        · refine WL.gyes rfl rfl (okb b20) rfl (Yld.pure tab_ok rfl) ?_
          refine WL.gyes rfl rfl (okb b20) rfl (Yld.pure tab_ok rfl) ?_
          refine WL.gyes rfl rfl (okb b20) rfl (Yld.pure tab_ok rfl) ?_
          refine WL.y rfl (Yld.pickF (okb b20) rfl) ?_
          exact WL.weaken (by repeat (first | exact Sub.nil | refine Sub.cons rfl ?_)) (hQ _ _ ⟨decide ((20 : Int) < (paths.length : Int)), rfl, by rw [b20] <;> rfl, rfl⟩)
    · clear H
      rcases Bool.eq_false_or_eq_true (decide ((6 : Int) < (l.length : Int))) with b21 | b21
      · refine WL.gno rfl rfl (okb b21) rfl ?_
        refine WL.gno rfl rfl (okb b21) rfl ?_
        refine WL.gno rfl rfl (okb b21) rfl ?_
        refine WL.y rfl (Yld.pickT (okb b21) rfl) ?_
        exact WL.weaken (by repeat (first | exact Sub.nil | refine Sub.cons rfl ?_)) (hQ _ _ ⟨true, rfl, by rw [b21] <;> rfl, rfl⟩)
      · refine WL.gyes rfl rfl (okb b21) rfl (Yld.pure tab_ok rfl) ?_
        refine WL.gyes rfl rfl (okb b21) rfl (Yld.pure tab_ok rfl) ?_
        refine WL.gyes rfl rfl (okb b21) rfl (Yld.pure tab_ok rfl) ?_
        refine WL.y rfl (Yld.pickF (okb b21) rfl) ?_
        exact WL.weaken (by repeat (first | exact Sub.nil | refine Sub.cons rfl ?_)) (hQ _ _ ⟨decide ((6 : Int) < (but.length : Int)), rfl, by rw [b21] <;> rfl, rfl⟩)

end Go.Proofs.YtcfljnfaakjdjaaDoor
 /- Texts in order, each once: plain, no program. -/
namespace Go.Proofs.YtcfljnfaakjdjaaDoor
open Go
abbrev Bs := List UInt8
theorem bs_lt_or (a b : Bs) : a < b ∨ a = b ∨ b < a := by
  by_cases h : a < b
  · exact .inl h
  · by_cases k : b < a
    · exact .inr (.inr k)
    · exact .inr (.inl (List.le_antisymm (List.not_lt.1 k) (List.not_lt.1 h)))
theorem bs_lt_of {a b : Bs} (h : a ≤ b) (hne : a ≠ b) : a < b := by
  rcases bs_lt_or a b with h1 | h1 | h1
  · exact h1
  · exact absurd h1 hne
  · exact absurd h1 (List.not_lt.2 h)
theorem bs_le_lt {a b c : Bs} (h : a ≤ b) (k : b < c) : a < c := by
  by_cases e : a = b
  · rw [e]; exact k
  · exact List.lt_trans (bs_lt_of h e) k
def Strict (l : List Bs) : Prop := l.Pairwise (· < ·)
theorem Strict.nodup {l : List Bs} (h : Strict l) : l.Nodup := List.Pairwise.imp (fun {a b} (hab : a < b) (e : a = b) => List.lt_irrefl b (e ▸ hab)) h
theorem strict_uniq : ∀ {a b : List Bs}, Strict a → Strict b → (∀ x, x ∈ a ↔ x ∈ b) → a = b
  | [], [], _, _, _ => rfl
  | [], y :: b, _, _, h => by have := (h y).2 (by simp); simp at this
  | x :: a, [], _, _, h => by have := (h x).1 (by simp); simp at this
  | x :: a, y :: b, ha, hb, h => by
    have ha' := List.pairwise_cons.1 ha
    have hb' := List.pairwise_cons.1 hb
    have hxy : x = y := by
      rcases List.mem_cons.1 ((h x).1 (by simp)) with e | hx
      · exact e
      · rcases List.mem_cons.1 ((h y).2 (by simp)) with e | hy
        · exact e.symm
        · exact absurd (ha'.1 y hy) (List.lt_asymm (hb'.1 x hx))
    subst hxy
    rw [strict_uniq ha'.2 hb'.2 (fun z => ?_)]
    constructor
    · intro hz
      rcases List.mem_cons.1 ((h z).1 (by simp [hz])) with e | hz'
      · subst e; exact absurd (ha'.1 z hz) (List.lt_irrefl z)
      · exact hz'
    · intro hz
      rcases List.mem_cons.1 ((h z).2 (by simp [hz])) with e | hz'
      · subst e; exact absurd (hb'.1 z hz) (List.lt_irrefl z)
      · exact hz'
def sortB (l : List Bs) : List Bs := l.mergeSort fun x y => decide (x ≤ y)
theorem sortB_le (l : List Bs) : (sortB l).Pairwise (· ≤ ·) := by
  have h := List.pairwise_mergeSort (le := fun (x y : Bs) => decide (x ≤ y)) (fun a b c h k => by
    simp only [decide_eq_true_eq] at h k ⊢
    exact List.le_trans h k) (fun a b => by
    simp only [Bool.or_eq_true, decide_eq_true_eq]
    exact List.le_total a b) l
  exact h.imp fun h => by simpa using h
theorem sortB_mem (l : List Bs) (x : Bs) : x ∈ sortB l ↔ x ∈ l := (List.mergeSort_perm l _).mem_iff
theorem compactUpTo_strict {ys : List Bs} (h : ys.Pairwise (· ≤ ·)) : ∀ m, m ≤ ys.length → Strict (Lib.compactUpTo ys.toArray m) ∧ ∀ x, x ∈ Lib.compactUpTo ys.toArray m ↔ x ∈ ys.take m
  | 0, _ => ⟨List.Pairwise.nil, fun x => by simp [Lib.compactUpTo]⟩
  | m + 1, hm => by
    obtain ⟨h1, h2⟩ := compactUpTo_strict h m (by omega)
    have hget : ∀ i, i < ys.length → ys.toArray[i]! = ys.getD i [] := fun i hi => by simp [List.getD, hi]
    have hlast : ys.take (m + 1) = ys.take m ++ [ys.getD m []] := by rw [List.take_succ_eq_append_getElem (by omega)]; simp [List.getD, show m < ys.length by omega]
    rw [Lib.compactUpTo_succ, hlast, hget m (by omega)]
    cases hk : Lib.keeps ys.toArray m with
    | true =>
      simp only [if_true]
      refine ⟨List.pairwise_append.2 ⟨h1, List.pairwise_singleton _ _, fun x hx y hy => ?_⟩, fun x => by rw [List.mem_append, List.mem_append, h2]⟩
      simp only [List.mem_singleton] at hy
      subst hy
      have hx' := (h2 x).1 hx
      obtain ⟨i, hi, he⟩ := List.getElem_of_mem hx'
      simp only [List.length_take] at hi
      simp only [List.getElem_take] at he
      have hpw := List.pairwise_iff_getElem.1 h
      have h0 : m ≠ 0 := by omega
      simp only [Lib.keeps, h0, false_or, decide_eq_true_eq, ne_eq] at hk
      rw [hget m (by omega), hget (m - 1) (by omega)] at hk
      have hle : x ≤ ys.getD (m - 1) [] := by
        have e1 : ys.getD (m - 1) [] = ys[m - 1]'(by omega) := by simp [List.getD, show m - 1 < ys.length by omega]
        rw [e1, ← he]
        by_cases e : i = m - 1
        · subst e; exact List.le_refl _
        · exact hpw i (m - 1) (by omega) (by omega) (by omega)
      refine bs_le_lt hle (bs_lt_of ?_ (fun e => hk e.symm))
      have e1 : ys.getD (m - 1) [] = ys[m - 1]'(by omega) := by simp [List.getD, show m - 1 < ys.length by omega]
      have e2 : ys.getD m [] = ys[m]'(by omega) := by simp [List.getD, show m < ys.length by omega]
      rw [e1, e2]
      exact hpw (m - 1) m (by omega) (by omega) (by omega)
    | false =>
      simp only [Bool.false_eq_true, if_false, List.append_nil]
      refine ⟨h1, fun x => ?_⟩
      rw [h2, List.mem_append]
      refine ⟨.inl, fun hx => hx.elim id fun hx => ?_⟩
      simp only [List.mem_singleton] at hx
      subst hx
      simp only [Lib.keeps, decide_eq_false_iff_not, not_or, ne_eq, Classical.not_not] at hk
      have h0 : m ≠ 0 := hk.1
      have he := hk.2
      rw [hget m (by omega), hget (m - 1) (by omega)] at he
      rw [he]
      have : ys.getD (m - 1) [] = (ys.take m)[m - 1]'(by simp; omega) := by simp [List.getD, show m - 1 < ys.length by omega]
      rw [this]
      exact List.getElem_mem _
/-- sorted, each once -/
def sortU (l : List Bs) : List Bs := Lib.compact (sortB l)
theorem sortU_strict (l : List Bs) : Strict (sortU l) := (compactUpTo_strict (sortB_le l) _ (Nat.le_refl _)).1
theorem sortU_mem (l : List Bs) (x : Bs) : x ∈ sortU l ↔ x ∈ l := by
  have := (compactUpTo_strict (sortB_le l) _ (Nat.le_refl _)).2 x
  rw [List.take_length, sortB_mem] at this
  exact this
theorem sortU_of {a l : List Bs} (h : Strict a) (k : ∀ x, x ∈ a ↔ x ∈ l) : a = sortU l := strict_uniq h (sortU_strict l) fun x => (k x).trans (sortU_mem l x).symm
theorem sortU_filter (l : List Bs) (p : Bs → Bool) : sortU (l.filter p) = (sortU l).filter p := (sortU_of (List.Pairwise.filter p (sortU_strict l)) fun x => by
  rw [List.mem_filter, List.mem_filter, sortU_mem]).symm
theorem compactUpTo_len {α : Type} [Inhabited α] [DecidableEq α] (d : Array α) (m : Nat) : (Lib.compactUpTo d m).length ≤ m := by
  unfold Lib.compactUpTo
  rw [List.length_map]
  exact Nat.le_trans (List.length_filter_le _ _) (by simp)
theorem sortU_length (l : List Bs) : (sortU l).length ≤ l.length := by
  have h := compactUpTo_len (sortB l).toArray (sortB l).length
  have h2 : (sortB l).length = l.length := List.length_mergeSort l
  unfold sortU Lib.compact
  omega
/-- laid in where it belongs -/
theorem strict_insert {out : List Bs} {x : Bs} {k : Nat} (h : Strict out) (hk : k ≤ out.length) (h1 : ∀ j, j < k → out.getD j [] < x) (h2 : k < out.length → x < out.getD k []) : Strict (out.take k ++ ([x] ++ out.drop k)) := by
  have hp := List.pairwise_iff_getElem.1 h
  refine List.pairwise_append.2 ⟨List.Pairwise.take h, List.pairwise_append.2 ⟨List.pairwise_singleton _ _, List.Pairwise.drop h, fun a ha b hb => ?_⟩, fun a ha b hb => ?_⟩
  · simp only [List.mem_singleton] at ha
    subst ha
    obtain ⟨i, hi, rfl⟩ := List.getElem_of_mem hb
    simp only [List.length_drop] at hi
    rw [List.getElem_drop]
    have hk' : k < out.length := by omega
    have e : out.getD k [] = out[k] := by simp [List.getD, hk']
    have h3 := h2 hk'
    rw [e] at h3
    by_cases h0 : i = 0
    · subst h0; exact h3
    · exact List.lt_trans h3 (hp k (k + i) hk' (by omega) (by omega))
  · obtain ⟨i, hi, rfl⟩ := List.getElem_of_mem ha
    simp only [List.length_take] at hi
    rw [List.getElem_take]
    have h3 : out[i]'(by omega) < x := by
      have := h1 i (by omega)
      rwa [show out.getD i [] = out[i]'(by omega) by simp [List.getD, show i < out.length by omega]] at this
    rcases List.mem_append.1 hb with hb | hb
    · simp only [List.mem_singleton] at hb
      subst hb; exact h3
    · obtain ⟨j, hj, rfl⟩ := List.getElem_of_mem hb
      simp only [List.length_drop] at hj
      rw [List.getElem_drop]
      exact hp i (k + j) (by omega) (by omega) (by omega)
end Go.Proofs.YtcfljnfaakjdjaaDoor
 /- Globs: the plain side. -/
namespace Go.Proofs.YtcfljnfaakjdjaaDoor
open Go Go.RowKit
theorem texts_M {l : List Bs} {K : List Bs → Prop} (hl : l.length ≤ 1000000000) (h : K l) : M_smithyref_Texts l K := by
  intro _
  refine ⟨by omega, fun out i => 0 ≤ i ∧ i ≤ l.length ∧ out = l.take i.toNat, fun _ i => l.length - i.toNat, ⟨by omega, by omega, by simp⟩, fun out i ⟨h0, h1, h2⟩ => ⟨fun hlt => ⟨by omega, ?_, by simp only [In]; omega, ⟨by omega, by omega, ?_⟩, by (try dsimp only); omega⟩, fun hge => ?_⟩⟩
  · subst h2
    simp only [List.length_take, List.length_cons, List.length_nil]
    omega
  · subst h2
    rw [show (i + 1).toNat = i.toNat + 1 by omega, List.take_succ_eq_append_getElem (by omega)]
    simp [List.getD, show i.toNat < l.length by omega]
  · have : i.toNat = l.length := by omega
    rw [h2, this, List.take_length]
    exact h
theorem sameTexts_M {a b : List Bs} {K : Bool → Prop} (ha : a.length ≤ 1000000000) (h : K (decide (a = b))) : M_smithyref_SameTexts a b K := by
  intro _ _
  refine ⟨fun hne => ?_, fun he => ?_⟩
  · rw [decide_eq_false (fun e => hne (by rw [e]))] at h
    exact h
  · refine ⟨fun i => 0 ≤ i ∧ i ≤ a.length ∧ ∀ j, j < i.toNat → a.getD j [] = b.getD j [], fun i => a.length - i.toNat, ⟨by omega, by omega, by intro j hj; simp at hj⟩, fun i ⟨h0, h1, h2⟩ => ⟨fun hlt => ⟨by omega, by omega, fun hne => ?_, fun hee => ⟨by simp only [In]; omega, ⟨by omega, by omega, fun j hj => ?_⟩, by (try dsimp only); omega⟩⟩, fun hge => ?_⟩⟩
    · rw [decide_eq_false (fun e => hne (by rw [e]))] at h
      exact h
    · by_cases e : j = i.toNat
      · rw [e]; exact hee
      · exact h2 j (by omega)
    · have e : a = b := List.ext_getElem (by omega) fun j h3 h4 => by
        have := h2 j (by omega)
        simpa [List.getD, h3, h4] using this
      rw [decide_eq_true e] at h
      exact h
theorem amongTexts_M {l : List Bs} {s : Bs} {K : Int → Prop} (hl : l.length ≤ 1000000000) (h0 : s ∉ l → K (-1)) (h1 : ∀ i : Int, 0 ≤ i → s ∈ l → K i) : M_smithyref_AmongTexts l s K := by
  intro _
  refine ⟨fun i => 0 ≤ i ∧ i ≤ l.length ∧ ∀ j, j < i.toNat → l.getD j [] ≠ s, fun i => l.length - i.toNat, ⟨by omega, by omega, by intro j hj; simp at hj⟩, fun i ⟨a0, a1, a2⟩ => ⟨fun hlt => ⟨by omega, fun he => ?_, fun hne => ⟨by simp only [In]; omega, ⟨by omega, by omega, fun j hj => ?_⟩, by (try dsimp only); omega⟩⟩, fun hge => ?_⟩⟩
  · refine h1 i a0 ?_
    rw [← he]
    exact getD_mem (by omega)
  · by_cases e : j = i.toNat
    · rw [e]; exact hne
    · exact a2 j (by omega)
  · refine h0 fun hm => ?_
    obtain ⟨j, hj, he⟩ := List.getElem_of_mem hm
    refine a2 j (by omega) ?_
    simp [List.getD, hj, he]
theorem bytesLess_lt (a b : Bs) : Op.bytesLess a b = decide (a < b) := bytesLess_eq a b
theorem sortedTexts_M {l : List Bs} {K : List Bs → Prop} (hl : l.length ≤ 1000000) (h : K (sortU l)) : M_smithyref_SortedTexts l K := by
  intro _
  refine ⟨fun out i => 0 ≤ i ∧ i ≤ l.length ∧ Strict out ∧ (∀ x, x ∈ out ↔ x ∈ l.take i.toNat) ∧ out.length ≤ i.toNat, fun _ i => l.length - i.toNat, ⟨by omega, by omega, List.Pairwise.nil, by simp, by simp⟩, fun out i ⟨a0, a1, a2, a3, a4⟩ => ⟨fun hlt => ?_, fun hge => ?_⟩⟩
  · generalize hx : l.getD i.toNat [] = x
    have htk : ∀ y, y ∈ l.take (i + 1).toNat ↔ y ∈ l.take i.toNat ∨ y = x := fun y => by
      rw [show (i + 1).toNat = i.toNat + 1 by omega, List.take_succ_eq_append_getElem (by omega), List.mem_append, List.mem_singleton, ← hx]
      simp [List.getD, show i.toNat < l.length by omega]
    refine ⟨fun o => Strict o ∧ (∀ y, y ∈ o ↔ y ∈ l.take (i + 1).toNat) ∧ o.length ≤ i.toNat + 1, ?_, fun o ⟨h1, h2, h3⟩ => ⟨by simp only [In]; omega, ⟨by omega, by omega, h1, h2, by omega⟩, by (try dsimp only); omega⟩⟩
    refine ⟨fun k => 0 ≤ k ∧ k ≤ out.length ∧ ∀ j, j < k.toNat → out.getD j [] < x, fun k => out.length - k.toNat, ⟨by omega, by omega, by intro j hj; simp at hj⟩, fun k ⟨b0, b1, b2⟩ => ⟨fun hd => ?_, fun hd => ?_, fun hc => ?_, fun hc => ⟨fun hd => ?_, fun hd => ?_, fun he => ?_, fun he => ?_⟩⟩⟩
    · simp only [decide_eq_true_eq] at hd; omega
    · omega
    · rw [Bool.and_eq_true, bytesLess_lt, decide_eq_true_eq, decide_eq_true_eq] at hc
      refine ⟨by simp only [In]; omega, ⟨by omega, by omega, fun j hj => ?_⟩, by (try dsimp only); omega⟩
      by_cases e : j = k.toNat
      · rw [e]; exact hc.2
      · exact b2 j (by omega)
    · simp only [decide_eq_true_eq] at hd; omega
    · omega
    · rw [Bool.and_eq_true, decide_eq_true_eq, decide_eq_true_eq] at he
      refine ⟨a2, fun y => ?_, by omega⟩
      rw [htk, a3]
      refine ⟨.inl, fun h => h.elim id fun h => ?_⟩
      rw [h, ← a3, ← he.2]
      exact getD_mem (by omega)
    · have hlen : (out.take k.toNat).length = k.toNat := by simp; omega
      refine ⟨by simp only [In]; omega, by omega, by omega, ?_, by omega, ?_, by omega, ?_, ?_⟩
      · simp only [List.length_nil, hlen]; omega
      · simp only [List.nil_append, List.length_cons, List.length_nil, hlen]; omega
      · simp only [List.nil_append, List.length_append, List.length_cons, List.length_nil, List.length_drop, hlen]; omega
      · rw [List.nil_append, List.append_assoc]
        refine ⟨strict_insert a2 (by omega) b2 fun hk => ?_, fun y => ?_, ?_⟩
        · have hk' : k < out.length := by omega
          rw [bytesLess_lt, decide_eq_true hk', Bool.true_and, decide_eq_false_iff_not] at hc
          rw [decide_eq_true hk', Bool.true_and, decide_eq_false_iff_not] at he
          rcases bs_lt_or (out.getD k.toNat []) x with h1 | h1 | h1
          · exact absurd h1 hc
          · exact absurd h1 he
          · exact h1
        · rw [htk, ← a3, List.mem_append, List.mem_append, List.mem_singleton]
          conv => rhs; lhs; rw [← List.take_append_drop k.toNat out, List.mem_append]
          constructor
          · rintro (h | h | h)
            · exact .inl (.inl h)
            · exact .inr h
            · exact .inl (.inr h)
          · rintro ((h | h) | h)
            · exact .inl h
            · exact .inr (.inr h)
            · exact .inr (.inl h)
        · simp only [List.length_append, List.length_cons, List.length_nil, List.length_drop, hlen]; omega
  · have e : i.toNat = l.length := by omega
    rw [e, List.take_length] at a3
    rw [sortU_of a2 a3]
    exact h
def oneB (pats : List Bs) (p : Bs) : Bool := pats.any fun x => patB x && matchB x p
theorem oneB_mem {pats : List Bs} {p : Bs} : oneB pats p = true ↔ ∃ x ∈ pats, (patB x && matchB x p) = true := by unfold oneB; exact List.any_eq_true
theorem pone_M {pats : List Bs} {p : Bs} {K : Bool → Prop} (hl : pats.length ≤ 1000000000) (hx : ∀ x ∈ pats, x.length ≤ 1000000000) (hp : p.length ≤ 1000000000) (h : K (oneB pats p)) : M_path_one pats p K := by
  intro _
  refine ⟨fun i => 0 ≤ i ∧ i ≤ pats.length ∧ ∀ j, j < i.toNat → (patB (pats.getD j []) && matchB (pats.getD j []) p) = false, fun i => pats.length - i.toNat, ⟨by omega, by omega, by intro j hj; simp at hj⟩, fun i ⟨a0, a1, a2⟩ => ⟨fun hlt => ⟨by omega, ?_⟩, fun hge => ?_⟩⟩
  · have hm : pats.getD i.toNat [] ∈ pats := getD_mem (by omega)
    have key : ∀ b : Bool, b = (patB (pats.getD i.toNat []) && matchB (pats.getD i.toNat []) p) → ((b = true → K true) ∧ (b = false → In .i64 (i + 1) ∧ (0 ≤ i + 1 ∧ i + 1 ≤ pats.length ∧ ∀ j, j < (i + 1).toNat → (patB (pats.getD j []) && matchB (pats.getD j []) p) = false) ∧ pats.length - (i + 1).toNat < pats.length - i.toNat)) := fun b hb => ⟨fun ht => by
        have : oneB pats p = true := oneB_mem.2 ⟨_, hm, by rw [← hb, ht]⟩
        rw [this] at h; exact h, fun hf => ⟨by simp only [In]; omega, ⟨by omega, by omega, fun j hj => by
        by_cases e : j = i.toNat
        · rw [e, ← hb, hf]
        · exact a2 j (by omega)⟩, by (try dsimp only); omega⟩⟩
    refine match_M (by have := hx _ hm; omega) (by omega) (fun hf => ?_) (fun ht => ?_)
    · exact key false (by rw [hf]; rfl)
    · exact key _ (by rw [ht, Bool.true_and])
  · have : oneB pats p = false := by
      rw [← Bool.not_eq_true, oneB_mem]
      rintro ⟨x, hm, he⟩
      obtain ⟨j, hj, rfl⟩ := List.getElem_of_mem hm
      have := a2 j (by omega)
      simp only [List.getD, List.getElem?_eq_getElem hj, Option.getD_some] at this
      rw [this] at he
      cases he
    rw [this] at h; exact h
theorem glob_M {pats but paths : List Bs} {K : List Bs → Er → Prop} (h1 : pats.length ≤ 1000000) (h2 : but.length ≤ 1000000) (h3 : paths.length ≤ 1000000) (hx : ∀ x ∈ pats, x.length ≤ 1000000) (hy : ∀ x ∈ but, x.length ≤ 1000000) (hz : ∀ x ∈ paths, x.length ≤ 1000000)
    (hbad : ∀ i : Nat, i < (pats ++ but).length → patB ((pats ++ but).getD i []) = false → (∀ j, j < i → patB ((pats ++ but).getD j []) = true) → K [] (.at_ i 11))
    (hgood : (∀ x ∈ pats ++ but, patB x = true) → K (sortU (paths.filter fun p => oneB pats p && !oneB but p)) .ok) : M_path_Glob pats but paths K := by
  intro _ _ _
  refine ⟨by omega, ?_⟩
  have hlen : (pats ++ but).length = pats.length + but.length := List.length_append
  refine ⟨fun i => 0 ≤ i ∧ i ≤ (pats ++ but).length ∧ ∀ j, j < i.toNat → patB ((pats ++ but).getD j []) = true, fun i => (pats ++ but).length - i.toNat, ⟨by omega, by omega, by intro j hj; simp at hj⟩, fun i ⟨a0, a1, a2⟩ => ⟨fun hlt => ⟨by omega, ?_⟩, fun hge => ?_⟩⟩
  · have hm : (pats ++ but).getD i.toNat [] ∈ pats ++ but := getD_mem (by omega)
    have hml : ((pats ++ but).getD i.toNat []).length ≤ 1000000 := (List.mem_append.1 hm).elim (hx _) (hy _)
    refine match_M (by omega) (by simp) (fun hf => ⟨fun _ => ⟨11, rfl, ?_⟩, fun e => by cases e⟩) (fun ht => ⟨fun e => absurd rfl e, fun _ => ⟨by simp only [In]; omega, ⟨by omega, by omega, fun j hj => ?_⟩, by (try dsimp only); omega⟩⟩)
    · have := hbad i.toNat (by omega) hf (fun j hj => a2 j hj)
      rwa [show ((i.toNat : Nat) : Int) = i by omega] at this
    · by_cases e : j = i.toNat
      · rw [e]; exact ht
      · exact a2 j (by omega)
  · have hall : ∀ x ∈ pats ++ but, patB x = true := fun x hm => by
      obtain ⟨j, hj, rfl⟩ := List.getElem_of_mem hm
      have := a2 j (by omega)
      simpa only [List.getD, List.getElem?_eq_getElem hj, Option.getD_some] using this
    have hK := hgood hall
    refine ⟨fun out k => 0 ≤ k ∧ k ≤ paths.length ∧ out = (paths.take k.toNat).filter fun p => oneB pats p && !oneB but p, fun _ k => paths.length - k.toNat, ⟨by omega, by omega, by simp⟩, fun out k ⟨b0, b1, b2⟩ => ⟨fun hlt => ?_, fun hge => ?_⟩⟩
    · have hm : paths.getD k.toNat [] ∈ paths := getD_mem (by omega)
      have hml := hz _ hm
      have hnext : (paths.take (k + 1).toNat).filter (fun p => oneB pats p && !oneB but p) = out ++ [paths.getD k.toNat []].filter (fun p => oneB pats p && !oneB but p) := by
        rw [b2, ← List.filter_append, show (k + 1).toNat = k.toNat + 1 by omega, List.take_succ_eq_append_getElem (by omega)]
        simp [List.getD, show k.toNat < paths.length by omega]
      refine ⟨fun o => o = (paths.take (k + 1).toNat).filter fun p => oneB pats p && !oneB but p, ⟨by omega, ?_⟩, fun o ho => ⟨by simp only [In]; omega, ⟨by omega, by omega, ho⟩, by (try dsimp only); omega⟩⟩
      refine pone_M (by omega) (fun x h => by have := hx x h; omega) (by omega) ?_
      refine ⟨fun b => b = (oneB pats (paths.getD k.toNat []) && !oneB but (paths.getD k.toNat [])), ⟨fun ht => ?_, fun hf => by rw [hf]; rfl⟩, fun b hb => ⟨fun ht => ⟨?_, ?_⟩, fun hf => ?_⟩⟩
      · refine pone_M (by omega) (fun x h => by have := hy x h; omega) (by omega) ?_
        rw [ht, Bool.true_and]
      · have hol : out.length ≤ paths.length := by
          rw [b2]
          exact Nat.le_trans (List.length_filter_le _ _) (by simp; omega)
        simp only [List.length_cons, List.length_nil]
        omega
      · show _ = _
        rw [hnext, List.filter_cons_of_pos (by rw [← hb, ht])]
        rfl
      · show _ = _
        rw [hnext, List.filter_cons_of_neg (by rw [← hb, hf]; simp)]
        simp
    · have e : k.toNat = paths.length := by omega
      rw [e, List.take_length] at b2
      subst b2
      have hfl : (paths.filter fun p => oneB pats p && !oneB but p).length ≤ paths.length := List.length_filter_le _ _
      exact ⟨by omega, hK⟩
/-! ## the chapter's patterns -/
theorem contains_two (x : Bs) : Lib.contains x [42, 42] = true ↔ ∃ k, k + 1 < x.length ∧ x.getD k 0 = 42 ∧ x.getD (k + 1) 0 = 42 := by
  induction x with
  | nil => simp [Lib.contains, Lib.index]
  | cons b l ih =>
    unfold Lib.contains at ih ⊢
    rw [Lib.index]
    cases hp : ([42, 42] : List UInt8).isPrefixOf (b :: l) with
    | true =>
      simp only [if_true, Int.le_refl, decide_true, true_iff]
      cases l with
      | nil => simp [List.isPrefixOf] at hp
      | cons c l =>
        simp only [List.isPrefixOf, Bool.and_true, Bool.and_eq_true, beq_iff_eq] at hp
        exact ⟨0, by simp, by simp [hp.1], by simp [hp.2]⟩
    | false =>
      simp only [Bool.false_eq_true, if_false]
      have hge := Lib.index_ge l [42, 42]
      have e1 : decide (0 ≤ (if (Lib.index l [42, 42] == -1) = true then -1 else Lib.index l [42, 42] + 1)) = decide (0 ≤ Lib.index l [42, 42]) := by
        rw [decide_eq_decide]
        split
        · rename_i h; rw [beq_iff_eq] at h; omega
        · rename_i h; rw [beq_iff_eq] at h; omega
      rw [e1, ih]
      constructor
      · rintro ⟨k, h1, h2, h3⟩
        exact ⟨k + 1, by simp; omega, by simpa using h2, by simpa using h3⟩
      · rintro ⟨k, h1, h2, h3⟩
        cases k with
        | zero =>
          exfalso
          cases l with
          | nil => simp at h1
          | cons c l =>
            simp at h2 h3
            subst h2; subst h3
            simp [List.isPrefixOf] at hp
        | succ k => exact ⟨k, by simp at h1; omega, by simpa using h2, by simpa using h3⟩
def starB (c : UInt8) : Bool := letB c || decide (c = 42)
theorem starB_map (x : Bs) : fairB (x.map fun c => if c = 42 then 95 else c) = (x.all starB && !dotsB (x.map fun c => if c = 42 then 95 else c)) := by
  unfold fairB
  rw [List.all_map]
  congr 2
  funext c
  unfold starB
  by_cases h : c = 42
  · subst h; decide
  · simp [h]
theorem dots_map (x : Bs) : dotsB (x.map fun c => if c = 42 then 95 else c) = dotsB x := by
  have h46 : ∀ c : UInt8, (if c = 42 then (95 : UInt8) else c) = 46 ↔ c = 46 := fun c => by
    by_cases h : c = 42
    · subst h; decide
    · simp [h]
  unfold dotsB
  congr 1
  · congr 1
    · simp
    · rw [decide_eq_decide]
      match x with
      | [] => simp
      | [a] => simp [h46]
      | a :: b :: l => simp
  · rw [decide_eq_decide]
    match x with
    | [] => simp
    | [a] => simp
    | [a, b] => simp [h46]
    | a :: b :: c :: l => simp
theorem patPart_eq (x : Bs) : patPart x = ((x.all starB && !dotsB x) && !(Lib.contains x [42, 42] && !decide (x = [42, 42]))) := by
  unfold patPart
  rw [starB_map, dots_map]
  cases Lib.contains x [42, 42] && !decide (x = [42, 42]) <;> cases dotsB x <;> cases x.all starB <;> rfl
theorem rpartS_M {s : Bs} {K : Bool → Prop} (hs : s.length ≤ 4000000000) (h : K (s.all starB && !dotsB s)) : M_smithyref1_part s true K := by
  unfold M_smithyref1_part
  refine ⟨fun i => ∃ k : Nat, i = k ∧ k ≤ s.length ∧ (s.take k).all starB = true, fun i => (s.length - i.toNat), ⟨0, rfl, by omega, by simp⟩, ?_⟩
  rintro _ ⟨k, rfl, hk, hall⟩
  refine ⟨fun hlt => ⟨by omega, rletter_M ?_⟩, fun hge => ?_⟩
  · have hk' : k < s.length := by omega
    rw [Int.toNat_natCast]
    have hb : decide (((s.getD k 0).toNat : Int) = (42 : Int)) = decide (s.getD k 0 = 42) := byteEq (s.getD k 0) 42
    have hno : starB (s.getD k 0) = false → s.all starB = false := fun hf => by
      rw [List.all_eq_false]
      exact ⟨s.getD k 0, getD_mem hk', by rw [hf]; simp⟩
    have hgo : starB (s.getD k 0) = true → In .i64 ((k : Int) + 1) ∧ (∃ j : Nat, (k : Int) + 1 = j ∧ j ≤ s.length ∧ (s.take j).all starB = true) ∧ s.length - ((k : Int) + 1).toNat < s.length - (k : Int).toNat := fun ht => ⟨by simp only [In]; omega, ⟨k + 1, by omega, by omega, take_all_succ hall hk' ht⟩, by (try dsimp only); omega⟩
    have hsb : starB (s.getD k 0) = (letB (s.getD k 0) || decide (s.getD k 0 = 42)) := rfl
    rw [hsb] at hno hgo
    cases hl : letB (s.getD k 0) with
    | true => rw [hl] at hgo; exact ⟨fun h1 => by simp at h1, fun h1 => by simp at h1, fun _ => hgo rfl⟩
    | false =>
      rw [hl, Bool.false_or] at hgo hno
      refine ⟨fun _ _ => by omega, fun hc => ?_, fun hc => ?_⟩
      · have hf : decide (s.getD k 0 = 42) = false := by rw [hb] at hc; simpa using hc
        rw [hno hf] at h
        exact h
      · have ht : decide (s.getD k 0 = 42) = true := by rw [hb] at hc; simpa using hc
        exact hgo ht
  · obtain rfl : k = s.length := by omega
    rw [List.take_length] at hall
    unfold dotsB at h
    rw [hall, Bool.true_and, Bool.not_or, Bool.not_or] at h
    exact h
end Go.Proofs.YtcfljnfaakjdjaaDoor
 /- Regions some of whose operations may come in several orders: the floats once, the others order by order, what stands behind once. -/
namespace Go.Proofs.YtcfljnfaakjdjaaDoor
open Go Go.RowKit
section
variable {P : Program} {N : Nat} {ops : Array Oper} {fl : Nat → Bool} {D : World → Prop} {n g : Nat} {K : Act → World → Prop} {Q : Post} {L : Slots} {w : World} {f : Nat} {listed : Array Bool} {d : Nat} {op : Op} {ty : TypeId} {pos : String} {af : Array Edge} {gd : Option (Nat × Bool)}
structure HeadOk (ops : Array Oper) (n : Nat) : Prop where
  sel : Region.noSelect ops = true
  sink : Region.sinkB .any ops n = true
  chain : Region.chainB .any ops n = true
  lt : n < ops.size
def WA (P : Program) (N : Nat) (ops : Array Oper) (fl : Nat → Bool) (D : World → Prop) (n g : Nat) (K : Act → World → Prop) (f : Nat) (listed : Array Bool) (L : Slots) (w : World) : Prop :=
  HeadOk ops n → HeadInv .any ops n listed → ∀ a w1, Eqv w w1 → D w1 → Has N L a → anyT P .any ops fl D n (fun l' a' w' => Region.seqB .any ops g n l' = true ∧ K a' w') f listed a w1
def WI (P : Program) (N : Nat) (ops : Array Oper) (fl : Nat → Bool) (D : World → Prop) (n g : Nat) (K : Act → World → Prop) (f : Nat) (listed : Array Bool) (L : Slots) (w : World) (i : Nat) : Prop :=
  HeadOk ops n → HeadInv .any ops n (listed.setIfInBounds i true) → ∀ a w1, Eqv w w1 → D w1 → Has N L a → ∃ o, ops[i]? = some o ∧ fl i = false ∧ sRun P ops D o a w1 fun a' w' => anyT P .any ops fl D n (fun l' a' w' => Region.seqB .any ops g n l' = true ∧ K a' w') f (listed.setIfInBounds i true) a' w'
theorem WC.ordersK {i : Nat} {l : List Oper} (n : Nat) (fl : Nat → Bool) (D : World → Prop) (K : Act → World → Prop) (hm : P.follows .mixedOrders = true) (hB : (Region.noSelect l.toArray && (Region.sinkB .any l.toArray n && (Region.chainB .any l.toArray n && Nat.blt n l.length))) = true) (hE : ∀ w', Eqv w w' → D w')
    (h : WA P N l.toArray fl D n (l.length - n) K n (Array.replicate l.length false) L w)
    (ht : ∀ a w', K a w' → wpList P l.toArray Q (l.drop n) a w') : WC P N Q (.region i l.toArray true) L w := fun a wx e ha => by
  simp only [Bool.and_eq_true] at hB
  obtain ⟨hsel, hs, hc, hlt⟩ := hB
  have hn' : n < l.length := by simpa [Nat.blt_eq] using hlt
  refine wp_region_any hm ?_
  have inv0 : HeadInv .any l.toArray n (Array.replicate l.length false) :=
    ⟨by simp, fun j oj _ hl => (by rw [getD_replicate_false] at hl; cases hl), fun t _ ht => getD_in (by simpa using ht) (getD_replicate_false _ _)⟩
  have H := h ⟨hsel, hs, hc, by simpa using hn'⟩ inv0 a { wx with drawn := wx.drawn + 1 } (e.drawn _) (hE _ (e.drawn _)) ha
  have h2 := any_of_anyT (Q' := Q) (g := l.length - n) (fun listed a' w' _ hL => by
    obtain ⟨hq, hK⟩ := hL
    have := wpAny_of_seq (md := .any) (Q' := Q) (l.drop n) n listed a' w' (fun j => by simp [List.getElem?_drop]) (by rw [List.length_drop]; exact hq) (ht a' w' hK)
    rwa [List.length_drop] at this) _ _ _ _ (hE { wx with drawn := wx.drawn + 1 } (e.drawn _)) H
  rw [show n + (l.length - n) = l.length by omega] at h2
  simpa using h2
def Ends4 {S1 S2 S3 S4 : Type} (N : Nat) (Ls : S1 → S2 → S3 → S4 → Slots) (I : S1 → S2 → S3 → S4 → World → Prop) (a : Act) (w : World) : Prop := ∃ p q r s w0, I p q r s w0 ∧ Eqv w0 w ∧ Has N (Ls p q r s) a
theorem WC.orders4 {S1 S2 S3 S4 : Type} {i : Nat} {l : List Oper} (n : Nat) (fl : Nat → Bool) (D : World → Prop) (Ls : S1 → S2 → S3 → S4 → Slots) (I : S1 → S2 → S3 → S4 → World → Prop) (hm : P.follows .mixedOrders = true) (hB : (Region.noSelect l.toArray && (Region.sinkB .any l.toArray n && (Region.chainB .any l.toArray n && Nat.blt n l.length))) = true) (hE : ∀ w', Eqv w w' → D w')
    (h : WA P N l.toArray fl D n (l.length - n) (Ends4 N Ls I) n (Array.replicate l.length false) L w)
    (ht : ∀ p q r s w0, I p q r s w0 → WL P N l.toArray Q (l.drop n) (Ls p q r s) w0) : WC P N Q (.region i l.toArray true) L w :=
  WC.ordersK n fl D _ hm hB hE h fun a w' ⟨p, q, r, s, w0, hI, he, hh⟩ => ht p q r s w0 hI a w' he hh
theorem WA.done4 {S1 S2 S3 S4 : Type} {Ls : S1 → S2 → S3 → S4 → Slots} {I : S1 → S2 → S3 → S4 → World → Prop} (p : S1) (q : S2) (r : S3) (s : S4) (hq : Region.seqB .any ops g n listed = true) (hI : I p q r s w) (hs : Sub L (Ls p q r s)) : WA P N ops fl D n g (Ends4 N Ls I) 0 listed L w := fun _ _ _ _ e _ ha => ⟨hq, p, q, r, s, w, hI, e, ha.sub hs⟩
def EndsF (N : Nat) (F : Slots → World → Prop) (a : Act) (w : World) : Prop := ∃ L w0, F L w0 ∧ Eqv w0 w ∧ Has N L a
theorem WC.ordersF {i : Nat} {l : List Oper} (n : Nat) (fl : Nat → Bool) (D : World → Prop) (F : Slots → World → Prop) (hm : P.follows .mixedOrders = true) (hB : (Region.noSelect l.toArray && (Region.sinkB .any l.toArray n && (Region.chainB .any l.toArray n && Nat.blt n l.length))) = true) (hE : ∀ w', Eqv w w' → D w')
    (ht : ∀ L' w', F L' w' → WL P N l.toArray Q (l.drop n) L' w')
    (h : WA P N l.toArray fl D n (l.length - n) (EndsF N F) n (Array.replicate l.length false) L w) : WC P N Q (.region i l.toArray true) L w :=
  WC.ordersK n fl D _ hm hB hE h fun a w' ⟨L', w0, hI, he, hh⟩ => ht L' w0 hI a w' he hh
theorem WA.doneF {F : Slots → World → Prop} (L' : Slots) (hq : Region.seqB .any ops g n listed = true) (hI : F L' w) (hs : Sub L L') : WA P N ops fl D n g (EndsF N F) 0 listed L w := fun _ _ _ _ e _ ha => ⟨hq, L', w, hI, e, ha.sub hs⟩
theorem WA.y {v : Value} (k : Nat) (ho : ops[k]? = some ⟨some d, op, ty, pos, af, none⟩) (hf : (fl k && ((Region.ready .any ops listed).contains k && (Region.free .any ops listed k && Nat.blt k n))) = true) (hd : Nat.blt d N = true) (hy : ∀ w', D w' → Yld P N w' ⟨some d, op, ty, pos, af, none⟩ L v)
    (h : WA P N ops fl D n g K f (listed.setIfInBounds k true) ((d, v) :: L) w) : WA P N ops fl D n g K (f + 1) listed L w := fun ok inv a w1 e hw ha => by
  simp only [Bool.and_eq_true] at hf
  obtain ⟨hfl, hr, hfr, hkn⟩ := hf
  have hr' : k ∈ Region.ready .any ops listed := by simpa using hr
  have hkn' : k < n := by simpa [Nat.blt_eq] using hkn
  exact float_firstT ho hfl (Region.noSelect_spec ok.sel) ok.sink ok.chain ok.lt hkn' (fun _ _ _ hL => seqB_ready hL.1) f listed a w1 hw inv (Region.free_spec ho hfr) hr'
    (.inl ⟨by simp [Region.wanted], fun w' hw' => hy w' hw' a w' (Eqv.refl _) ha⟩) (h ok (inv.set hr' hkn') _ _ e hw (ha.put hd v))
def AllL {α : Type} (p : α → Prop) : List α → Prop
  | [] => True
  | [x] => p x
  | x :: y :: l => p x ∧ AllL p (y :: l)
theorem AllL.mem {α : Type} {p : α → Prop} : ∀ {l : List α}, AllL p l → ∀ x ∈ l, p x
  | [], _, x, h => by simp at h
  | [y], h, x, hx => by simp at hx; subst hx; exact h
  | y :: z :: l, h, x, hx => by
    rcases List.mem_cons.1 hx with rfl | hx
    · exact h.1
    · exact AllL.mem h.2 x hx
theorem WA.split (is : List Nat) (hr : Region.ready .any ops listed = is) (hc : (!is.isEmpty && is.all fun i => Nat.blt i n) = true) (h : AllL (WI P N ops fl D n g K f listed L w) is) : WA P N ops fl D n g K (f + 1) listed L w := fun ok inv a w1 e hw ha => by
  simp only [Bool.and_eq_true] at hc
  refine ⟨fun h0 => ?_, fun i hi => ?_⟩
  · rw [hr] at h0; subst h0; simp at hc
  · have hi' := hi
    rw [hr] at hi'
    have hin : i < n := by have := List.all_eq_true.1 hc.2 i hi'; simpa [Nat.blt_eq] using this
    obtain ⟨o, ho, hfl, hs⟩ := h.mem i hi' ok (inv.set hi hin) a w1 e hw ha
    exact ⟨hin, o, ho, .inr ⟨hfl, hs⟩⟩
theorem WI.put {i : Nat} {R : Value → World → Prop} (ho : ops[i]? = some ⟨some d, op, ty, pos, af, none⟩) (hf : fl i = false) (hd : Nat.blt d N = true) (hr : Eff P N w ⟨some d, op, ty, pos, af, none⟩ L R) (hD : ∀ v w', R v w' → D w')
    (hk : ∀ v w', R v w' → WA P N ops fl D n g K f (listed.setIfInBounds i true) ((d, v) :: L) w') : WI P N ops fl D n g K f listed L w i := fun ok inv a w1 e hw ha => by
  refine ⟨_, ho, hf, ?_⟩
  unfold sRun
  rw [if_pos (by simp [Region.wanted])]
  obtain ⟨v, w', h, hR⟩ := hr a w1 e ha
  rw [h]
  exact ⟨hD v w' hR, hk v w' hR ok inv _ w' (Eqv.refl _) (hD v w' hR) (ha.put hd v)⟩
theorem WI.eff {i : Nat} {R : World → Prop} (ho : ops[i]? = some ⟨none, op, ty, pos, af, none⟩) (hf : fl i = false) (hr : Ef0 P N w ⟨none, op, ty, pos, af, none⟩ L R) (hD : ∀ w', R w' → D w')
    (hk : ∀ w', R w' → WA P N ops fl D n g K f (listed.setIfInBounds i true) L w') : WI P N ops fl D n g K f listed L w i := fun ok inv a w1 e hw ha => by
  refine ⟨_, ho, hf, ?_⟩
  unfold sRun
  rw [if_pos (by simp [Region.wanted])]
  obtain ⟨w', h, hR⟩ := hr a w1 e ha
  rw [h]
  exact ⟨hD w' hR, hk w' hR ok inv _ w' (Eqv.refl _) (hD w' hR) ha⟩
theorem WI.call {i : Nat} {R : Value → World → Prop} {fn : FuncId} {as_ : List Operand} {ts : Array TypeId} {vs : List Value} (ho : ops[i]? = some ⟨some d, .call ⟨.value (.func fn), ⟨as_⟩, ts⟩, ty, pos, af, gd⟩) (hf : fl i = false) (hg : Wants N ops L gd) (hd : Nat.blt d N = true) (hv : opvs L as_ = some vs) (hc : Fn P fn ⟨vs⟩ w R) (hD : ∀ v w', R v w' → ∀ w2, Eqv w' w2 → D w2)
    (hk : ∀ v w', R v w' → WA P N ops fl D n g K f (listed.setIfInBounds i true) ((d, v) :: L) w') : WI P N ops fl D n g K f listed L w i := fun ok inv a w1 e hw ha => by
  refine ⟨_, ho, hf, ?_⟩
  unfold sRun
  rw [if_pos (Wants.wanted (o := ⟨some d, .call ⟨.value (.func fn), ⟨as_⟩, ts⟩, ty, pos, af, gd⟩) hg ha), run_enter ha hv hc.1]
  refine (hc.2 w1 e).mono ?_
  rintro en w' ⟨v, w0, rfl, h0, hR⟩
  exact ⟨v, rfl, hD v w0 hR w' h0, hk v w0 hR ok inv _ w' h0 (hD v w0 hR w' h0) (ha.put hd v)⟩
end
end Go.Proofs.YtcfljnfaakjdjaaDoor
 