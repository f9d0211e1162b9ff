/- Texts of this claim, joined by a program: GRa, Lim3, Lim4, Num1. -/
import Derived.Test.YtilphcippnfklaaDoorJ2
/- Printed by a program (wip/vg): what the functions mean, plainly, and their walks. -/
namespace Go.Proofs.YtilphcippnfklaaDoor
open Go Go.RowKit
attribute [local irreducible] WL WC WX WQ WK WJ Yld Eff Ef0 Fn
def M_smithyref9_trim (neg : Bool) (l : List Int) (K : Bool → (List Int) → Prop) : Prop :=
 (l.length ≤ maxLen →
 Lp1 (fun (n : Int) k_1 => ((decide ((0 : Int) < n)) = true → (In .i64 (n - (1 : Int)))) ∧
 ((decide ((0 : Int) < n)) = true → (0 ≤ n - (1 : Int) ∧ n - (1 : Int) < (l.length : Nat))) ∧
 ((((decide ((0 : Int) < n)) && (decide ((l.getD ((n - (1 : Int)).toNat) 0) = (0 : Int)))) = true → (In .i64 (n - (1 : Int))) ∧
 k_1 (n - (1 : Int))) ∧
 (((decide ((0 : Int) < n)) && (decide ((l.getD ((n - (1 : Int)).toNat) 0) = (0 : Int)))) = false → (0 ≤ (0 : Int) ∧ (0 : Int) ≤ n ∧ n ≤ (l.length : Nat)) ∧
 K (neg && (decide ((0 : Int) < n))) ((l.drop 0).take (n.toNat - 0))))) (l.length : Int))

def M_smithyref9_size (a : List Int) (b : List Int) (K : Int → Prop) : Prop :=
 (a.length ≤ maxLen →
 (b.length ≤ maxLen →
 ((¬ ((a.length : Int) = (b.length : Int)) → (((a.length : Int) < (b.length : Int) → K (-1 : Int)) ∧
 (¬ ((a.length : Int) < (b.length : Int)) → K (1 : Int)))) ∧
 ((a.length : Int) = (b.length : Int) → (In .i64 ((a.length : Int) - (1 : Int))) ∧
 Lp1 (fun (i : Int) k_1 => (((0 : Int) ≤ i → (0 ≤ i ∧ i < (a.length : Nat)) ∧
 (0 ≤ i ∧ i < (b.length : Nat)) ∧
 (((a.getD i.toNat 0) < (b.getD i.toNat 0) → K (-1 : Int)) ∧
 (¬ ((a.getD i.toNat 0) < (b.getD i.toNat 0)) → (0 ≤ i ∧ i < (a.length : Nat)) ∧
 (0 ≤ i ∧ i < (b.length : Nat)) ∧
 (((b.getD i.toNat 0) < (a.getD i.toNat 0) → K (1 : Int)) ∧
 (¬ ((b.getD i.toNat 0) < (a.getD i.toNat 0)) → (In .i64 (i - (1 : Int))) ∧
 k_1 (i - (1 : Int))))))) ∧
 (¬ ((0 : Int) ≤ i) → K (0 : Int)))) ((a.length : Int) - (1 : Int))))))

def M_smithyref9_sum (a : List Int) (b : List Int) (K : (List Int) → Prop) : Prop :=
 (a.length ≤ maxLen →
 (b.length ≤ maxLen →
 Lp3 (fun (l : List Int) (carry : Int) (i : Int) k_1 => (((((decide (i < (a.length : Int))) || (decide (i < (b.length : Int)))) || (decide ((0 : Int) < carry))) = true → ∃ J1 : Int → Prop, (((i < (a.length : Int) → (0 ≤ i ∧ i < (a.length : Nat)) ∧
 (In .i64 (carry + (a.getD i.toNat 0))) ∧
 J1 (carry + (a.getD i.toNat 0))) ∧
 (¬ (i < (a.length : Int)) → J1 carry))) ∧
 (∀ x : Int, J1 x → ∃ J2 : Int → Prop, (((i < (b.length : Int) → (0 ≤ i ∧ i < (b.length : Nat)) ∧
 (In .i64 (x + (b.getD i.toNat 0))) ∧
 J2 (x + (b.getD i.toNat 0))) ∧
 (¬ (i < (b.length : Int)) → J2 x))) ∧
 (∀ x2 : Int, J2 x2 → (0 ≤ x2 ∧ 0 < (10000 : Int)) ∧
 ((l.length + (([x2 % (10000 : Int)] : List Int)).length) * 8 ≤ 140737488355328) ∧
 (0 ≤ x2 ∧ 0 < (10000 : Int) ∧ In .i64 x2) ∧
 (In .i64 (i + (1 : Int))) ∧
 k_1 (l ++ ([x2 % (10000 : Int)] : List Int)) (x2 / (10000 : Int)) (i + (1 : Int))))) ∧
 ((((decide (i < (a.length : Int))) || (decide (i < (b.length : Int)))) || (decide ((0 : Int) < carry))) = false → K l))) [] (0 : Int) (0 : Int)))

def M_smithyref9_less (a : List Int) (b : List Int) (K : (List Int) → Prop) : Prop :=
 (a.length ≤ maxLen →
 (b.length ≤ maxLen →
 Lp3 (fun (l : List Int) (borrow : Int) (i : Int) k_1 => ((i < (a.length : Int) → (0 ≤ i ∧ i < (a.length : Nat)) ∧
 (In .i64 ((a.getD i.toNat 0) - borrow)) ∧
 ∃ J1 : Int → Prop, (((i < (b.length : Int) → (0 ≤ i ∧ i < (b.length : Nat)) ∧
 (In .i64 (((a.getD i.toNat 0) - borrow) - (b.getD i.toNat 0))) ∧
 J1 (((a.getD i.toNat 0) - borrow) - (b.getD i.toNat 0))) ∧
 (¬ (i < (b.length : Int)) → J1 ((a.getD i.toNat 0) - borrow)))) ∧
 (∀ x : Int, J1 x → ∃ J2 : Int → Int → Prop, (((x < (0 : Int) → (In .i64 (x + (10000 : Int))) ∧
 J2 (1 : Int) (x + (10000 : Int))) ∧
 (¬ (x < (0 : Int)) → J2 (0 : Int) x))) ∧
 (∀ borrow2 : Int, ∀ x2 : Int, J2 borrow2 x2 → ((l.length + (([x2] : List Int)).length) * 8 ≤ 140737488355328) ∧
 (In .i64 (i + (1 : Int))) ∧
 k_1 (l ++ ([x2] : List Int)) borrow2 (i + (1 : Int))))) ∧
 (¬ (i < (a.length : Int)) → K l))) [] (0 : Int) (0 : Int)))

def M_smithyref9_times (a : List Int) (n : Int) (K : (List Int) → Prop) : Prop :=
 (a.length ≤ maxLen →
 Lp3 (fun (l : List Int) (carry : Int) (i : Int) k_1 => ((((decide (i < (a.length : Int))) || (decide ((0 : Int) < carry))) = true → ∃ J1 : Int → Prop, (((i < (a.length : Int) → (0 ≤ i ∧ i < (a.length : Nat)) ∧
 (In .i64 ((a.getD i.toNat 0) * n)) ∧
 (In .i64 (carry + ((a.getD i.toNat 0) * n))) ∧
 J1 (carry + ((a.getD i.toNat 0) * n))) ∧
 (¬ (i < (a.length : Int)) → J1 carry))) ∧
 (∀ x : Int, J1 x → (0 ≤ x ∧ 0 < (10000 : Int)) ∧
 ((l.length + (([x % (10000 : Int)] : List Int)).length) * 8 ≤ 140737488355328) ∧
 (0 ≤ x ∧ 0 < (10000 : Int) ∧ In .i64 x) ∧
 (In .i64 (i + (1 : Int))) ∧
 k_1 (l ++ ([x % (10000 : Int)] : List Int)) (x / (10000 : Int)) (i + (1 : Int)))) ∧
 (((decide (i < (a.length : Int))) || (decide ((0 : Int) < carry))) = false → M_smithyref9_trim false l (fun (t40_Neg : Bool) (t40_L : List Int) =>
 K t40_L)))) [] (0 : Int) (0 : Int))

def M_smithyref9_four (x : Int) (K : (List UInt8) → Prop) : Prop :=
 (0 ≤ x ∧ 0 < (1000 : Int) ∧ In .i64 x) ∧
 (0 ≤ x ∧ 0 < (100 : Int) ∧ In .i64 x) ∧
 (0 ≤ x / (100 : Int) ∧ 0 < (10 : Int)) ∧
 (0 ≤ x ∧ 0 < (10 : Int) ∧ In .i64 x) ∧
 (0 ≤ x / (10 : Int) ∧ 0 < (10 : Int)) ∧
 (0 ≤ x ∧ 0 < (10 : Int)) ∧
 (In .i64 ((x / (1000 : Int)) + (1 : Int))) ∧
 (0 ≤ x / (1000 : Int) ∧ x / (1000 : Int) ≤ (x / (1000 : Int)) + (1 : Int) ∧ (x / (1000 : Int)) + (1 : Int) ≤ ([48, 49, 50, 51, 52, 53, 54, 55, 56, 57] : List UInt8).length) ∧
 (In .i64 (((x / (100 : Int)) % (10 : Int)) + (1 : Int))) ∧
 (0 ≤ (x / (100 : Int)) % (10 : Int) ∧ (x / (100 : Int)) % (10 : Int) ≤ ((x / (100 : Int)) % (10 : Int)) + (1 : Int) ∧ ((x / (100 : Int)) % (10 : Int)) + (1 : Int) ≤ ([48, 49, 50, 51, 52, 53, 54, 55, 56, 57] : List UInt8).length) ∧
 (((([48, 49, 50, 51, 52, 53, 54, 55, 56, 57] : List UInt8).drop (x / (1000 : Int)).toNat).take (((x / (1000 : Int)) + (1 : Int)).toNat - (x / (1000 : Int)).toNat)).length + ((([48, 49, 50, 51, 52, 53, 54, 55, 56, 57] : List UInt8).drop ((x / (100 : Int)) % (10 : Int)).toNat).take ((((x / (100 : Int)) % (10 : Int)) + (1 : Int)).toNat - ((x / (100 : Int)) % (10 : Int)).toNat)).length ≤ 9223372036854775807) ∧
 (In .i64 (((x / (10 : Int)) % (10 : Int)) + (1 : Int))) ∧
 (0 ≤ (x / (10 : Int)) % (10 : Int) ∧ (x / (10 : Int)) % (10 : Int) ≤ ((x / (10 : Int)) % (10 : Int)) + (1 : Int) ∧ ((x / (10 : Int)) % (10 : Int)) + (1 : Int) ≤ ([48, 49, 50, 51, 52, 53, 54, 55, 56, 57] : List UInt8).length) ∧
 ((((([48, 49, 50, 51, 52, 53, 54, 55, 56, 57] : List UInt8).drop (x / (1000 : Int)).toNat).take (((x / (1000 : Int)) + (1 : Int)).toNat - (x / (1000 : Int)).toNat)) ++ ((([48, 49, 50, 51, 52, 53, 54, 55, 56, 57] : List UInt8).drop ((x / (100 : Int)) % (10 : Int)).toNat).take ((((x / (100 : Int)) % (10 : Int)) + (1 : Int)).toNat - ((x / (100 : Int)) % (10 : Int)).toNat))).length + ((([48, 49, 50, 51, 52, 53, 54, 55, 56, 57] : List UInt8).drop ((x / (10 : Int)) % (10 : Int)).toNat).take ((((x / (10 : Int)) % (10 : Int)) + (1 : Int)).toNat - ((x / (10 : Int)) % (10 : Int)).toNat)).length ≤ 9223372036854775807) ∧
 (In .i64 ((x % (10 : Int)) + (1 : Int))) ∧
 (0 ≤ x % (10 : Int) ∧ x % (10 : Int) ≤ (x % (10 : Int)) + (1 : Int) ∧ (x % (10 : Int)) + (1 : Int) ≤ ([48, 49, 50, 51, 52, 53, 54, 55, 56, 57] : List UInt8).length) ∧
 (((((([48, 49, 50, 51, 52, 53, 54, 55, 56, 57] : List UInt8).drop (x / (1000 : Int)).toNat).take (((x / (1000 : Int)) + (1 : Int)).toNat - (x / (1000 : Int)).toNat)) ++ ((([48, 49, 50, 51, 52, 53, 54, 55, 56, 57] : List UInt8).drop ((x / (100 : Int)) % (10 : Int)).toNat).take ((((x / (100 : Int)) % (10 : Int)) + (1 : Int)).toNat - ((x / (100 : Int)) % (10 : Int)).toNat))) ++ ((([48, 49, 50, 51, 52, 53, 54, 55, 56, 57] : List UInt8).drop ((x / (10 : Int)) % (10 : Int)).toNat).take ((((x / (10 : Int)) % (10 : Int)) + (1 : Int)).toNat - ((x / (10 : Int)) % (10 : Int)).toNat))).length + ((([48, 49, 50, 51, 52, 53, 54, 55, 56, 57] : List UInt8).drop (x % (10 : Int)).toNat).take (((x % (10 : Int)) + (1 : Int)).toNat - (x % (10 : Int)).toNat)).length ≤ 9223372036854775807) ∧
 K (((((([48, 49, 50, 51, 52, 53, 54, 55, 56, 57] : List UInt8).drop (x / (1000 : Int)).toNat).take (((x / (1000 : Int)) + (1 : Int)).toNat - (x / (1000 : Int)).toNat)) ++ ((([48, 49, 50, 51, 52, 53, 54, 55, 56, 57] : List UInt8).drop ((x / (100 : Int)) % (10 : Int)).toNat).take ((((x / (100 : Int)) % (10 : Int)) + (1 : Int)).toNat - ((x / (100 : Int)) % (10 : Int)).toNat))) ++ ((([48, 49, 50, 51, 52, 53, 54, 55, 56, 57] : List UInt8).drop ((x / (10 : Int)) % (10 : Int)).toNat).take ((((x / (10 : Int)) % (10 : Int)) + (1 : Int)).toNat - ((x / (10 : Int)) % (10 : Int)).toNat))) ++ ((([48, 49, 50, 51, 52, 53, 54, 55, 56, 57] : List UInt8).drop (x % (10 : Int)).toNat).take (((x % (10 : Int)) + (1 : Int)).toNat - (x % (10 : Int)).toNat)))

def M_smithyref9_Of (n : Int) (K : Bool → (List Int) → Prop) : Prop :=
 Lp2 (fun (l : List Int) (m : Int) k_1 => ((¬ (m = (0 : Int)) → ((10000 : Int) ≠ 0) ∧
 ∃ J1 : Int → Prop, ((((m.tmod (10000 : Int)) < (0 : Int) → (In .i64 (0 - (m.tmod (10000 : Int)))) ∧
 J1 (0 - (m.tmod (10000 : Int)))) ∧
 (¬ ((m.tmod (10000 : Int)) < (0 : Int)) → J1 (m.tmod (10000 : Int))))) ∧
 (∀ d : Int, J1 d → ((l.length + (([d] : List Int)).length) * 8 ≤ 140737488355328) ∧
 ((10000 : Int) ≠ 0) ∧
 k_1 (l ++ ([d] : List Int)) (IntKind.wrap .i64 (m.tdiv (10000 : Int))))) ∧
 (m = (0 : Int) → M_smithyref9_trim (decide (n < (0 : Int))) l (fun (t24_Neg : Bool) (t24_L : List Int) =>
 K t24_Neg t24_L)))) [] n

def M_smithyref9_Parse (s : List UInt8) (K : Bool → (List Int) → Bool → Prop) : Prop :=
 ((decide ((0 : Int) < (s.length : Int))) = true → (0 ≤ (0 : Int) ∧ (0 : Int) < s.length)) ∧
 ∃ J1 : (List UInt8) → Prop, (((((decide ((0 : Int) < (s.length : Int))) && (decide (((s.getD 0 0).toNat : Int) = (45 : Int)))) = true → (0 ≤ (1 : Int) ∧ (1 : Int) ≤ s.length) ∧
 J1 (s.drop 1)) ∧
 (((decide ((0 : Int) < (s.length : Int))) && (decide (((s.getD 0 0).toNat : Int) = (45 : Int)))) = false → J1 s))) ∧
 (∀ d : List UInt8, J1 d → Lp3 (fun (i : Int) (t20 : Bool) (t21 : List Int) k_1 => ((i < (d.length : Int) → (0 ≤ i ∧ i < d.length) ∧
 ((decide (((d.getD i.toNat 0).toNat : Int) < (48 : Int))) = false → (0 ≤ i ∧ i < d.length)) ∧
 ((((decide (((d.getD i.toNat 0).toNat : Int) < (48 : Int))) || (decide ((57 : Int) < ((d.getD i.toNat 0).toNat : Int)))) = true → K false [] false) ∧
 (((decide (((d.getD i.toNat 0).toNat : Int) < (48 : Int))) || (decide ((57 : Int) < ((d.getD i.toNat 0).toNat : Int)))) = false → (In .i64 (i + (1 : Int))) ∧
 k_1 (i + (1 : Int)) t20 t21))) ∧
 (¬ (i < (d.length : Int)) → ((decide (d = ([] : List UInt8))) = false → (0 ≤ (0 : Int) ∧ (0 : Int) < d.length)) ∧
 ((((decide (d = ([] : List UInt8))) || ((decide (((d.getD 0 0).toNat : Int) = (48 : Int))) && ((decide ((1 : Int) < (d.length : Int))) || ((decide ((0 : Int) < (s.length : Int))) && (decide (((s.getD 0 0).toNat : Int) = (45 : Int))))))) = true → K false [] false) ∧
 (((decide (d = ([] : List UInt8))) || ((decide (((d.getD 0 0).toNat : Int) = (48 : Int))) && ((decide ((1 : Int) < (d.length : Int))) || ((decide ((0 : Int) < (s.length : Int))) && (decide (((s.getD 0 0).toNat : Int) = (45 : Int))))))) = false → Lp2 (fun (l : List Int) (end_ : Int) k_2 => (((0 : Int) < end_ → (In .i64 (end_ - (4 : Int))) ∧
 Lp2 (fun (x : Int) (i2 : Int) k_3 => ((i2 < end_ → (In .i64 ((10 : Int) * x)) ∧
 (0 ≤ i2 ∧ i2 < d.length) ∧
 (In .u8 (((d.getD i2.toNat 0).toNat : Int) - (48 : Int))) ∧
 (In .i64 (((d.getD i2.toNat 0).toNat : Int) - (48 : Int))) ∧
 (In .i64 (((10 : Int) * x) + (((d.getD i2.toNat 0).toNat : Int) - (48 : Int)))) ∧
 (In .i64 (i2 + (1 : Int))) ∧
 k_3 (((10 : Int) * x) + (((d.getD i2.toNat 0).toNat : Int) - (48 : Int))) (i2 + (1 : Int))) ∧
 (¬ (i2 < end_) → ((l.length + (([x] : List Int)).length) * 8 ≤ 140737488355328) ∧
 (In .i64 (end_ - (4 : Int))) ∧
 k_2 (l ++ ([x] : List Int)) (end_ - (4 : Int))))) (0 : Int) (if (0 : Int) < (end_ - (4 : Int)) then end_ - (4 : Int) else (0 : Int))) ∧
 (¬ ((0 : Int) < end_) → M_smithyref9_trim ((decide ((0 : Int) < (s.length : Int))) && (decide (((s.getD 0 0).toNat : Int) = (45 : Int)))) l (fun (t84_Neg : Bool) (t84_L : List Int) =>
 K t84_Neg t84_L true)))) [] (d.length : Int)))))) (0 : Int) false [])

def M_smithyref9_Num_Text (a_Neg : Bool) (a_L : List Int) (K : (List UInt8) → Prop) : Prop :=
 (a_L.length ≤ maxLen →
 (In .i64 ((a_L.length : Int) - (1 : Int))) ∧
 Lp2 (fun (s : List UInt8) (i : Int) k_1 => (((0 : Int) ≤ i → (0 ≤ i ∧ i < (a_L.length : Nat)) ∧
 M_smithyref9_four (a_L.getD i.toNat 0) (fun (t20 : List UInt8) =>
 (s.length + t20.length ≤ 9223372036854775807) ∧
 (In .i64 (i - (1 : Int))) ∧
 k_1 (s ++ t20) (i - (1 : Int)))) ∧
 (¬ ((0 : Int) ≤ i) → Lp1 (fun (k : Int) k_2 => ((decide (k < (s.length : Int))) = true → (0 ≤ k ∧ k < s.length)) ∧
 ((((decide (k < (s.length : Int))) && (decide (((s.getD k.toNat 0).toNat : Int) = (48 : Int)))) = true → (In .i64 (k + (1 : Int))) ∧
 k_2 (k + (1 : Int))) ∧
 (((decide (k < (s.length : Int))) && (decide (((s.getD k.toNat 0).toNat : Int) = (48 : Int)))) = false → (0 ≤ k ∧ k ≤ s.length) ∧
 (((s.drop k.toNat) = ([] : List UInt8) → K ([48] : List UInt8)) ∧
 (¬ ((s.drop k.toNat) = ([] : List UInt8)) → ((a_Neg = true → (([45] : List UInt8).length + (s.drop k.toNat).length ≤ 9223372036854775807) ∧
 K (([45] : List UInt8) ++ (s.drop k.toNat))) ∧
 (a_Neg = false → K (s.drop k.toNat)))))))) (0 : Int)))) ([] : List UInt8) ((a_L.length : Int) - (1 : Int)))

def M_smithyref9_Num_Digits (a_Neg : Bool) (a_L : List Int) (K : Int → Prop) : Prop :=
 (a_L.length ≤ maxLen →
 M_smithyref9_Num_Text a_Neg a_L (fun (t5 : List UInt8) =>
 ((a_Neg = true → (In .i64 ((t5.length : Int) - (1 : Int))) ∧
 K ((t5.length : Int) - (1 : Int))) ∧
 (a_Neg = false → K (t5.length : Int)))))

def M_smithyref9_Num_Negate (a_Neg : Bool) (a_L : List Int) (K : Bool → (List Int) → Prop) : Prop :=
 (a_L.length ≤ maxLen →
 M_smithyref9_trim (!a_Neg) a_L (fun (t8_Neg : Bool) (t8_L : List Int) =>
 K t8_Neg t8_L))

def M_smithyref9_Num_Add (a_Neg : Bool) (a_L : List Int) (b_Neg : Bool) (b_L : List Int) (K : Bool → (List Int) → Prop) : Prop :=
 (a_L.length ≤ maxLen →
 (b_L.length ≤ maxLen →
 (((a_Neg == b_Neg) = true → M_smithyref9_sum a_L b_L (fun (t16 : List Int) =>
 M_smithyref9_trim a_Neg t16 (fun (t17_Neg : Bool) (t17_L : List Int) =>
 K t17_Neg t17_L))) ∧
 ((a_Neg == b_Neg) = false → M_smithyref9_size a_L b_L (fun (t22 : Int) =>
 (((0 : Int) ≤ t22 → M_smithyref9_less a_L b_L (fun (t30 : List Int) =>
 M_smithyref9_trim a_Neg t30 (fun (t31_Neg : Bool) (t31_L : List Int) =>
 K t31_Neg t31_L))) ∧
 (¬ ((0 : Int) ≤ t22) → M_smithyref9_less b_L a_L (fun (t38 : List Int) =>
 M_smithyref9_trim b_Neg t38 (fun (t39_Neg : Bool) (t39_L : List Int) =>
 K t39_Neg t39_L)))))))))

def M_smithyref9_Num_Sub (a_Neg : Bool) (a_L : List Int) (b_Neg : Bool) (b_L : List Int) (K : Bool → (List Int) → Prop) : Prop :=
 (a_L.length ≤ maxLen →
 (b_L.length ≤ maxLen →
 M_smithyref9_Num_Negate b_Neg b_L (fun (t7_Neg : Bool) (t7_L : List Int) =>
 M_smithyref9_Num_Add a_Neg a_L t7_Neg t7_L (fun (t8_Neg : Bool) (t8_L : List Int) =>
 K t8_Neg t8_L))))

def M_smithyref9_Num_Mul (a_Neg : Bool) (a_L : List Int) (b_Neg : Bool) (b_L : List Int) (K : Bool → (List Int) → Prop) : Prop :=
 (a_L.length ≤ maxLen →
 (b_L.length ≤ maxLen →
 (In .i64 ((a_L.length : Int) + (b_L.length : Int))) ∧
 (In .i64 (((a_L.length : Int) + (b_L.length : Int)) + (1 : Int))) ∧
 (0 ≤ ((a_L.length : Int) + (b_L.length : Int)) + (1 : Int) ∧ (((a_L.length : Int) + (b_L.length : Int)) + (1 : Int)) * 8 ≤ 140737488355328 ∧ ((a_L.length : Int) + (b_L.length : Int)) + (1 : Int) ≤ 140737488355328) ∧
 Lp2 (fun (i : Int) (l : List Int) k_1 => (((a_L.length : Int) + (b_L.length : Int)) + (1 : Int)).toNat = l.length → ((i < (a_L.length : Int) → Lp3 (fun (carry : Int) (k : Int) (l2 : List Int) k_2 => (((a_L.length : Int) + (b_L.length : Int)) + (1 : Int)).toNat = l2.length → ((((decide (k < (b_L.length : Int))) || (decide ((0 : Int) < carry))) = true → (In .i64 (i + k)) ∧
 (0 ≤ i + k ∧ i + k < ((((a_L.length : Int) + (b_L.length : Int)) + (1 : Int)).toNat : Nat)) ∧
 (In .i64 ((l2.getD ((i + k).toNat) 0) + carry)) ∧
 ∃ J1 : Int → Prop, (((k < (b_L.length : Int) → (0 ≤ i ∧ i < (a_L.length : Nat)) ∧
 (0 ≤ k ∧ k < (b_L.length : Nat)) ∧
 (In .i64 ((a_L.getD i.toNat 0) * (b_L.getD k.toNat 0))) ∧
 (In .i64 (((l2.getD ((i + k).toNat) 0) + carry) + ((a_L.getD i.toNat 0) * (b_L.getD k.toNat 0)))) ∧
 J1 (((l2.getD ((i + k).toNat) 0) + carry) + ((a_L.getD i.toNat 0) * (b_L.getD k.toNat 0)))) ∧
 (¬ (k < (b_L.length : Int)) → J1 ((l2.getD ((i + k).toNat) 0) + carry)))) ∧
 (∀ x : Int, J1 x → (In .i64 (i + k)) ∧
 (0 ≤ x ∧ 0 < (10000 : Int)) ∧
 (0 ≤ i + k ∧ i + k < ((((a_L.length : Int) + (b_L.length : Int)) + (1 : Int)).toNat : Nat)) ∧
 (0 ≤ x ∧ 0 < (10000 : Int) ∧ In .i64 x) ∧
 (In .i64 (k + (1 : Int))) ∧
 k_2 (x / (10000 : Int)) (k + (1 : Int)) (l2.set ((i + k).toNat) (x % (10000 : Int))))) ∧
 (((decide (k < (b_L.length : Int))) || (decide ((0 : Int) < carry))) = false → (In .i64 (i + (1 : Int))) ∧
 k_1 (i + (1 : Int)) l2))) (0 : Int) (0 : Int) l) ∧
 (¬ (i < (a_L.length : Int)) → M_smithyref9_trim (!(a_Neg == b_Neg)) l (fun (t78_Neg : Bool) (t78_L : List Int) =>
 K t78_Neg t78_L)))) (0 : Int) (List.replicate (((a_L.length : Int) + (b_L.length : Int)) + (1 : Int)).toNat 0)))

def M_smithyref9_divided (a : List Int) (b : List Int) (K : (List Int) → (List Int) → Prop) : Prop :=
 (a.length ≤ maxLen →
 (b.length ≤ maxLen →
 (0 ≤ (a.length : Int) ∧ (a.length : Int) * 8 ≤ 140737488355328 ∧ (a.length : Int) ≤ 140737488355328) ∧
 (In .i64 ((a.length : Int) - (1 : Int))) ∧
 Lp3 (fun (r : List Int) (i : Int) (q : List Int) k_1 => (a.length : Int).toNat = q.length → (((0 : Int) ≤ i → (0 ≤ i ∧ i < (a.length : Nat)) ∧
 (((([a.getD i.toNat 0] : List Int)).length + r.length) * 8 ≤ 140737488355328) ∧
 M_smithyref9_trim false (([a.getD i.toNat 0] : List Int) ++ r) (fun (t30_Neg : Bool) (t30_L : List Int) =>
 Lp2 (fun (low : Int) (high : Int) k_2 => ((low < high → (In .i64 (low + high)) ∧
 (In .i64 ((low + high) + (1 : Int))) ∧
 (0 ≤ (low + high) + (1 : Int) ∧ 0 < (2 : Int) ∧ In .i64 ((low + high) + (1 : Int))) ∧
 M_smithyref9_times b (((low + high) + (1 : Int)) / (2 : Int)) (fun (t42 : List Int) =>
 M_smithyref9_size t42 t30_L (fun (t44 : Int) =>
 ((t44 ≤ (0 : Int) → k_2 (((low + high) + (1 : Int)) / (2 : Int)) high) ∧
 (¬ (t44 ≤ (0 : Int)) → (In .i64 ((((low + high) + (1 : Int)) / (2 : Int)) - (1 : Int))) ∧
 k_2 low ((((low + high) + (1 : Int)) / (2 : Int)) - (1 : Int))))))) ∧
 (¬ (low < high) → (0 ≤ i ∧ i < ((a.length : Int).toNat : Nat)) ∧
 M_smithyref9_times b low (fun (t56 : List Int) =>
 M_smithyref9_less t30_L t56 (fun (t57 : List Int) =>
 M_smithyref9_trim false t57 (fun (t58_Neg : Bool) (t58_L : List Int) =>
 (In .i64 (i - (1 : Int))) ∧
 k_1 t58_L (i - (1 : Int)) (q.set i.toNat low))))))) (0 : Int) (9999 : Int))) ∧
 (¬ ((0 : Int) ≤ i) → M_smithyref9_trim false q (fun (t61_Neg : Bool) (t61_L : List Int) =>
 K t61_L r)))) [] ((a.length : Int) - (1 : Int)) (List.replicate (a.length : Int).toNat 0)))

def M_smithyref9_Num_DivMod (a_Neg : Bool) (a_L : List Int) (b_Neg : Bool) (b_L : List Int) (K : Bool → (List Int) → Bool → (List Int) → Bool → Prop) : Prop :=
 (a_L.length ≤ maxLen →
 (b_L.length ≤ maxLen →
 (((b_L.length : Int) = (0 : Int) → K false [] false [] false) ∧
 (¬ ((b_L.length : Int) = (0 : Int)) → M_smithyref9_divided a_L b_L (fun (t220 : List Int) (t221 : List Int) =>
 M_smithyref9_trim (!(a_Neg == b_Neg)) t220 (fun (t31_Neg : Bool) (t31_L : List Int) =>
 M_smithyref9_trim a_Neg t221 (fun (t35_Neg : Bool) (t35_L : List Int) =>
 ∃ J1 : Bool → (List Int) → Bool → (List Int) → Prop, (((((decide ((0 : Int) < (t35_L.length : Int))) && (!(t35_Neg == b_Neg))) = true → M_smithyref9_Of (1 : Int) (fun (t48_Neg : Bool) (t48_L : List Int) =>
 M_smithyref9_Num_Sub t31_Neg t31_L t48_Neg t48_L (fun (t49_Neg : Bool) (t49_L : List Int) =>
 M_smithyref9_Num_Add t35_Neg t35_L b_Neg b_L (fun (t52_Neg : Bool) (t52_L : List Int) =>
 J1 t49_Neg t49_L t52_Neg t52_L)))) ∧
 (((decide ((0 : Int) < (t35_L.length : Int))) && (!(t35_Neg == b_Neg))) = false → J1 t31_Neg t31_L t35_Neg t35_L))) ∧
 (∀ q0 : Bool, ∀ q1 : List Int, ∀ r0 : Bool, ∀ r1 : List Int, J1 q0 q1 r0 r1 → K q0 q1 r0 r1 true))))))))

def M_smithyref9_Num_Cmp (a_Neg : Bool) (a_L : List Int) (b_Neg : Bool) (b_L : List Int) (K : Int → Prop) : Prop :=
 (a_L.length ≤ maxLen →
 (b_L.length ≤ maxLen →
 (((!(a_Neg == b_Neg)) = true → ((a_Neg = true → K (-1 : Int)) ∧
 (a_Neg = false → K (1 : Int)))) ∧
 ((!(a_Neg == b_Neg)) = false → ((a_Neg = true → M_smithyref9_size b_L a_L (fun (t4 : Int) =>
 K t4)) ∧
 (a_Neg = false → M_smithyref9_size a_L b_L (fun (t42 : Int) =>
 K t42)))))))

def M_smithyref9_Num_Int (a_Neg : Bool) (a_L : List Int) (K : Int → Bool → Prop) : Prop :=
 (a_L.length ≤ maxLen →
 M_smithyref9_Of (-9223372036854775808 : Int) (fun (t7_Neg : Bool) (t7_L : List Int) =>
 M_smithyref9_Num_Cmp a_Neg a_L t7_Neg t7_L (fun (t8 : Int) =>
 ∃ J1 : Bool → Prop, ((((decide (t8 < (0 : Int))) = true → J1 true) ∧
 ((decide (t8 < (0 : Int))) = false → M_smithyref9_Of (9223372036854775807 : Int) (fun (t12_Neg : Bool) (t12_L : List Int) =>
 M_smithyref9_Num_Cmp a_Neg a_L t12_Neg t12_L (fun (t13 : Int) =>
 J1 (decide ((0 : Int) < t13))))))) ∧
 (∀ q1 : Bool, J1 q1 → ((q1 = true → K (0 : Int) false) ∧
 (q1 = false → (In .i64 ((a_L.length : Int) - (1 : Int))) ∧
 Lp2 (fun (n : Int) (i : Int) k_1 => (((0 : Int) ≤ i → (In .i64 (n * (10000 : Int))) ∧
 (0 ≤ i ∧ i < (a_L.length : Nat)) ∧
 (In .i64 ((n * (10000 : Int)) - (a_L.getD i.toNat 0))) ∧
 (In .i64 (i - (1 : Int))) ∧
 k_1 ((n * (10000 : Int)) - (a_L.getD i.toNat 0)) (i - (1 : Int))) ∧
 (¬ ((0 : Int) ≤ i) → ∃ J2 : Int → Prop, ((((!a_Neg) = true → (In .i64 (0 - n)) ∧
 J2 (0 - n)) ∧
 ((!a_Neg) = false → J2 n))) ∧
 (∀ n2 : Int, J2 n2 → K n2 true)))) (0 : Int) ((a_L.length : Int) - (1 : Int))))))))

set_option maxHeartbeats 8000000 in
theorem W_smithyref9_trim {w : World} {neg : Bool} {l : List Int} {A_l : Option Addr} {c_l : Nat} {n_l : Nat} {K : Bool → (List Int) → Prop} (hl : Rd vi w A_l c_l l) (hn_l : n_l = l.length) (H : M_smithyref9_trim neg l K) : Fn Tryd.prog 76 ⟨[.bool neg, .slice A_l n_l c_l]⟩ w (fun v w' => w.grownBy w' none ∧ ∃ (r_Neg : Bool), ∃ (r_L : List Int), ∃ (A_r_L : Option Addr), ∃ (c_r_L : Nat), v = .agg ⟨[.bool r_Neg, .slice A_r_L r_L.length c_r_L]⟩ ∧ Rd vi w' A_r_L c_r_L r_L ∧ Orig (r_L ≠ []) (blk A_r_L) w.heap.size [(l ≠ [], blk A_l)] ∧ K r_Neg r_L) := by
  subst hn_l
  unfold M_smithyref9_trim at H
  refine Fn.enter (by kernel_rfl) Tryd.func76 rfl Tryd.ntmps76 rfl ?_
  replace H := H (Nat.le_trans hl.cap hl.max)
  refine WC.seq ?_
  refine WC.region ?_
  refine WL.alloc rfl zero56 (fun g1 w1 hB1 hg1 hl1 => ?_)
  have gr1 := hg1
  refine WL.nil (WX.then_normal ?_)
  refine WC.seq ?_
  refine WC.region ?_
  refine WL.y rfl (Yld.pure tab_ok rfl) ?_
  refine WL.y rfl (Yld.pure tab_ok rfl) ?_
  refine WL.y rfl (Yld.pure tab_ok rfl) ?_
  refine WL.nil (WX.then_normal ?_)
  refine WC.seq ?_
  refine WC.block ?_
  obtain ⟨I1, mu1, h0_1, HR1⟩ := H
  refine WC.loopF (fun n' L' w' => ∃ (n : Int), n' = mu1 n ∧ L' = [(0, .bool neg), (1, .slice A_l l.length c_l), (4, .pointer (some ⟨g1, 0, none⟩)), (5, .int .i64 n)] ∧ I1 n ∧ w1 = w') _ _ ⟨(l.length : Int), rfl, rfl, h0_1, rfl⟩ (by repeat (first | exact Sub.nil | refine Sub.cons rfl ?_)) ?_
  clear h0_1
  rintro _ _ _ ⟨n, rfl, rfl, hI1, rfl⟩
  have H := HR1 n hI1
  refine WC.seq ?_
  refine WC.seq ?_
  refine WC.region ?_
  refine WL.y rfl (Yld.pure tab_ok rfl) ?_
  refine WL.y rfl (Yld.pure tab_ok rfl) ?_
  refine WL.y rfl (Yld.pure tab_ok rfl) ?_
  obtain ⟨h1, H⟩ := H
  obtain ⟨h2, H⟩ := H
  refine WL.midF 7 (fun L' w' => ∃ q1 : Bool, L' = [(17, .bool q1), (0, .bool neg), (1, .slice A_l l.length c_l), (4, .pointer (some ⟨g1, 0, none⟩)), (5, .int .i64 n)] ∧ q1 = ((decide ((0 : Int) < n)) && (decide ((l.getD ((n - (1 : Int)).toNat) 0) = (0 : Int)))) ∧ w1 = w') ?_ (fun hQ => ?_)
  · rintro _ _ ⟨q1, rfl, rfl, rfl⟩
    refine WL.nil (WX.then_normal ?_)
    refine WC.cond rfl (fun b1 => ?_) (fun b1 => ?_)
    · replace H := H.1 (b1)
      refine WC.skip (WX.then_normal ?_)
      refine WC.block ?_
      refine WC.region ?_
      refine WL.y rfl (Yld.pure tab_ok rfl) ?_
      obtain ⟨h3, H⟩ := H
      refine WL.y rfl (Yld.sub rfl rfl h3) ?_
      refine WL.y rfl (Yld.pure tab_ok rfl) ?_
      refine WL.nil (WX.block_normal ?_)
      exact WX.roundF _ ⟨n - (1 : Int), rfl, rfl, H.1, rfl⟩ (by repeat (first | exact Sub.nil | refine Sub.cons rfl ?_)) H.2
    · replace H := H.2 (b1)
      refine WC.exit (WX.then_exit (WX.then_exit (WX.block_same (WX.then_normal ?_))))
      refine WC.seq ?_
      refine WC.region ?_
      refine WL.y rfl (Yld.pure tab_ok rfl) ?_
      refine WL.y rfl (Yld.pure tab_ok rfl) ?_
      refine WL.midF 3 (fun L' w' => ∃ q2 : Bool, L' = [(24, .bool q2), (1, .slice A_l l.length c_l), (4, .pointer (some ⟨g1, 0, none⟩)), (5, .int .i64 n)] ∧ q2 = (neg && (decide ((0 : Int) < n))) ∧ w1 = w') ?_ (fun hQ => ?_)
      · rintro _ _ ⟨q2, rfl, rfl, rfl⟩
        refine WL.y rfl (Yld.pure tab_ok rfl) ?_
        refine WL.y rfl (Yld.pure tab_ok rfl) ?_
        obtain ⟨h4, H⟩ := H
        refine WL.cut tab_ok (hl.grown gr1) rfl rfl rfl rfl rfl rfl h4.1 h4.2.1 h4.2.2 (fun A_t27 c_t27 hR1 hb1 => ?_)
        refine WL.y rfl (Yld.struct (us := [.bool (neg && (decide ((0 : Int) < n))), .slice A_t27 (((l.drop 0).take (n.toNat - 0)).length) c_t27]) zero56 places56 rfl rfl) ?_
        refine WL.storeW (vs := [.bool (neg && (decide ((0 : Int) < n))), .slice A_t27 (((l.drop 0).take (n.toNat - 0)).length) c_t27]) tab_ok rfl rfl rfl (all1c rfl (all1c rfl all1n)) hB1 rfl rfl (fun w2 hB2 hg2 => ?_)
        have gr2 := gr_mod gr1 hg2 (Ge.le (Ge.box hl1) (Nat.le_refl _))
        have k1 := hR1.go hg2 (Dn.sub (Dn.new (fun hx => hl.lt' hx) (Ge.le (Ge.box hl1) (Nat.le_refl _))) ne_cut hb1)
        refine WL.nil (WX.then_normal ?_)
        refine WC.ret ?_
        exact WX.retc tab_ok rfl rfl rfl hB2 rfl ⟨gr2, neg && (decide ((0 : Int) < n)), ((l.drop 0).take (n.toNat - 0)), A_t27, c_t27, rfl, k1, (Orig.sub (Orig.par (List.Mem.head _)) ne_cut hb1), H⟩
      · clear H
        rcases Bool.eq_false_or_eq_true (neg) with b2 | b2
        · refine WL.gyes rfl rfl (okb b2) rfl (Yld.pure tab_ok rfl) ?_
          refine WL.gyes rfl rfl (okb b2) rfl (Yld.pure tab_ok rfl) ?_
          refine WL.y rfl (Yld.pickT (okb b2) rfl) ?_
          exact WL.weaken (by repeat (first | exact Sub.nil | refine Sub.cons rfl ?_)) (hQ _ _ ⟨decide ((0 : Int) < n), rfl, by rw [b2] <;> rfl, rfl⟩)
        · refine WL.gno rfl rfl (okb b2) rfl ?_
          refine WL.gno rfl rfl (okb b2) rfl ?_
          refine WL.y rfl (Yld.pickF (okb b2) rfl) ?_
          exact WL.weaken (by repeat (first | exact Sub.nil | refine Sub.cons rfl ?_)) (hQ _ _ ⟨false, rfl, by rw [b2] <;> rfl, rfl⟩)
  · clear H
    rcases Bool.eq_false_or_eq_true (decide ((0 : Int) < n)) with b3 | b3
    · refine WL.gyes rfl rfl (okb b3) rfl (Yld.pure tab_ok rfl) ?_
      refine WL.gyes rfl rfl (okb b3) rfl (Yld.pure tab_ok rfl) ?_
      refine WL.gyes rfl rfl (okb b3) rfl (Yld.sub rfl rfl (h1 b3)) ?_
      refine WL.gyes rfl rfl (okb b3) rfl (Yld.iaddrW tab_ok (hl.grown gr1) rfl rfl rfl rfl (h2 b3).1 (h2 b3).2) ?_
      refine WL.gyes rfl rfl (okb b3) rfl (Yld.iload 0 tab_ok (hl.grown gr1) rfl rfl (iltN (h2 b3) rfl)) ?_
      refine WL.gyes rfl rfl (okb b3) rfl (Yld.pure tab_ok rfl) ?_
      refine WL.y rfl (Yld.pickT (okb b3) rfl) ?_
      exact WL.weaken (by repeat (first | exact Sub.nil | refine Sub.cons rfl ?_)) (hQ _ _ ⟨decide ((l.getD ((n - (1 : Int)).toNat) 0) = (0 : Int)), rfl, by rw [b3] <;> rfl, rfl⟩)
    · refine WL.gno rfl rfl (okb b3) rfl ?_
      refine WL.gno rfl rfl (okb b3) rfl ?_
      refine WL.gno rfl rfl (okb b3) rfl ?_
      refine WL.gno rfl rfl (okb b3) rfl ?_
      refine WL.gno rfl rfl (okb b3) rfl ?_
      refine WL.gno rfl rfl (okb b3) rfl ?_
      refine WL.y rfl (Yld.pickF (okb b3) rfl) ?_
      exact WL.weaken (by repeat (first | exact Sub.nil | refine Sub.cons rfl ?_)) (hQ _ _ ⟨false, rfl, by rw [b3] <;> rfl, rfl⟩)

set_option maxHeartbeats 8000000 in
theorem W_smithyref9_size {w : World} {a : List Int} {A_a : Option Addr} {c_a : Nat} {b : List Int} {A_b : Option Addr} {c_b : Nat} {n_a : Nat} {n_b : Nat} {K : Int → Prop} (ha : Rd vi w A_a c_a a) (hn_a : n_a = a.length) (hb : Rd vi w A_b c_b b) (hn_b : n_b = b.length) (H : M_smithyref9_size a b K) : Fn Tryd.prog 81 ⟨[.slice A_a n_a c_a, .slice A_b n_b c_b]⟩ w (fun v w' => w = w' ∧ ∃ (r : Int), v = .int .i64 r ∧ K r) := by
  subst hn_a
  subst hn_b
  unfold M_smithyref9_size at H
  refine Fn.enter (by kernel_rfl) Tryd.func81 rfl Tryd.ntmps81 rfl ?_
  replace H := H (Nat.le_trans ha.cap ha.max)
  replace H := H (Nat.le_trans hb.cap hb.max)
  refine WC.seq ?_
  refine WC.region ?_
  refine WL.y rfl (Yld.pure tab_ok rfl) ?_
  refine WL.nil (WX.then_normal ?_)
  refine WC.seq ?_
  refine WC.seq ?_
  refine WC.region ?_
  refine WL.y rfl (Yld.pure tab_ok rfl) ?_
  refine WL.y rfl (Yld.pure tab_ok rfl) ?_
  refine WL.y rfl (Yld.pure tab_ok rfl) ?_
  refine WL.y rfl (Yld.pure tab_ok rfl) ?_
  refine WL.y rfl (Yld.pure tab_ok rfl) ?_
  refine WL.nil (WX.then_normal ?_)
  refine WC.cond rfl (fun b1 => ?_) (fun b1 => ?_)
  · replace H := H.1 (nd_true b1)
    refine WC.seq ?_
    refine WC.seq ?_
    refine WC.region ?_
    refine WL.y rfl (Yld.pure tab_ok rfl) ?_
    refine WL.y rfl (Yld.pure tab_ok rfl) ?_
    refine WL.y rfl (Yld.pure tab_ok rfl) ?_
    refine WL.y rfl (Yld.pure tab_ok rfl) ?_
    refine WL.y rfl (Yld.pure tab_ok rfl) ?_
    refine WL.nil (WX.then_normal ?_)
    refine WC.cond rfl (fun b2 => ?_) (fun b2 => ?_)
    · replace H := H.1 (of_decide_eq_true b2)
      refine WC.seq ?_
      refine WC.region ?_
      refine WL.y rfl (Yld.pure tab_ok rfl) ?_
      refine WL.nil (WX.then_normal ?_)
      refine WC.ret (WX.then_ret (WX.then_ret ?_))
      exact WX.ret1 rfl rfl ⟨rfl, (-1 : Int), rfl, H⟩
    · replace H := H.2 (of_decide_eq_false b2)
      refine WC.skip (WX.then_normal ?_)
      refine WC.seq ?_
      refine WC.region ?_
      refine WL.y rfl (Yld.pure tab_ok rfl) ?_
      refine WL.nil (WX.then_normal ?_)
      refine WC.ret (WX.then_ret ?_)
      exact WX.ret1 rfl rfl ⟨rfl, (1 : Int), rfl, H⟩
  · replace H := H.2 (nd_false b1)
    refine WC.skip (WX.then_normal ?_)
    refine WC.seq ?_
    refine WC.seq ?_
    refine WC.region ?_
    refine WL.y rfl (Yld.pure tab_ok rfl) ?_
    refine WL.y rfl (Yld.pure tab_ok rfl) ?_
    obtain ⟨h1, H⟩ := H
    refine WL.y rfl (Yld.sub rfl rfl h1) ?_
    refine WL.y rfl (Yld.pure tab_ok rfl) ?_
    refine WL.nil (WX.then_normal ?_)
    refine WC.block ?_
    obtain ⟨I1, mu1, h0_1, HR1⟩ := H
    refine WC.loopF (fun n' L' w' => ∃ (i : Int), n' = mu1 i ∧ L' = [(0, .slice A_a a.length c_a), (1, .slice A_b b.length c_b), (5, .int .i64 i)] ∧ I1 i ∧ w = w') _ _ ⟨(a.length : Int) - (1 : Int), rfl, rfl, h0_1, rfl⟩ (by repeat (first | exact Sub.nil | refine Sub.cons rfl ?_)) ?_
    clear h0_1
    rintro _ _ _ ⟨i, rfl, rfl, hI1, rfl⟩
    have H := HR1 i hI1
    refine WC.seq ?_
    refine WC.seq ?_
    refine WC.region ?_
    refine WL.y rfl (Yld.pure tab_ok rfl) ?_
    refine WL.y rfl (Yld.pure tab_ok rfl) ?_
    refine WL.nil (WX.then_normal ?_)
    refine WC.cond rfl (fun b3 => ?_) (fun b3 => ?_)
    · replace H := H.1 (of_decide_eq_true b3)
      refine WC.skip (WX.then_normal ?_)
      refine WC.seq ?_
      refine WC.block ?_
      refine WC.seq ?_
      refine WC.seq ?_
      refine WC.quiet mixed (by kernel_rfl) ?_
      refine WQ.y rfl (Yld.pure tab_ok rfl) ?_
      refine WQ.y rfl (Yld.pure tab_ok rfl) ?_
      obtain ⟨h2, H⟩ := H
      refine WQ.y rfl (Yld.iaddrW tab_ok ha rfl rfl rfl rfl h2.1 h2.2) ?_
      refine WQ.y rfl (Yld.iload 0 tab_ok ha rfl rfl (iltN h2 rfl)) ?_
      refine WQ.y rfl (Yld.pure tab_ok rfl) ?_
      refine WQ.y rfl (Yld.pure tab_ok rfl) ?_
      obtain ⟨h3, H⟩ := H
      refine WQ.y rfl (Yld.iaddrW tab_ok hb rfl rfl rfl rfl h3.1 h3.2) ?_
      refine WQ.y rfl (Yld.iload 0 tab_ok hb rfl rfl (iltN h3 rfl)) ?_
      refine WQ.y rfl (Yld.pure tab_ok rfl) ?_
      refine WQ.nil (WX.then_normal ?_)
      refine WC.cond rfl (fun b4 => ?_) (fun b4 => ?_)
      · replace H := H.1 (of_decide_eq_true b4)
        refine WC.seq ?_
        refine WC.region ?_
        refine WL.y rfl (Yld.pure tab_ok rfl) ?_
        refine WL.nil (WX.then_normal ?_)
        refine WC.ret (WX.then_ret (WX.block_ret (WX.then_ret (WX.then_ret (WX.block_ret (WX.then_ret ?_))))))
        exact WX.ret1 rfl rfl ⟨rfl, (-1 : Int), rfl, H⟩
      · replace H := H.2 (of_decide_eq_false b4)
        refine WC.skip (WX.then_normal ?_)
        refine WC.seq ?_
        refine WC.quiet mixed (by kernel_rfl) ?_
        refine WQ.y rfl (Yld.pure tab_ok rfl) ?_
        refine WQ.y rfl (Yld.pure tab_ok rfl) ?_
        obtain ⟨h4, H⟩ := H
        refine WQ.y rfl (Yld.iaddrW tab_ok ha rfl rfl rfl rfl h4.1 h4.2) ?_
        refine WQ.y rfl (Yld.iload 0 tab_ok ha rfl rfl (iltN h4 rfl)) ?_
        refine WQ.y rfl (Yld.pure tab_ok rfl) ?_
        refine WQ.y rfl (Yld.pure tab_ok rfl) ?_
        obtain ⟨h5, H⟩ := H
        refine WQ.y rfl (Yld.iaddrW tab_ok hb rfl rfl rfl rfl h5.1 h5.2) ?_
        refine WQ.y rfl (Yld.iload 0 tab_ok hb rfl rfl (iltN h5 rfl)) ?_
        refine WQ.y rfl (Yld.pure tab_ok rfl) ?_
        refine WQ.nil (WX.then_normal ?_)
        refine WC.cond rfl (fun b5 => ?_) (fun b5 => ?_)
        · replace H := H.1 (of_decide_eq_true b5)
          refine WC.seq ?_
          refine WC.region ?_
          refine WL.y rfl (Yld.pure tab_ok rfl) ?_
          refine WL.nil (WX.then_normal ?_)
          refine WC.ret (WX.block_ret (WX.then_ret (WX.then_ret (WX.block_ret (WX.then_ret ?_)))))
          exact WX.ret1 rfl rfl ⟨rfl, (1 : Int), rfl, H⟩
        · replace H := H.2 (of_decide_eq_false b5)
          refine WC.skip (WX.block_normal (WX.then_normal ?_))
          refine WC.region ?_
          refine WL.y rfl (Yld.pure tab_ok rfl) ?_
          obtain ⟨h6, H⟩ := H
          refine WL.y rfl (Yld.sub rfl rfl h6) ?_
          refine WL.y rfl (Yld.pure tab_ok rfl) ?_
          refine WL.nil ?_
          exact WX.roundF _ ⟨i - (1 : Int), rfl, rfl, H.1, rfl⟩ (by repeat (first | exact Sub.nil | refine Sub.cons rfl ?_)) H.2
    · replace H := H.2 (of_decide_eq_false b3)
      refine WC.exit (WX.then_exit (WX.then_exit (WX.block_same (WX.then_normal ?_))))
      refine WC.seq ?_
      refine WC.region ?_
      refine WL.y rfl (Yld.pure tab_ok rfl) ?_
      refine WL.nil (WX.then_normal ?_)
      refine WC.ret ?_
      exact WX.ret1 rfl rfl ⟨rfl, (0 : Int), rfl, H⟩

set_option maxHeartbeats 8000000 in
theorem W_smithyref9_sum {w : World} {a : List Int} {A_a : Option Addr} {c_a : Nat} {b : List Int} {A_b : Option Addr} {c_b : Nat} {n_a : Nat} {n_b : Nat} {K : (List Int) → Prop} (ha : Rd vi w A_a c_a a) (hn_a : n_a = a.length) (hb : Rd vi w A_b c_b b) (hn_b : n_b = b.length) (H : M_smithyref9_sum a b K) : Fn Tryd.prog 80 ⟨[.slice A_a n_a c_a, .slice A_b n_b c_b]⟩ w (fun v w' => w.grownBy w' none ∧ ∃ (r : List Int), ∃ (A_r : Option Addr), ∃ (c_r : Nat), v = .slice A_r r.length c_r ∧ Own vi w' w.heap.size 3 A_r c_r r ∧ K r) := by
  subst hn_a
  subst hn_b
  unfold M_smithyref9_sum at H
  refine Fn.enter (by kernel_rfl) Tryd.func80 rfl Tryd.ntmps80 rfl ?_
  replace H := H (Nat.le_trans ha.cap ha.max)
  replace H := H (Nat.le_trans hb.cap hb.max)
  refine WC.seq ?_
  refine WC.region ?_
  refine WL.y rfl (Yld.pure tab_ok rfl) ?_
  refine WL.nil (WX.then_normal ?_)
  refine WC.seq ?_
  refine WC.region ?_
  refine WL.y rfl (Yld.pure tab_ok rfl) ?_
  refine WL.nil (WX.then_normal ?_)
  refine WC.seq ?_
  refine WC.region ?_
  refine WL.y rfl (Yld.pure tab_ok rfl) ?_
  refine WL.nil (WX.then_normal ?_)
  refine WC.seq ?_
  refine WC.seq ?_
  refine WC.region ?_
  refine WL.y rfl (Yld.pure tab_ok rfl) ?_
  refine WL.nil (WX.then_normal ?_)
  refine WC.block ?_
  obtain ⟨I1, mu1, h0_1, HR1⟩ := H
  refine WC.loopF (fun n' L' w' => ∃ (l : List Int), ∃ (A_l : Option Addr), ∃ (c_l : Nat), ∃ (n_l : Nat), ∃ (carry : Int), ∃ (i : Int), n' = mu1 l carry i ∧ L' = [(0, .slice A_a a.length c_a), (1, .slice A_b b.length c_b), (5, .slice A_l n_l c_l), (6, .int .i64 carry), (7, .int .i64 i)] ∧ I1 l carry i ∧ n_l = l.length ∧ w.grownBy w' none ∧ Own vi w' w.heap.size 3 A_l c_l l) _ _ ⟨[], none, 0, 0, (0 : Int), (0 : Int), rfl, rfl, h0_1, rfl, (gr_refl _ _), (Own.nil vi w w.heap.size 3)⟩ (by repeat (first | exact Sub.nil | refine Sub.cons rfl ?_)) ?_
  clear h0_1
  rintro _ _ w1 ⟨l, A_l, c_l, n_l, carry, i, rfl, rfl, hI1, rfl, gr1, k1⟩
  have H := HR1 l carry i hI1
  refine WC.seq ?_
  refine WC.seq ?_
  refine WC.region ?_
  refine WL.y rfl (Yld.pure tab_ok rfl) ?_
  refine WL.y rfl (Yld.pure tab_ok rfl) ?_
  refine WL.y rfl (Yld.pure tab_ok rfl) ?_
  refine WL.y rfl (Yld.pure tab_ok rfl) ?_
  refine WL.y rfl (Yld.pure tab_ok rfl) ?_
  refine WL.midF 5 (fun L' w' => ∃ q1 : Bool, L' = [(18, .bool q1), (0, .slice A_a a.length c_a), (1, .slice A_b b.length c_b), (5, .slice A_l l.length c_l), (6, .int .i64 carry), (7, .int .i64 i)] ∧ q1 = ((decide (i < (a.length : Int))) || (decide (i < (b.length : Int)))) ∧ w1 = w') ?_ (fun hQ => ?_)
  · rintro _ _ ⟨q1, rfl, rfl, rfl⟩
    refine WL.y rfl (Yld.pure tab_ok rfl) ?_
    refine WL.midF 3 (fun L' w' => ∃ q2 : Bool, L' = [(22, .bool q2), (0, .slice A_a a.length c_a), (1, .slice A_b b.length c_b), (5, .slice A_l l.length c_l), (6, .int .i64 carry), (7, .int .i64 i)] ∧ q2 = (((decide (i < (a.length : Int))) || (decide (i < (b.length : Int)))) || (decide ((0 : Int) < carry))) ∧ w1 = w') ?_ (fun hQ => ?_)
    · rintro _ _ ⟨q2, rfl, rfl, rfl⟩
      refine WL.nil (WX.then_normal ?_)
      refine WC.cond rfl (fun b1 => ?_) (fun b1 => ?_)
      · replace H := H.1 (b1)
        refine WC.skip (WX.then_normal ?_)
        refine WC.seq ?_
        refine WC.block ?_
        refine WC.seq ?_
        refine WC.region ?_
        refine WL.y rfl (Yld.pure tab_ok rfl) ?_
        refine WL.y rfl (Yld.pure tab_ok rfl) ?_
        refine WL.nil (WX.then_normal ?_)
        refine WC.seq ?_
        obtain ⟨J1, H, hJ1⟩ := H
        refine WC.midF (fun L' w' => ∃ (x : Int), L' = [(0, .slice A_a a.length c_a), (1, .slice A_b b.length c_b), (5, .slice A_l l.length c_l), (7, .int .i64 i), (8, .int .i64 x)] ∧ J1 x ∧ w1 = w') ?_ (fun hQ => ?_)
        · clear H
          rintro _ _ ⟨x, rfl, H, rfl⟩
          replace H := hJ1 x H
          refine WX.then_normal ?_
          refine WC.seq ?_
          obtain ⟨J2, H, hJ2⟩ := H
          refine WC.midF (fun L' w' => ∃ (x2 : Int), L' = [(0, .slice A_a a.length c_a), (1, .slice A_b b.length c_b), (5, .slice A_l l.length c_l), (7, .int .i64 i), (8, .int .i64 x2)] ∧ J2 x2 ∧ w1 = w') ?_ (fun hQ => ?_)
          · clear H
            rintro _ _ ⟨x2, rfl, H, rfl⟩
            replace H := hJ2 x2 H
            refine WX.then_normal ?_
            refine WC.seq ?_
            refine WC.region ?_
            refine WL.y rfl (Yld.pure tab_ok rfl) ?_
            refine WL.y rfl (Yld.pure tab_ok rfl) ?_
            obtain ⟨h1, H⟩ := H
            refine WL.y rfl (Yld.rem rfl rfl h1.1 h1.2) ?_
            refine WL.lit tab_ok rfl rfl rfl (all1c rfl all1n) rfl (by omega) (fun g1 w2 hB1 hg1 hl1 => ?_)
            have hO1 : Own vi w2 w.heap.size 3 (some ⟨g1, 0, none⟩) 1 ([x2 % (10000 : Int)] : List Int) := Own.ofBl hB1 (Nat.le_trans (size_le gr1) hl1) (by simp [maxLen]) rfl
            have gr2 := gr_trans gr1 hg1
            have k2 := k1.grown hg1
            obtain ⟨h2, H⟩ := H
            refine WL.append tab_ok rfl rfl One.i k2 rfl rfl hO1.rd rfl rfl h2 (applen h2) (size_le gr2) (fun A_l2 c_l2 w3 hO2 hg2 hk1 => ?_)
            have gr3 := gr_mod gr2 hg2 k2.ge'
            refine WL.y rfl (Yld.pure tab_ok rfl) ?_
            refine WL.nil (WX.then_normal ?_)
            refine WC.region ?_
            refine WL.y rfl (Yld.pure tab_ok rfl) ?_
            obtain ⟨h3, H⟩ := H
            refine WL.y rfl (Yld.quo rfl rfl h3.1 h3.2.1 h3.2.2) ?_
            refine WL.y rfl (Yld.pure tab_ok rfl) ?_
            refine WL.nil (WX.block_normal (WX.then_normal ?_))
            refine WC.region ?_
            refine WL.y rfl (Yld.pure tab_ok rfl) ?_
            obtain ⟨h4, H⟩ := H
            refine WL.y rfl (Yld.add rfl rfl h4) ?_
            refine WL.y rfl (Yld.pure tab_ok rfl) ?_
            refine WL.nil ?_
            exact WX.roundF _ ⟨l ++ ([x2 % (10000 : Int)] : List Int), A_l2, c_l2, (l ++ ([x2 % (10000 : Int)] : List Int)).length, x2 / (10000 : Int), i + (1 : Int), rfl, rfl, H.1, rfl, gr3, hO2⟩ (by repeat (first | exact Sub.nil | refine Sub.cons rfl ?_)) H.2
          · clear hJ2
            refine WC.seq ?_
            refine WC.region ?_
            refine WL.y rfl (Yld.pure tab_ok rfl) ?_
            refine WL.y rfl (Yld.pure tab_ok rfl) ?_
            refine WL.y rfl (Yld.pure tab_ok rfl) ?_
            refine WL.y rfl (Yld.pure tab_ok rfl) ?_
            refine WL.nil (WX.then_normal ?_)
            refine WC.cond rfl (fun b2 => ?_) (fun b2 => ?_)
            · replace H := H.1 (of_decide_eq_true b2)
              refine WC.region ?_
              refine WL.y rfl (Yld.pure tab_ok rfl) ?_
              refine WL.y rfl (Yld.pure tab_ok rfl) ?_
              refine WL.y rfl (Yld.pure tab_ok rfl) ?_
              obtain ⟨h5, H⟩ := H
              refine WL.y rfl (Yld.iaddrW tab_ok (hb.grown gr1) rfl rfl rfl rfl h5.1 h5.2) ?_
              refine WL.y rfl (Yld.iload 0 tab_ok (hb.grown gr1) rfl rfl (iltN h5 rfl)) ?_
              obtain ⟨h6, H⟩ := H
              refine WL.y rfl (Yld.add rfl rfl h6) ?_
              refine WL.y rfl (Yld.pure tab_ok rfl) ?_
              refine WL.nil ?_
              exact WX.weaken (by repeat (first | exact Sub.nil | refine Sub.cons rfl ?_)) (hQ _ _ ⟨x + (b.getD i.toNat 0), rfl, H, rfl⟩)
            · replace H := H.2 (of_decide_eq_false b2)
              refine WC.skip ?_
              exact WX.weaken (by repeat (first | exact Sub.nil | refine Sub.cons rfl ?_)) (hQ _ _ ⟨x, rfl, H, rfl⟩)
        · clear hJ1
          refine WC.seq ?_
          refine WC.region ?_
          refine WL.y rfl (Yld.pure tab_ok rfl) ?_
          refine WL.y rfl (Yld.pure tab_ok rfl) ?_
          refine WL.y rfl (Yld.pure tab_ok rfl) ?_
          refine WL.y rfl (Yld.pure tab_ok rfl) ?_
          refine WL.nil (WX.then_normal ?_)
          refine WC.cond rfl (fun b3 => ?_) (fun b3 => ?_)
          · replace H := H.1 (of_decide_eq_true b3)
            refine WC.region ?_
            refine WL.y rfl (Yld.pure tab_ok rfl) ?_
            refine WL.y rfl (Yld.pure tab_ok rfl) ?_
            refine WL.y rfl (Yld.pure tab_ok rfl) ?_
            obtain ⟨h7, H⟩ := H
            refine WL.y rfl (Yld.iaddrW tab_ok (ha.grown gr1) rfl rfl rfl rfl h7.1 h7.2) ?_
            refine WL.y rfl (Yld.iload 0 tab_ok (ha.grown gr1) rfl rfl (iltN h7 rfl)) ?_
            obtain ⟨h8, H⟩ := H
            refine WL.y rfl (Yld.add rfl rfl h8) ?_
            refine WL.y rfl (Yld.pure tab_ok rfl) ?_
            refine WL.nil ?_
            exact WX.weaken (by repeat (first | exact Sub.nil | refine Sub.cons rfl ?_)) (hQ _ _ ⟨carry + (a.getD i.toNat 0), rfl, H, rfl⟩)
          · replace H := H.2 (of_decide_eq_false b3)
            refine WC.skip ?_
            exact WX.weaken (by repeat (first | exact Sub.nil | refine Sub.cons rfl ?_)) (hQ _ _ ⟨carry, rfl, H, rfl⟩)
      · replace H := H.2 (b1)
        refine WC.exit (WX.then_exit (WX.then_exit (WX.block_same (WX.then_normal ?_))))
        refine WC.seq ?_
        refine WC.region ?_
        refine WL.y rfl (Yld.pure tab_ok rfl) ?_
        refine WL.y rfl (Yld.pure tab_ok rfl) ?_
        refine WL.nil (WX.then_normal ?_)
        refine WC.ret ?_
        exact WX.ret1 rfl rfl ⟨gr1, l, A_l, c_l, rfl, k1, H⟩
    · clear H
      rcases Bool.eq_false_or_eq_true ((decide (i < (a.length : Int))) || (decide (i < (b.length : Int)))) with b4 | b4
      · refine WL.gno rfl rfl (okb b4) rfl ?_
        refine WL.gno rfl rfl (okb b4) rfl ?_
        refine WL.y rfl (Yld.pickT (okb b4) rfl) ?_
        exact WL.weaken (by repeat (first | exact Sub.nil | refine Sub.cons rfl ?_)) (hQ _ _ ⟨true, rfl, by rw [b4] <;> rfl, rfl⟩)
      · refine WL.gyes rfl rfl (okb b4) rfl (Yld.pure tab_ok rfl) ?_
        refine WL.gyes rfl rfl (okb b4) rfl (Yld.pure tab_ok rfl) ?_
        refine WL.y rfl (Yld.pickF (okb b4) rfl) ?_
        exact WL.weaken (by repeat (first | exact Sub.nil | refine Sub.cons rfl ?_)) (hQ _ _ ⟨decide ((0 : Int) < carry), rfl, by rw [b4] <;> rfl, rfl⟩)
  · clear H
    rcases Bool.eq_false_or_eq_true (decide (i < (a.length : Int))) with b5 | b5
    · refine WL.gno rfl rfl (okb b5) rfl ?_
      refine WL.gno rfl rfl (okb b5) rfl ?_
      refine WL.gno rfl rfl (okb b5) rfl ?_
      refine WL.gno rfl rfl (okb b5) rfl ?_
      refine WL.y rfl (Yld.pickT (okb b5) rfl) ?_
      exact WL.weaken (by repeat (first | exact Sub.nil | refine Sub.cons rfl ?_)) (hQ _ _ ⟨true, rfl, by rw [b5] <;> rfl, rfl⟩)
    · refine WL.gyes rfl rfl (okb b5) rfl (Yld.pure tab_ok rfl) ?_
      refine WL.gyes rfl rfl (okb b5) rfl (Yld.pure tab_ok rfl) ?_
      refine WL.gyes rfl rfl (okb b5) rfl (Yld.pure tab_ok rfl) ?_
      refine WL.gyes rfl rfl (okb b5) rfl (Yld.pure tab_ok rfl) ?_
      refine WL.y rfl (Yld.pickF (okb b5) rfl) ?_
      exact WL.weaken (by repeat (first | exact Sub.nil | refine Sub.cons rfl ?_)) (hQ _ _ ⟨decide (i < (b.length : Int)), rfl, by rw [b5] <;> rfl, rfl⟩)

set_option maxHeartbeats 8000000 in
theorem W_smithyref9_less {w : World} {a : List Int} {A_a : Option Addr} {c_a : Nat} {b : List Int} {A_b : Option Addr} {c_b : Nat} {n_a : Nat} {n_b : Nat} {K : (List Int) → Prop} (ha : Rd vi w A_a c_a a) (hn_a : n_a = a.length) (hb : Rd vi w A_b c_b b) (hn_b : n_b = b.length) (H : M_smithyref9_less a b K) : Fn Tryd.prog 82 ⟨[.slice A_a n_a c_a, .slice A_b n_b c_b]⟩ w (fun v w' => w.grownBy w' none ∧ ∃ (r : List Int), ∃ (A_r : Option Addr), ∃ (c_r : Nat), v = .slice A_r r.length c_r ∧ Own vi w' w.heap.size 3 A_r c_r r ∧ K r) := by
  subst hn_a
  subst hn_b
  unfold M_smithyref9_less at H
  refine Fn.enter (by kernel_rfl) Tryd.func82 rfl Tryd.ntmps82 rfl ?_
  replace H := H (Nat.le_trans ha.cap ha.max)
  replace H := H (Nat.le_trans hb.cap hb.max)
  refine WC.seq ?_
  refine WC.region ?_
  refine WL.y rfl (Yld.pure tab_ok rfl) ?_
  refine WL.nil (WX.then_normal ?_)
  refine WC.seq ?_
  refine WC.region ?_
  refine WL.y rfl (Yld.pure tab_ok rfl) ?_
  refine WL.nil (WX.then_normal ?_)
  refine WC.seq ?_
  refine WC.region ?_
  refine WL.y rfl (Yld.pure tab_ok rfl) ?_
  refine WL.nil (WX.then_normal ?_)
  refine WC.seq ?_
  refine WC.seq ?_
  refine WC.region ?_
  refine WL.y rfl (Yld.pure tab_ok rfl) ?_
  refine WL.nil (WX.then_normal ?_)
  refine WC.block ?_
  obtain ⟨I1, mu1, h0_1, HR1⟩ := H
  refine WC.loopF (fun n' L' w' => ∃ (l : List Int), ∃ (A_l : Option Addr), ∃ (c_l : Nat), ∃ (n_l : Nat), ∃ (borrow : Int), ∃ (i : Int), n' = mu1 l borrow i ∧ L' = [(0, .slice A_a a.length c_a), (1, .slice A_b b.length c_b), (5, .slice A_l n_l c_l), (6, .int .i64 borrow), (7, .int .i64 i)] ∧ I1 l borrow i ∧ n_l = l.length ∧ w.grownBy w' none ∧ Own vi w' w.heap.size 3 A_l c_l l) _ _ ⟨[], none, 0, 0, (0 : Int), (0 : Int), rfl, rfl, h0_1, rfl, (gr_refl _ _), (Own.nil vi w w.heap.size 3)⟩ (by repeat (first | exact Sub.nil | refine Sub.cons rfl ?_)) ?_
  clear h0_1
  rintro _ _ w1 ⟨l, A_l, c_l, n_l, borrow, i, rfl, rfl, hI1, rfl, gr1, k1⟩
  have H := HR1 l borrow i hI1
  refine WC.seq ?_
  refine WC.seq ?_
  refine WC.region ?_
  refine WL.y rfl (Yld.pure tab_ok rfl) ?_
  refine WL.y rfl (Yld.pure tab_ok rfl) ?_
  refine WL.y rfl (Yld.pure tab_ok rfl) ?_
  refine WL.y rfl (Yld.pure tab_ok rfl) ?_
  refine WL.nil (WX.then_normal ?_)
  refine WC.cond rfl (fun b1 => ?_) (fun b1 => ?_)
  · replace H := H.1 (of_decide_eq_true b1)
    refine WC.skip (WX.then_normal ?_)
    refine WC.seq ?_
    refine WC.block ?_
    refine WC.seq ?_
    refine WC.region ?_
    refine WL.y rfl (Yld.pure tab_ok rfl) ?_
    refine WL.y rfl (Yld.pure tab_ok rfl) ?_
    obtain ⟨h1, H⟩ := H
    refine WL.y rfl (Yld.iaddrW tab_ok (ha.grown gr1) rfl rfl rfl rfl h1.1 h1.2) ?_
    refine WL.y rfl (Yld.iload 0 tab_ok (ha.grown gr1) rfl rfl (iltN h1 rfl)) ?_
    refine WL.y rfl (Yld.pure tab_ok rfl) ?_
    obtain ⟨h2, H⟩ := H
    refine WL.y rfl (Yld.sub rfl rfl h2) ?_
    refine WL.y rfl (Yld.pure tab_ok rfl) ?_
    refine WL.nil (WX.then_normal ?_)
    refine WC.seq ?_
    obtain ⟨J1, H, hJ1⟩ := H
    refine WC.midF (fun L' w' => ∃ (x : Int), L' = [(0, .slice A_a a.length c_a), (1, .slice A_b b.length c_b), (5, .slice A_l l.length c_l), (7, .int .i64 i), (8, .int .i64 x)] ∧ J1 x ∧ w1 = w') ?_ (fun hQ => ?_)
    · clear H
      rintro _ _ ⟨x, rfl, H, rfl⟩
      replace H := hJ1 x H
      refine WX.then_normal ?_
      refine WC.seq ?_
      refine WC.region ?_
      refine WL.y rfl (Yld.pure tab_ok rfl) ?_
      refine WL.nil (WX.then_normal ?_)
      refine WC.seq ?_
      obtain ⟨J2, H, hJ2⟩ := H
      refine WC.midF (fun L' w' => ∃ (borrow2 : Int), ∃ (x2 : Int), L' = [(0, .slice A_a a.length c_a), (1, .slice A_b b.length c_b), (5, .slice A_l l.length c_l), (6, .int .i64 borrow2), (7, .int .i64 i), (8, .int .i64 x2)] ∧ J2 borrow2 x2 ∧ w1 = w') ?_ (fun hQ => ?_)
      · clear H
        rintro _ _ ⟨borrow2, x2, rfl, H, rfl⟩
        replace H := hJ2 borrow2 x2 H
        refine WX.then_normal ?_
        refine WC.region ?_
        refine WL.y rfl (Yld.pure tab_ok rfl) ?_
        refine WL.y rfl (Yld.pure tab_ok rfl) ?_
        refine WL.lit tab_ok rfl rfl rfl (all1c rfl all1n) rfl (by omega) (fun g1 w2 hB1 hg1 hl1 => ?_)
        have hO1 : Own vi w2 w.heap.size 3 (some ⟨g1, 0, none⟩) 1 ([x2] : List Int) := Own.ofBl hB1 (Nat.le_trans (size_le gr1) hl1) (by simp [maxLen]) rfl
        have gr2 := gr_trans gr1 hg1
        have k2 := k1.grown hg1
        obtain ⟨h3, H⟩ := H
        refine WL.append tab_ok rfl rfl One.i k2 rfl rfl hO1.rd rfl rfl h3 (applen h3) (size_le gr2) (fun A_l2 c_l2 w3 hO2 hg2 hk1 => ?_)
        have gr3 := gr_mod gr2 hg2 k2.ge'
        refine WL.y rfl (Yld.pure tab_ok rfl) ?_
        refine WL.nil (WX.block_normal (WX.then_normal ?_))
        refine WC.region ?_
        refine WL.y rfl (Yld.pure tab_ok rfl) ?_
        obtain ⟨h4, H⟩ := H
        refine WL.y rfl (Yld.add rfl rfl h4) ?_
        refine WL.y rfl (Yld.pure tab_ok rfl) ?_
        refine WL.nil ?_
        exact WX.roundF _ ⟨l ++ ([x2] : List Int), A_l2, c_l2, (l ++ ([x2] : List Int)).length, borrow2, i + (1 : Int), rfl, rfl, H.1, rfl, gr3, hO2⟩ (by repeat (first | exact Sub.nil | refine Sub.cons rfl ?_)) H.2
      · clear hJ2
        refine WC.seq ?_
        refine WC.region ?_
        refine WL.y rfl (Yld.pure tab_ok rfl) ?_
        refine WL.y rfl (Yld.pure tab_ok rfl) ?_
        refine WL.nil (WX.then_normal ?_)
        refine WC.cond rfl (fun b2 => ?_) (fun b2 => ?_)
        · replace H := H.1 (of_decide_eq_true b2)
          refine WC.seq ?_
          refine WC.region ?_
          refine WL.y rfl (Yld.pure tab_ok rfl) ?_
          obtain ⟨h5, H⟩ := H
          refine WL.y rfl (Yld.add rfl rfl h5) ?_
          refine WL.y rfl (Yld.pure tab_ok rfl) ?_
          refine WL.nil (WX.then_normal ?_)
          refine WC.region ?_
          refine WL.y rfl (Yld.pure tab_ok rfl) ?_
          refine WL.nil ?_
          exact WX.weaken (by repeat (first | exact Sub.nil | refine Sub.cons rfl ?_)) (hQ _ _ ⟨(1 : Int), x + (10000 : Int), rfl, H, rfl⟩)
        · replace H := H.2 (of_decide_eq_false b2)
          refine WC.skip ?_
          exact WX.weaken (by repeat (first | exact Sub.nil | refine Sub.cons rfl ?_)) (hQ _ _ ⟨(0 : Int), x, rfl, H, rfl⟩)
    · clear hJ1
      refine WC.seq ?_
      refine WC.region ?_
      refine WL.y rfl (Yld.pure tab_ok rfl) ?_
      refine WL.y rfl (Yld.pure tab_ok rfl) ?_
      refine WL.y rfl (Yld.pure tab_ok rfl) ?_
      refine WL.y rfl (Yld.pure tab_ok rfl) ?_
      refine WL.nil (WX.then_normal ?_)
      refine WC.cond rfl (fun b3 => ?_) (fun b3 => ?_)
      · replace H := H.1 (of_decide_eq_true b3)
        refine WC.region ?_
        refine WL.y rfl (Yld.pure tab_ok rfl) ?_
        refine WL.y rfl (Yld.pure tab_ok rfl) ?_
        refine WL.y rfl (Yld.pure tab_ok rfl) ?_
        obtain ⟨h6, H⟩ := H
        refine WL.y rfl (Yld.iaddrW tab_ok (hb.grown gr1) rfl rfl rfl rfl h6.1 h6.2) ?_
        refine WL.y rfl (Yld.iload 0 tab_ok (hb.grown gr1) rfl rfl (iltN h6 rfl)) ?_
        obtain ⟨h7, H⟩ := H
        refine WL.y rfl (Yld.sub rfl rfl h7) ?_
        refine WL.y rfl (Yld.pure tab_ok rfl) ?_
        refine WL.nil ?_
        exact WX.weaken (by repeat (first | exact Sub.nil | refine Sub.cons rfl ?_)) (hQ _ _ ⟨((a.getD i.toNat 0) - borrow) - (b.getD i.toNat 0), rfl, H, rfl⟩)
      · replace H := H.2 (of_decide_eq_false b3)
        refine WC.skip ?_
        exact WX.weaken (by repeat (first | exact Sub.nil | refine Sub.cons rfl ?_)) (hQ _ _ ⟨(a.getD i.toNat 0) - borrow, rfl, H, rfl⟩)
  · replace H := H.2 (of_decide_eq_false b1)
    refine WC.exit (WX.then_exit (WX.then_exit (WX.block_same (WX.then_normal ?_))))
    refine WC.seq ?_
    refine WC.region ?_
    refine WL.y rfl (Yld.pure tab_ok rfl) ?_
    refine WL.y rfl (Yld.pure tab_ok rfl) ?_
    refine WL.nil (WX.then_normal ?_)
    refine WC.ret ?_
    exact WX.ret1 rfl rfl ⟨gr1, l, A_l, c_l, rfl, k1, H⟩

set_option maxHeartbeats 8000000 in
theorem W_smithyref9_times {w : World} {a : List Int} {A_a : Option Addr} {c_a : Nat} {n : Int} {n_a : Nat} {K : (List Int) → Prop} (ha : Rd vi w A_a c_a a) (hn_a : n_a = a.length) (H : M_smithyref9_times a n K) : Fn Tryd.prog 106 ⟨[.slice A_a n_a c_a, .int .i64 n]⟩ w (fun v w' => w.grownBy w' none ∧ ∃ (r : List Int), ∃ (A_r : Option Addr), ∃ (c_r : Nat), v = .slice A_r r.length c_r ∧ Rd vi w' A_r c_r r ∧ Orig (r ≠ []) (blk A_r) w.heap.size [(a ≠ [], blk A_a)] ∧ K r) := by
  subst hn_a
  unfold M_smithyref9_times at H
  refine Fn.enter (by kernel_rfl) Tryd.func106 rfl Tryd.ntmps106 rfl ?_
  replace H := H (Nat.le_trans ha.cap ha.max)
  refine WC.seq ?_
  refine WC.region ?_
  refine WL.y rfl (Yld.pure tab_ok rfl) ?_
  refine WL.nil (WX.then_normal ?_)
  refine WC.seq ?_
  refine WC.region ?_
  refine WL.y rfl (Yld.pure tab_ok rfl) ?_
  refine WL.nil (WX.then_normal ?_)
  refine WC.seq ?_
  refine WC.region ?_
  refine WL.y rfl (Yld.pure tab_ok rfl) ?_
  refine WL.nil (WX.then_normal ?_)
  refine WC.seq ?_
  refine WC.seq ?_
  refine WC.region ?_
  refine WL.y rfl (Yld.pure tab_ok rfl) ?_
  refine WL.nil (WX.then_normal ?_)
  refine WC.block ?_
  obtain ⟨I1, mu1, h0_1, HR1⟩ := H
  refine WC.loopF (fun n' L' w' => ∃ (l : List Int), ∃ (A_l : Option Addr), ∃ (c_l : Nat), ∃ (n_l : Nat), ∃ (carry : Int), ∃ (i : Int), n' = mu1 l carry i ∧ L' = [(0, .slice A_a a.length c_a), (1, .int .i64 n), (5, .slice A_l n_l c_l), (6, .int .i64 carry), (7, .int .i64 i)] ∧ I1 l carry i ∧ n_l = l.length ∧ w.grownBy w' none ∧ Own vi w' w.heap.size 3 A_l c_l l) _ _ ⟨[], none, 0, 0, (0 : Int), (0 : Int), rfl, rfl, h0_1, rfl, (gr_refl _ _), (Own.nil vi w w.heap.size 3)⟩ (by repeat (first | exact Sub.nil | refine Sub.cons rfl ?_)) ?_
  clear h0_1
  rintro _ _ w1 ⟨l, A_l, c_l, n_l, carry, i, rfl, rfl, hI1, rfl, gr1, k1⟩
  have H := HR1 l carry i hI1
  refine WC.seq ?_
  refine WC.seq ?_
  refine WC.region ?_
  refine WL.y rfl (Yld.pure tab_ok rfl) ?_
  refine WL.y rfl (Yld.pure tab_ok rfl) ?_
  refine WL.y rfl (Yld.pure tab_ok rfl) ?_
  refine WL.y rfl (Yld.pure tab_ok rfl) ?_
  refine WL.y rfl (Yld.pure tab_ok rfl) ?_
  refine WL.midF 3 (fun L' w' => ∃ q1 : Bool, L' = [(16, .bool q1), (0, .slice A_a a.length c_a), (1, .int .i64 n), (5, .slice A_l l.length c_l), (6, .int .i64 carry), (7, .int .i64 i)] ∧ q1 = ((decide (i < (a.length : Int))) || (decide ((0 : Int) < carry))) ∧ w1 = w') ?_ (fun hQ => ?_)
  · rintro _ _ ⟨q1, rfl, rfl, rfl⟩
    refine WL.nil (WX.then_normal ?_)
    refine WC.cond rfl (fun b1 => ?_) (fun b1 => ?_)
    · replace H := H.1 (b1)
      refine WC.skip (WX.then_normal ?_)
      refine WC.seq ?_
      refine WC.block ?_
      refine WC.seq ?_
      refine WC.region ?_
      refine WL.y rfl (Yld.pure tab_ok rfl) ?_
      refine WL.y rfl (Yld.pure tab_ok rfl) ?_
      refine WL.nil (WX.then_normal ?_)
      refine WC.seq ?_
      obtain ⟨J1, H, hJ1⟩ := H
      refine WC.midF (fun L' w' => ∃ (x : Int), L' = [(0, .slice A_a a.length c_a), (1, .int .i64 n), (5, .slice A_l l.length c_l), (7, .int .i64 i), (8, .int .i64 x)] ∧ J1 x ∧ w1 = w') ?_ (fun hQ => ?_)
      · clear H
        rintro _ _ ⟨x, rfl, H, rfl⟩
        replace H := hJ1 x H
        refine WX.then_normal ?_
        refine WC.seq ?_
        refine WC.region ?_
        refine WL.y rfl (Yld.pure tab_ok rfl) ?_
        refine WL.y rfl (Yld.pure tab_ok rfl) ?_
        obtain ⟨h1, H⟩ := H
        refine WL.y rfl (Yld.rem rfl rfl h1.1 h1.2) ?_
        refine WL.lit tab_ok rfl rfl rfl (all1c rfl all1n) rfl (by omega) (fun g1 w2 hB1 hg1 hl1 => ?_)
        have hO1 : Own vi w2 w.heap.size 3 (some ⟨g1, 0, none⟩) 1 ([x % (10000 : Int)] : List Int) := Own.ofBl hB1 (Nat.le_trans (size_le gr1) hl1) (by simp [maxLen]) rfl
        have gr2 := gr_trans gr1 hg1
        have k2 := k1.grown hg1
        obtain ⟨h2, H⟩ := H
        refine WL.append tab_ok rfl rfl One.i k2 rfl rfl hO1.rd rfl rfl h2 (applen h2) (size_le gr2) (fun A_l2 c_l2 w3 hO2 hg2 hk1 => ?_)
        have gr3 := gr_mod gr2 hg2 k2.ge'
        refine WL.y rfl (Yld.pure tab_ok rfl) ?_
        refine WL.nil (WX.then_normal ?_)
        refine WC.region ?_
        refine WL.y rfl (Yld.pure tab_ok rfl) ?_
        obtain ⟨h3, H⟩ := H
        refine WL.y rfl (Yld.quo rfl rfl h3.1 h3.2.1 h3.2.2) ?_
        refine WL.y rfl (Yld.pure tab_ok rfl) ?_
        refine WL.nil (WX.block_normal (WX.then_normal ?_))
        refine WC.region ?_
        refine WL.y rfl (Yld.pure tab_ok rfl) ?_
        obtain ⟨h4, H⟩ := H
        refine WL.y rfl (Yld.add rfl rfl h4) ?_
        refine WL.y rfl (Yld.pure tab_ok rfl) ?_
        refine WL.nil ?_
        exact WX.roundF _ ⟨l ++ ([x % (10000 : Int)] : List Int), A_l2, c_l2, (l ++ ([x % (10000 : Int)] : List Int)).length, x / (10000 : Int), i + (1 : Int), rfl, rfl, H.1, rfl, gr3, hO2⟩ (by repeat (first | exact Sub.nil | refine Sub.cons rfl ?_)) H.2
      · clear hJ1
        refine WC.seq ?_
        refine WC.region ?_
        refine WL.y rfl (Yld.pure tab_ok rfl) ?_
        refine WL.y rfl (Yld.pure tab_ok rfl) ?_
        refine WL.y rfl (Yld.pure tab_ok rfl) ?_
        refine WL.y rfl (Yld.pure tab_ok rfl) ?_
        refine WL.nil (WX.then_normal ?_)
        refine WC.cond rfl (fun b2 => ?_) (fun b2 => ?_)
        · replace H := H.1 (of_decide_eq_true b2)
          refine WC.region ?_
          refine WL.y rfl (Yld.pure tab_ok rfl) ?_
          refine WL.y rfl (Yld.pure tab_ok rfl) ?_
          refine WL.y rfl (Yld.pure tab_ok rfl) ?_
          obtain ⟨h5, H⟩ := H
          refine WL.y rfl (Yld.iaddrW tab_ok (ha.grown gr1) rfl rfl rfl rfl h5.1 h5.2) ?_
          refine WL.y rfl (Yld.iload 0 tab_ok (ha.grown gr1) rfl rfl (iltN h5 rfl)) ?_
          refine WL.y rfl (Yld.pure tab_ok rfl) ?_
          obtain ⟨h6, H⟩ := H
          refine WL.y rfl (Yld.mul rfl rfl h6) ?_
          obtain ⟨h7, H⟩ := H
          refine WL.y rfl (Yld.add rfl rfl h7) ?_
          refine WL.y rfl (Yld.pure tab_ok rfl) ?_
          refine WL.nil ?_
          exact WX.weaken (by repeat (first | exact Sub.nil | refine Sub.cons rfl ?_)) (hQ _ _ ⟨carry + ((a.getD i.toNat 0) * n), rfl, H, rfl⟩)
        · replace H := H.2 (of_decide_eq_false b2)
          refine WC.skip ?_
          exact WX.weaken (by repeat (first | exact Sub.nil | refine Sub.cons rfl ?_)) (hQ _ _ ⟨carry, rfl, H, rfl⟩)
    · replace H := H.2 (b1)
      refine WC.exit (WX.then_exit (WX.then_exit (WX.block_same (WX.then_normal ?_))))
      refine WC.seq ?_
      refine WC.region ?_
      refine WL.y rfl (Yld.pure tab_ok rfl) ?_
      refine WL.call rfl rfl (W_smithyref9_trim k1.rd rfl H) ?_
      rintro _ w4 ⟨hg3, t40_Neg, t40_L, A_t40_L, c_t40_L, rfl, ht40_L, ho1, H⟩
      have gr4 := gr_trans gr1 hg3
      refine WL.y rfl (Yld.fld flds_ok rfl rfl rfl) ?_
      refine WL.y rfl (Yld.pure tab_ok rfl) ?_
      refine WL.nil (WX.then_normal ?_)
      refine WC.ret ?_
      exact WX.ret1 rfl rfl ⟨gr4, t40_L, A_t40_L, c_t40_L, rfl, ht40_L, (Orig.trans ho1 (size_le gr1) (orC (Orig.new k1.ge') orN)), H⟩
  · clear H
    rcases Bool.eq_false_or_eq_true (decide (i < (a.length : Int))) with b3 | b3
    · refine WL.gno rfl rfl (okb b3) rfl ?_
      refine WL.gno rfl rfl (okb b3) rfl ?_
      refine WL.y rfl (Yld.pickT (okb b3) rfl) ?_
      exact WL.weaken (by repeat (first | exact Sub.nil | refine Sub.cons rfl ?_)) (hQ _ _ ⟨true, rfl, by rw [b3] <;> rfl, rfl⟩)
    · refine WL.gyes rfl rfl (okb b3) rfl (Yld.pure tab_ok rfl) ?_
      refine WL.gyes rfl rfl (okb b3) rfl (Yld.pure tab_ok rfl) ?_
      refine WL.y rfl (Yld.pickF (okb b3) rfl) ?_
      exact WL.weaken (by repeat (first | exact Sub.nil | refine Sub.cons rfl ?_)) (hQ _ _ ⟨decide ((0 : Int) < carry), rfl, by rw [b3] <;> rfl, rfl⟩)

set_option maxHeartbeats 8000000 in
theorem W_smithyref9_four {w : World} {x : Int} {K : (List UInt8) → Prop} (H : M_smithyref9_four x K) : Fn Tryd.prog 79 ⟨[.int .i64 x]⟩ w (fun v w' => w = w' ∧ ∃ (r : List UInt8), v = vs r ∧ K r) := by
  unfold M_smithyref9_four at H
  refine Fn.enter (by kernel_rfl) Tryd.func79 rfl Tryd.ntmps79 rfl ?_
  refine WC.seq ?_
  refine WC.region ?_
  refine WL.y rfl (Yld.pure tab_ok rfl) ?_
  refine WL.nil (WX.then_normal ?_)
  refine WC.seq ?_
  refine WC.region ?_
  refine WL.y rfl (Yld.pure tab_ok rfl) ?_
  refine WL.nil (WX.then_normal ?_)
  refine WC.seq ?_
  refine WC.region ?_
  refine WL.y rfl (Yld.pure tab_ok rfl) ?_
  obtain ⟨h1, H⟩ := H
  refine WL.y rfl (Yld.quo rfl rfl h1.1 h1.2.1 h1.2.2) ?_
  refine WL.y rfl (Yld.pure tab_ok rfl) ?_
  refine WL.nil (WX.then_normal ?_)
  refine WC.seq ?_
  refine WC.region ?_
  refine WL.y rfl (Yld.pure tab_ok rfl) ?_
  obtain ⟨h2, H⟩ := H
  refine WL.y rfl (Yld.quo rfl rfl h2.1 h2.2.1 h2.2.2) ?_
  obtain ⟨h3, H⟩ := H
  refine WL.y rfl (Yld.rem rfl rfl h3.1 h3.2) ?_
  refine WL.y rfl (Yld.pure tab_ok rfl) ?_
  refine WL.nil (WX.then_normal ?_)
  refine WC.seq ?_
  refine WC.region ?_
  refine WL.y rfl (Yld.pure tab_ok rfl) ?_
  obtain ⟨h4, H⟩ := H
  refine WL.y rfl (Yld.quo rfl rfl h4.1 h4.2.1 h4.2.2) ?_
  obtain ⟨h5, H⟩ := H
  refine WL.y rfl (Yld.rem rfl rfl h5.1 h5.2) ?_
  refine WL.y rfl (Yld.pure tab_ok rfl) ?_
  refine WL.nil (WX.then_normal ?_)
  refine WC.seq ?_
  refine WC.region ?_
  refine WL.y rfl (Yld.pure tab_ok rfl) ?_
  obtain ⟨h6, H⟩ := H
  refine WL.y rfl (Yld.rem rfl rfl h6.1 h6.2) ?_
  refine WL.y rfl (Yld.pure tab_ok rfl) ?_
  refine WL.nil (WX.then_normal ?_)
  refine WC.seq ?_
  refine WC.quiet mixed (by kernel_rfl) ?_
  refine WQ.y rfl (Yld.pure tab_ok rfl) ?_
  refine WQ.y rfl (Yld.pure tab_ok rfl) ?_
  refine WQ.y rfl (Yld.pure tab_ok rfl) ?_
  obtain ⟨h7, H⟩ := H
  refine WQ.y rfl (Yld.add rfl rfl h7) ?_
  obtain ⟨h8, H⟩ := H
  refine WQ.y rfl (Yld.scut tab_ok rfl rfl rfl rfl h8.1 h8.2.1 h8.2.2) ?_
  refine WQ.y rfl (Yld.pure tab_ok rfl) ?_
  refine WQ.y rfl (Yld.pure tab_ok rfl) ?_
  refine WQ.y rfl (Yld.pure tab_ok rfl) ?_
  obtain ⟨h9, H⟩ := H
  refine WQ.y rfl (Yld.add rfl rfl h9) ?_
  obtain ⟨h10, H⟩ := H
  refine WQ.y rfl (Yld.scut tab_ok rfl rfl rfl rfl h10.1 h10.2.1 h10.2.2) ?_
  obtain ⟨h11, H⟩ := H
  refine WQ.y rfl (Yld.sadd rfl rfl h11) ?_
  refine WQ.y rfl (Yld.pure tab_ok rfl) ?_
  refine WQ.y rfl (Yld.pure tab_ok rfl) ?_
  refine WQ.y rfl (Yld.pure tab_ok rfl) ?_
  obtain ⟨h12, H⟩ := H
  refine WQ.y rfl (Yld.add rfl rfl h12) ?_
  obtain ⟨h13, H⟩ := H
  refine WQ.y rfl (Yld.scut tab_ok rfl rfl rfl rfl h13.1 h13.2.1 h13.2.2) ?_
  obtain ⟨h14, H⟩ := H
  refine WQ.y rfl (Yld.sadd rfl rfl h14) ?_
  refine WQ.y rfl (Yld.pure tab_ok rfl) ?_
  refine WQ.y rfl (Yld.pure tab_ok rfl) ?_
  refine WQ.y rfl (Yld.pure tab_ok rfl) ?_
  obtain ⟨h15, H⟩ := H
  refine WQ.y rfl (Yld.add rfl rfl h15) ?_
  obtain ⟨h16, H⟩ := H
  refine WQ.y rfl (Yld.scut tab_ok rfl rfl rfl rfl h16.1 h16.2.1 h16.2.2) ?_
  obtain ⟨h17, H⟩ := H
  refine WQ.y rfl (Yld.sadd rfl rfl h17) ?_
  refine WQ.y rfl (Yld.pure tab_ok rfl) ?_
  refine WQ.nil (WX.then_normal ?_)
  refine WC.ret ?_
  exact WX.ret1 rfl rfl ⟨rfl, ((((([48, 49, 50, 51, 52, 53, 54, 55, 56, 57] : List UInt8).drop (x / (1000 : Int)).toNat).take (((x / (1000 : Int)) + (1 : Int)).toNat - (x / (1000 : Int)).toNat)) ++ ((([48, 49, 50, 51, 52, 53, 54, 55, 56, 57] : List UInt8).drop ((x / (100 : Int)) % (10 : Int)).toNat).take ((((x / (100 : Int)) % (10 : Int)) + (1 : Int)).toNat - ((x / (100 : Int)) % (10 : Int)).toNat))) ++ ((([48, 49, 50, 51, 52, 53, 54, 55, 56, 57] : List UInt8).drop ((x / (10 : Int)) % (10 : Int)).toNat).take ((((x / (10 : Int)) % (10 : Int)) + (1 : Int)).toNat - ((x / (10 : Int)) % (10 : Int)).toNat))) ++ ((([48, 49, 50, 51, 52, 53, 54, 55, 56, 57] : List UInt8).drop (x % (10 : Int)).toNat).take (((x % (10 : Int)) + (1 : Int)).toNat - (x % (10 : Int)).toNat)), rfl, H⟩

set_option maxHeartbeats 8000000 in
theorem W_smithyref9_Of {w : World} {n : Int} {K : Bool → (List Int) → Prop} (H : M_smithyref9_Of n K) : Fn Tryd.prog 78 ⟨[.int .i64 n]⟩ w (fun v w' => w.grownBy w' none ∧ ∃ (r_Neg : Bool), ∃ (r_L : List Int), ∃ (A_r_L : Option Addr), ∃ (c_r_L : Nat), v = .agg ⟨[.bool r_Neg, .slice A_r_L r_L.length c_r_L]⟩ ∧ Rd vi w' A_r_L c_r_L r_L ∧ Orig (r_L ≠ []) (blk A_r_L) w.heap.size [] ∧ K r_Neg r_L) := by
  unfold M_smithyref9_Of at H
  refine Fn.enter (by kernel_rfl) Tryd.func78 rfl Tryd.ntmps78 rfl ?_
  refine WC.seq ?_
  refine WC.region ?_
  refine WL.alloc rfl zero56 (fun g1 w1 hB1 hg1 hl1 => ?_)
  have gr1 := hg1
  refine WL.nil (WX.then_normal ?_)
  refine WC.seq ?_
  refine WC.region ?_
  refine WL.y rfl (Yld.pure tab_ok rfl) ?_
  refine WL.nil (WX.then_normal ?_)
  refine WC.seq ?_
  refine WC.region ?_
  refine WL.y rfl (Yld.pure tab_ok rfl) ?_
  refine WL.y rfl (Yld.pure tab_ok rfl) ?_
  refine WL.nil (WX.then_normal ?_)
  refine WC.seq ?_
  refine WC.block ?_
  obtain ⟨I1, mu1, h0_1, HR1⟩ := H
  refine WC.loopF (fun n' L' w' => ∃ (l : List Int), ∃ (A_l : Option Addr), ∃ (c_l : Nat), ∃ (n_l : Nat), ∃ (m : Int), n' = mu1 l m ∧ L' = [(0, .int .i64 n), (2, .pointer (some ⟨g1, 0, none⟩)), (3, .slice A_l n_l c_l), (4, .int .i64 m)] ∧ I1 l m ∧ n_l = l.length ∧ w.grownBy w' none ∧ Bl w' g1 56 [.bool false, .slice none 0 0] ∧ Own vi w' w.heap.size 3 A_l c_l l ∧ Dj (some g1) (blk A_l)) _ _ ⟨[], none, 0, 0, n, rfl, rfl, h0_1, rfl, gr1, hB1, (Own.nil vi w1 w.heap.size 3), Dj.nr⟩ (by repeat (first | exact Sub.nil | refine Sub.cons rfl ?_)) ?_
  clear h0_1
  rintro _ _ w2 ⟨l, A_l, c_l, n_l, m, rfl, rfl, hI1, rfl, gr2, k1, k2, dj1⟩
  have H := HR1 l m hI1
  refine WC.seq ?_
  refine WC.seq ?_
  refine WC.region ?_
  refine WL.y rfl (Yld.pure tab_ok rfl) ?_
  refine WL.y rfl (Yld.pure tab_ok rfl) ?_
  refine WL.nil (WX.then_normal ?_)
  refine WC.cond rfl (fun b1 => ?_) (fun b1 => ?_)
  · replace H := H.1 (nd_true b1)
    refine WC.skip (WX.then_normal ?_)
    refine WC.block ?_
    refine WC.seq ?_
    refine WC.region ?_
    refine WL.y rfl (Yld.pure tab_ok rfl) ?_
    obtain ⟨h1, H⟩ := H
    refine WL.y rfl (Yld.rem' rfl rfl h1) ?_
    refine WL.y rfl (Yld.pure tab_ok rfl) ?_
    refine WL.nil (WX.then_normal ?_)
    refine WC.seq ?_
    obtain ⟨J1, H, hJ1⟩ := H
    refine WC.midF (fun L' w' => ∃ (d : Int), L' = [(0, .int .i64 n), (2, .pointer (some ⟨g1, 0, none⟩)), (3, .slice A_l l.length c_l), (4, .int .i64 m), (5, .int .i64 d)] ∧ J1 d ∧ w2 = w') ?_ (fun hQ => ?_)
    · clear H
      rintro _ _ ⟨d, rfl, H, rfl⟩
      replace H := hJ1 d H
      refine WX.then_normal ?_
      refine WC.seq ?_
      refine WC.region ?_
      refine WL.y rfl (Yld.pure tab_ok rfl) ?_
      refine WL.y rfl (Yld.pure tab_ok rfl) ?_
      refine WL.lit tab_ok rfl rfl rfl (all1c rfl all1n) rfl (by omega) (fun g2 w3 hB2 hg2 hl2 => ?_)
      have hO1 : Own vi w3 w.heap.size 3 (some ⟨g2, 0, none⟩) 1 ([d] : List Int) := Own.ofBl hB2 (Nat.le_trans (size_le gr2) hl2) (by simp [maxLen]) rfl
      have gr3 := gr_trans gr2 hg2
      have k3 := k1.g0 hg2
      have k4 := k2.grown hg2
      obtain ⟨h2, H⟩ := H
      refine WL.append tab_ok rfl rfl One.i k4 rfl rfl hO1.rd rfl rfl h2 (applen h2) (size_le gr3) (fun A_l2 c_l2 w4 hO2 hg3 hk1 => ?_)
      have gr4 := gr_mod gr3 hg3 k4.ge'
      have k5 := k3.go hg3 dj1
      refine WL.y rfl (Yld.pure tab_ok rfl) ?_
      refine WL.nil (WX.then_normal ?_)
      refine WC.region ?_
      refine WL.y rfl (Yld.pure tab_ok rfl) ?_
      obtain ⟨h3, H⟩ := H
      refine WL.y rfl (Yld.quo' rfl rfl h3) ?_
      refine WL.y rfl (Yld.pure tab_ok rfl) ?_
      refine WL.nil (WX.block_normal ?_)
      exact WX.roundF _ ⟨l ++ ([d] : List Int), A_l2, c_l2, (l ++ ([d] : List Int)).length, IntKind.wrap .i64 (m.tdiv (10000 : Int)), rfl, rfl, H.1, rfl, gr4, k5, hO2, (Dj.app dj1.symm k3.lt' hk1).symm⟩ (by repeat (first | exact Sub.nil | refine Sub.cons rfl ?_)) H.2
    · clear hJ1
      refine WC.seq ?_
      refine WC.region ?_
      refine WL.y rfl (Yld.pure tab_ok rfl) ?_
      refine WL.y rfl (Yld.pure tab_ok rfl) ?_
      refine WL.nil (WX.then_normal ?_)
      refine WC.cond rfl (fun b2 => ?_) (fun b2 => ?_)
      · replace H := H.1 (of_decide_eq_true b2)
        refine WC.region ?_
        refine WL.y rfl (Yld.pure tab_ok rfl) ?_
        obtain ⟨h4, H⟩ := H
        refine WL.y rfl (Yld.neg tab_ok rfl h4) ?_
        refine WL.y rfl (Yld.pure tab_ok rfl) ?_
        refine WL.nil ?_
        exact WX.weaken (by repeat (first | exact Sub.nil | refine Sub.cons rfl ?_)) (hQ _ _ ⟨0 - (m.tmod (10000 : Int)), rfl, H, rfl⟩)
      · replace H := H.2 (of_decide_eq_false b2)
        refine WC.skip ?_
        exact WX.weaken (by repeat (first | exact Sub.nil | refine Sub.cons rfl ?_)) (hQ _ _ ⟨m.tmod (10000 : Int), rfl, H, rfl⟩)
  · replace H := H.2 (nd_false b1)
    refine WC.exit (WX.then_exit (WX.then_exit (WX.block_same (WX.then_normal ?_))))
    refine WC.seq ?_
    refine WC.region ?_
    refine WL.y rfl (Yld.pure tab_ok rfl) ?_
    refine WL.y rfl (Yld.pure tab_ok rfl) ?_
    refine WL.y rfl (Yld.pure tab_ok rfl) ?_
    refine WL.call rfl rfl (W_smithyref9_trim k2.rd rfl H) ?_
    rintro _ w5 ⟨hg4, t24_Neg, t24_L, A_t24_L, c_t24_L, rfl, ht24_L, ho1, H⟩
    have gr5 := gr_trans gr2 hg4
    have k6 := k1.g0 hg4
    refine WL.storeW (vs := [.bool t24_Neg, .slice A_t24_L t24_L.length c_t24_L]) tab_ok rfl rfl rfl (all1c rfl (all1c rfl all1n)) k6 rfl rfl (fun w6 hB3 hg5 => ?_)
    have gr6 := gr_mod gr5 hg5 (Ge.le (Ge.box hl1) (Nat.le_refl _))
    have k7 := ht24_L.go hg5 (Orig.apart ho1 k1.lt' (orC (Dn.of dj1.symm) orN))
    refine WL.nil (WX.then_normal ?_)
    refine WC.ret ?_
    exact WX.retc tab_ok rfl rfl rfl hB3 rfl ⟨gr6, t24_Neg, t24_L, A_t24_L, c_t24_L, rfl, k7, (Orig.trans ho1 (size_le gr2) (orC (Orig.new k2.ge') orN)), H⟩

set_option maxHeartbeats 8000000 in
theorem W_smithyref9_Parse {w : World} {s : List UInt8} {K : Bool → (List Int) → Bool → Prop} (H : M_smithyref9_Parse s K) : Fn Tryd.prog 31 ⟨[vs s]⟩ w (fun v w' => w.grownBy w' none ∧ ∃ (r0_Neg : Bool), ∃ (r0_L : List Int), ∃ (A_r0_L : Option Addr), ∃ (c_r0_L : Nat), ∃ (r1 : Bool), v = .tuple #[.agg ⟨[.bool r0_Neg, .slice A_r0_L r0_L.length c_r0_L]⟩, .bool r1] ∧ Rd vi w' A_r0_L c_r0_L r0_L ∧ Orig (r0_L ≠ []) (blk A_r0_L) w.heap.size [] ∧ K r0_Neg r0_L r1) := by
  unfold M_smithyref9_Parse at H
  refine Fn.enter (by kernel_rfl) Tryd.func31 rfl Tryd.ntmps31 rfl ?_
  refine WC.seq ?_
  refine WC.region ?_
  refine WL.alloc rfl zero56 (fun g1 w1 hB1 hg1 hl1 => ?_)
  have gr1 := hg1
  refine WL.y rfl (Yld.pure tab_ok rfl) ?_
  refine WL.nil (WX.then_normal ?_)
  refine WC.seq ?_
  refine WC.region ?_
  refine WL.y rfl (Yld.pure tab_ok rfl) ?_
  refine WL.y rfl (Yld.pure tab_ok rfl) ?_
  refine WL.y rfl (Yld.pure tab_ok rfl) ?_
  refine WL.y rfl (Yld.pure tab_ok rfl) ?_
  obtain ⟨h1, H⟩ := H
  refine WL.midF 4 (fun L' w' => ∃ q1 : Bool, L' = [(18, .bool q1), (0, vs s), (2, .pointer (some ⟨g1, 0, none⟩))] ∧ q1 = ((decide ((0 : Int) < (s.length : Int))) && (decide (((s.getD 0 0).toNat : Int) = (45 : Int)))) ∧ w1 = w') ?_ (fun hQ => ?_)
  · rintro _ _ ⟨q1, rfl, rfl, rfl⟩
    refine WL.y rfl (Yld.pure tab_ok rfl) ?_
    refine WL.nil (WX.then_normal ?_)
    refine WC.seq ?_
    refine WC.region ?_
    refine WL.y rfl (Yld.pure tab_ok rfl) ?_
    refine WL.y rfl (Yld.pure tab_ok rfl) ?_
    refine WL.nil (WX.then_normal ?_)
    refine WC.seq ?_
    obtain ⟨J1, H, hJ1⟩ := H
    refine WC.midF (fun L' w' => ∃ (d : List UInt8), L' = [(2, .pointer (some ⟨g1, 0, none⟩)), (4, .bool ((decide ((0 : Int) < (s.length : Int))) && (decide (((s.getD 0 0).toNat : Int) = (45 : Int))))), (5, vs d)] ∧ J1 d ∧ w1 = w') ?_ (fun hQ => ?_)
    · clear H
      rintro _ _ ⟨d, rfl, H, rfl⟩
      replace H := hJ1 d H
      refine WX.then_normal ?_
      refine WC.seq ?_
      refine WC.seq ?_
      refine WC.region ?_
      refine WL.y rfl (Yld.pure tab_ok rfl) ?_
      refine WL.nil (WX.then_normal ?_)
      refine WC.block ?_
      obtain ⟨I1, mu1, h0_1, HR1⟩ := H
      refine WC.loopF (fun n' L' w' => ∃ (i : Int), ∃ (t20 : Bool), ∃ (t21 : List Int), ∃ (A_t21 : Option Addr), ∃ (c_t21 : Nat), ∃ (n_t21 : Nat), n' = mu1 i t20 t21 ∧ L' = [(2, .pointer (some ⟨g1, 0, none⟩)), (4, .bool ((decide ((0 : Int) < (s.length : Int))) && (decide (((s.getD 0 0).toNat : Int) = (45 : Int))))), (5, vs d), (6, .int .i64 i)] ∧ I1 i t20 t21 ∧ n_t21 = t21.length ∧ w.grownBy w' none ∧ Bl w' g1 56 [.bool t20, .slice A_t21 n_t21 c_t21] ∧ Own vi w' w.heap.size 3 A_t21 c_t21 t21 ∧ Dj (some g1) (blk A_t21)) _ _ ⟨(0 : Int), false, [], none, 0, 0, rfl, rfl, h0_1, rfl, gr1, hB1, (Own.nil vi w1 w.heap.size 3), Dj.nr⟩ (by repeat (first | exact Sub.nil | refine Sub.cons rfl ?_)) ?_
      clear h0_1
      rintro _ _ w2 ⟨i, t20, t21, A_t21, c_t21, n_t21, rfl, rfl, hI1, rfl, gr2, k1, k2, dj1⟩
      have H := HR1 i t20 t21 hI1
      refine WC.seq ?_
      refine WC.seq ?_
      refine WC.region ?_
      refine WL.y rfl (Yld.pure tab_ok rfl) ?_
      refine WL.y rfl (Yld.pure tab_ok rfl) ?_
      refine WL.y rfl (Yld.pure tab_ok rfl) ?_
      refine WL.y rfl (Yld.pure tab_ok rfl) ?_
      refine WL.nil (WX.then_normal ?_)
      refine WC.cond rfl (fun b1 => ?_) (fun b1 => ?_)
      · replace H := H.1 (of_decide_eq_true b1)
        refine WC.skip (WX.then_normal ?_)
        refine WC.seq ?_
        refine WC.block ?_
        refine WC.seq ?_
        refine WC.region ?_
        refine WL.y rfl (Yld.pure tab_ok rfl) ?_
        refine WL.y rfl (Yld.pure tab_ok rfl) ?_
        obtain ⟨h2, H⟩ := H
        refine WL.y rfl (Yld.sidx tab_ok rfl rfl rfl h2.1 h2.2) ?_
        refine WL.y rfl (Yld.pure tab_ok rfl) ?_
        refine WL.y rfl (Yld.pure tab_ok rfl) ?_
        obtain ⟨h3, H⟩ := H
        refine WL.midF 5 (fun L' w' => ∃ q2 : Bool, L' = [(38, .bool q2), (2, .pointer (some ⟨g1, 0, none⟩)), (4, .bool ((decide ((0 : Int) < (s.length : Int))) && (decide (((s.getD 0 0).toNat : Int) = (45 : Int))))), (5, vs d), (6, .int .i64 i)] ∧ q2 = ((decide (((d.getD i.toNat 0).toNat : Int) < (48 : Int))) || (decide ((57 : Int) < ((d.getD i.toNat 0).toNat : Int)))) ∧ w2 = w') ?_ (fun hQ => ?_)
        · rintro _ _ ⟨q2, rfl, rfl, rfl⟩
          refine WL.nil (WX.then_normal ?_)
          refine WC.cond rfl (fun b2 => ?_) (fun b2 => ?_)
          · replace H := H.1 (b2)
            refine WC.seq ?_
            refine WC.region ?_
            refine WL.y rfl (Yld.struct (us := [.bool false, .slice none 0 0]) zero56 places56 rfl rfl) ?_
            refine WL.storeW (vs := [.bool false, .slice none 0 0]) tab_ok rfl rfl rfl (all1c rfl (all1c rfl all1n)) k1 rfl rfl (fun w3 hB2 hg2 => ?_)
            have gr3 := gr_mod gr2 hg2 (Ge.le (Ge.box hl1) (Nat.le_refl _))
            refine WL.y rfl (Yld.pure tab_ok rfl) ?_
            refine WL.nil (WX.then_normal ?_)
            refine WC.ret (WX.block_ret (WX.then_ret (WX.then_ret (WX.block_ret (WX.then_ret ?_)))))
            exact WX.retct tab_ok rfl rfl rfl hB2 rfl rfl ⟨gr3, false, [], none, 0, false, rfl, (Own.nil vi w3 w.heap.size 3).rd, (Orig.new Ge.none), H⟩
          · replace H := H.2 (b2)
            refine WC.skip (WX.block_normal (WX.then_normal ?_))
            refine WC.region ?_
            refine WL.y rfl (Yld.pure tab_ok rfl) ?_
            obtain ⟨h4, H⟩ := H
            refine WL.y rfl (Yld.add rfl rfl h4) ?_
            refine WL.y rfl (Yld.pure tab_ok rfl) ?_
            refine WL.nil ?_
            exact WX.roundF _ ⟨i + (1 : Int), t20, t21, A_t21, c_t21, t21.length, rfl, rfl, H.1, rfl, gr2, k1, k2, dj1⟩ (by repeat (first | exact Sub.nil | refine Sub.cons rfl ?_)) H.2
        · clear H
          rcases Bool.eq_false_or_eq_true (decide (((d.getD i.toNat 0).toNat : Int) < (48 : Int))) with b3 | b3
          · refine WL.gno rfl rfl (okb b3) rfl ?_
            refine WL.gno rfl rfl (okb b3) rfl ?_
            refine WL.gno rfl rfl (okb b3) rfl ?_
            refine WL.gno rfl rfl (okb b3) rfl ?_
            refine WL.y rfl (Yld.pickT (okb b3) rfl) ?_
            exact WL.weaken (by repeat (first | exact Sub.nil | refine Sub.cons rfl ?_)) (hQ _ _ ⟨true, rfl, by rw [b3] <;> rfl, rfl⟩)
          · refine WL.gyes rfl rfl (okb b3) rfl (Yld.pure tab_ok rfl) ?_
            refine WL.gyes rfl rfl (okb b3) rfl (Yld.pure tab_ok rfl) ?_
            refine WL.gyes rfl rfl (okb b3) rfl (Yld.sidx tab_ok rfl rfl rfl (h3 b3).1 (h3 b3).2) ?_
            refine WL.gyes rfl rfl (okb b3) rfl (Yld.pure tab_ok rfl) ?_
            refine WL.y rfl (Yld.pickF (okb b3) rfl) ?_
            exact WL.weaken (by repeat (first | exact Sub.nil | refine Sub.cons rfl ?_)) (hQ _ _ ⟨decide ((57 : Int) < ((d.getD i.toNat 0).toNat : Int)), rfl, by rw [b3] <;> rfl, rfl⟩)
      · replace H := H.2 (of_decide_eq_false b1)
        refine WC.exit (WX.then_exit (WX.then_exit (WX.block_same (WX.then_normal ?_))))
        refine WC.seq ?_
        refine WC.seq ?_
        refine WC.region ?_
        refine WL.y rfl (Yld.pure tab_ok rfl) ?_
        refine WL.y rfl (Yld.pure tab_ok rfl) ?_
        refine WL.y rfl (Yld.pure tab_ok rfl) ?_
        obtain ⟨h5, H⟩ := H
        refine WL.midF 12 (fun L' w' => ∃ q3 : Bool, L' = [(54, .bool q3), (2, .pointer (some ⟨g1, 0, none⟩)), (4, .bool ((decide ((0 : Int) < (s.length : Int))) && (decide (((s.getD 0 0).toNat : Int) = (45 : Int))))), (5, vs d)] ∧ q3 = ((decide (d = ([] : List UInt8))) || ((decide (((d.getD 0 0).toNat : Int) = (48 : Int))) && ((decide ((1 : Int) < (d.length : Int))) || ((decide ((0 : Int) < (s.length : Int))) && (decide (((s.getD 0 0).toNat : Int) = (45 : Int))))))) ∧ w2 = w') ?_ (fun hQ => ?_)
        · rintro _ _ ⟨q3, rfl, rfl, rfl⟩
          refine WL.nil (WX.then_normal ?_)
          refine WC.cond rfl (fun b4 => ?_) (fun b4 => ?_)
          · replace H := H.1 (b4)
            refine WC.seq ?_
            refine WC.region ?_
            refine WL.y rfl (Yld.struct (us := [.bool false, .slice none 0 0]) zero56 places56 rfl rfl) ?_
            refine WL.storeW (vs := [.bool false, .slice none 0 0]) tab_ok rfl rfl rfl (all1c rfl (all1c rfl all1n)) k1 rfl rfl (fun w4 hB3 hg3 => ?_)
            have gr4 := gr_mod gr2 hg3 (Ge.le (Ge.box hl1) (Nat.le_refl _))
            refine WL.y rfl (Yld.pure tab_ok rfl) ?_
            refine WL.nil (WX.then_normal ?_)
            refine WC.ret (WX.then_ret ?_)
            exact WX.retct tab_ok rfl rfl rfl hB3 rfl rfl ⟨gr4, false, [], none, 0, false, rfl, (Own.nil vi w4 w.heap.size 3).rd, (Orig.new Ge.none), H⟩
          · replace H := H.2 (b4)
            refine WC.skip (WX.then_normal ?_)
            refine WC.seq ?_
            refine WC.region ?_
            refine WL.y rfl (Yld.pure tab_ok rfl) ?_
            refine WL.nil (WX.then_normal ?_)
            refine WC.seq ?_
            refine WC.seq ?_
            refine WC.region ?_
            refine WL.y rfl (Yld.pure tab_ok rfl) ?_
            refine WL.y rfl (Yld.pure tab_ok rfl) ?_
            refine WL.y rfl (Yld.pure tab_ok rfl) ?_
            refine WL.nil (WX.then_normal ?_)
            refine WC.block ?_
            obtain ⟨I2, mu2, h0_2, HR2⟩ := H
            refine WC.loopF (fun n' L' w' => ∃ (l : List Int), ∃ (A_l : Option Addr), ∃ (c_l : Nat), ∃ (n_l : Nat), ∃ (end_ : Int), n' = mu2 l end_ ∧ L' = [(2, .pointer (some ⟨g1, 0, none⟩)), (4, .bool ((decide ((0 : Int) < (s.length : Int))) && (decide (((s.getD 0 0).toNat : Int) = (45 : Int))))), (5, vs d), (7, .slice A_l n_l c_l), (8, .int .i64 end_)] ∧ I2 l end_ ∧ n_l = l.length ∧ w.grownBy w' none ∧ Bl w' g1 56 [.bool t20, .slice A_t21 t21.length c_t21] ∧ Own vi w' w.heap.size 3 A_t21 c_t21 t21 ∧ Own vi w' w.heap.size 3 A_l c_l l ∧ Dj (some g1) (blk A_t21) ∧ Dj (some g1) (blk A_l) ∧ Dj (blk A_t21) (blk A_l)) _ _ ⟨[], none, 0, 0, (d.length : Int), rfl, rfl, h0_2, rfl, gr2, k1, k2, (Own.nil vi w2 w.heap.size 3), dj1, Dj.nr, Dj.nr⟩ (by repeat (first | exact Sub.nil | refine Sub.cons rfl ?_)) ?_
            clear h0_2
            rintro _ _ w5 ⟨l, A_l, c_l, n_l, end_, rfl, rfl, hI2, rfl, gr5, k3, k4, k5, dj2, dj3, dj4⟩
            have H := HR2 l end_ hI2
            refine WC.seq ?_
            refine WC.seq ?_
            refine WC.region ?_
            refine WL.y rfl (Yld.pure tab_ok rfl) ?_
            refine WL.y rfl (Yld.pure tab_ok rfl) ?_
            refine WL.nil (WX.then_normal ?_)
            refine WC.cond rfl (fun b5 => ?_) (fun b5 => ?_)
            · replace H := H.1 (of_decide_eq_true b5)
              refine WC.skip (WX.then_normal ?_)
              refine WC.seq ?_
              refine WC.block ?_
              refine WC.seq ?_
              refine WC.region ?_
              refine WL.y rfl (Yld.pure tab_ok rfl) ?_
              refine WL.nil (WX.then_normal ?_)
              refine WC.seq ?_
              refine WC.seq ?_
              refine WC.region ?_
              refine WL.y rfl (Yld.pure tab_ok rfl) ?_
              obtain ⟨h6, H⟩ := H
              refine WL.y rfl (Yld.sub rfl rfl h6) ?_
              refine WL.y rfl (Yld.max2 rfl rfl) ?_
              refine WL.y rfl (Yld.pure tab_ok rfl) ?_
              refine WL.nil (WX.then_normal ?_)
              refine WC.block ?_
              obtain ⟨I3, mu3, h0_3, HR3⟩ := H
              refine WC.loopF (fun n' L' w' => ∃ (x : Int), ∃ (i2 : Int), n' = mu3 x i2 ∧ L' = [(2, .pointer (some ⟨g1, 0, none⟩)), (4, .bool ((decide ((0 : Int) < (s.length : Int))) && (decide (((s.getD 0 0).toNat : Int) = (45 : Int))))), (5, vs d), (7, .slice A_l l.length c_l), (8, .int .i64 end_), (9, .int .i64 x), (10, .int .i64 i2)] ∧ I3 x i2 ∧ w5 = w') _ _ ⟨(0 : Int), (if (0 : Int) < (end_ - (4 : Int)) then end_ - (4 : Int) else (0 : Int)), rfl, rfl, h0_3, rfl⟩ (by repeat (first | exact Sub.nil | refine Sub.cons rfl ?_)) ?_
              clear h0_3
              rintro _ _ _ ⟨x, i2, rfl, rfl, hI3, rfl⟩
              have H := HR3 x i2 hI3
              refine WC.seq ?_
              refine WC.seq ?_
              refine WC.region ?_
              refine WL.y rfl (Yld.pure tab_ok rfl) ?_
              refine WL.y rfl (Yld.pure tab_ok rfl) ?_
              refine WL.y rfl (Yld.pure tab_ok rfl) ?_
              refine WL.nil (WX.then_normal ?_)
              refine WC.cond rfl (fun b6 => ?_) (fun b6 => ?_)
              · replace H := H.1 (of_decide_eq_true b6)
                refine WC.skip (WX.then_normal ?_)
                refine WC.seq ?_
                refine WC.block ?_
                refine WC.region ?_
                refine WL.y rfl (Yld.pure tab_ok rfl) ?_
                obtain ⟨h7, H⟩ := H
                refine WL.y rfl (Yld.mul rfl rfl h7) ?_
                refine WL.y rfl (Yld.pure tab_ok rfl) ?_
                refine WL.y rfl (Yld.pure tab_ok rfl) ?_
                obtain ⟨h8, H⟩ := H
                refine WL.y rfl (Yld.sidx tab_ok rfl rfl rfl h8.1 h8.2) ?_
                obtain ⟨h9, H⟩ := H
                refine WL.y rfl (Yld.sub rfl rfl h9) ?_
                obtain ⟨h10, H⟩ := H
                refine WL.y rfl (Yld.conv tab_ok rfl rfl rfl h10) ?_
                obtain ⟨h11, H⟩ := H
                refine WL.y rfl (Yld.add rfl rfl h11) ?_
                refine WL.y rfl (Yld.pure tab_ok rfl) ?_
                refine WL.nil (WX.block_normal (WX.then_normal ?_))
                refine WC.region ?_
                refine WL.y rfl (Yld.pure tab_ok rfl) ?_
                obtain ⟨h12, H⟩ := H
                refine WL.y rfl (Yld.add rfl rfl h12) ?_
                refine WL.y rfl (Yld.pure tab_ok rfl) ?_
                refine WL.nil ?_
                exact WX.roundF _ ⟨((10 : Int) * x) + (((d.getD i2.toNat 0).toNat : Int) - (48 : Int)), i2 + (1 : Int), rfl, rfl, H.1, rfl⟩ (by repeat (first | exact Sub.nil | refine Sub.cons rfl ?_)) H.2
              · replace H := H.2 (of_decide_eq_false b6)
                refine WC.exit (WX.then_exit (WX.then_exit (WX.block_same (WX.then_normal ?_))))
                refine WC.region ?_
                refine WL.y rfl (Yld.pure tab_ok rfl) ?_
                refine WL.y rfl (Yld.pure tab_ok rfl) ?_
                refine WL.lit tab_ok rfl rfl rfl (all1c rfl all1n) rfl (by omega) (fun g2 w6 hB4 hg4 hl2 => ?_)
                have hO1 : Own vi w6 w.heap.size 3 (some ⟨g2, 0, none⟩) 1 ([x] : List Int) := Own.ofBl hB4 (Nat.le_trans (size_le gr5) hl2) (by simp [maxLen]) rfl
                have gr6 := gr_trans gr5 hg4
                have k6 := k3.g0 hg4
                have k7 := k4.grown hg4
                have k8 := k5.grown hg4
                obtain ⟨h13, H⟩ := H
                refine WL.append tab_ok rfl rfl One.i k8 rfl rfl hO1.rd rfl rfl h13 (applen h13) (size_le gr6) (fun A_l2 c_l2 w7 hO2 hg5 hk1 => ?_)
                have gr7 := gr_mod gr6 hg5 k8.ge'
                have k9 := k6.go hg5 dj3
                have k10 := k7.go hg5 dj4
                refine WL.y rfl (Yld.pure tab_ok rfl) ?_
                refine WL.nil (WX.block_normal (WX.then_normal ?_))
                refine WC.region ?_
                refine WL.y rfl (Yld.pure tab_ok rfl) ?_
                obtain ⟨h14, H⟩ := H
                refine WL.y rfl (Yld.sub rfl rfl h14) ?_
                refine WL.y rfl (Yld.pure tab_ok rfl) ?_
                refine WL.nil ?_
                exact WX.roundF _ ⟨l ++ ([x] : List Int), A_l2, c_l2, (l ++ ([x] : List Int)).length, end_ - (4 : Int), rfl, rfl, H.1, rfl, gr7, k9, k10, hO2, dj2, (Dj.app dj3.symm k6.lt' hk1).symm, (Dj.app dj4.symm k7.lt' hk1).symm⟩ (by repeat (first | exact Sub.nil | refine Sub.cons rfl ?_)) H.2
            · replace H := H.2 (of_decide_eq_false b5)
              refine WC.exit (WX.then_exit (WX.then_exit (WX.block_same (WX.then_normal ?_))))
              refine WC.seq ?_
              refine WC.region ?_
              refine WL.y rfl (Yld.pure tab_ok rfl) ?_
              refine WL.y rfl (Yld.pure tab_ok rfl) ?_
              refine WL.call rfl rfl (W_smithyref9_trim k5.rd rfl H) ?_
              rintro _ w8 ⟨hg6, t84_Neg, t84_L, A_t84_L, c_t84_L, rfl, ht84_L, ho1, H⟩
              have gr8 := gr_trans gr5 hg6
              have k11 := k3.g0 hg6
              have k12 := k4.grown hg6
              refine WL.storeW (vs := [.bool t84_Neg, .slice A_t84_L t84_L.length c_t84_L]) tab_ok rfl rfl rfl (all1c rfl (all1c rfl all1n)) k11 rfl rfl (fun w9 hB5 hg7 => ?_)
              have gr9 := gr_mod gr8 hg7 (Ge.le (Ge.box hl1) (Nat.le_refl _))
              have k13 := ht84_L.go hg7 (Orig.apart ho1 k3.lt' (orC (Dn.of dj3.symm) orN))
              refine WL.y rfl (Yld.pure tab_ok rfl) ?_
              refine WL.nil (WX.then_normal ?_)
              refine WC.ret ?_
              exact WX.retct tab_ok rfl rfl rfl hB5 rfl rfl ⟨gr9, t84_Neg, t84_L, A_t84_L, c_t84_L, true, rfl, k13, (Orig.trans ho1 (size_le gr5) (orC (Orig.new k5.ge') orN)), H⟩
        · clear H
          rcases Bool.eq_false_or_eq_true (decide (d = ([] : List UInt8))) with b7 | b7
          · refine WL.gno rfl rfl (okb b7) rfl ?_
            refine WL.gno rfl rfl (okb b7) rfl ?_
            refine WL.gno rfl rfl (okb b7) rfl ?_
            refine WL.gno rfl rfl (okb b7) rfl ?_
            refine WL.gun rfl rfl rfl rfl ?_
            refine WL.gun rfl rfl rfl rfl ?_
            refine WL.gun rfl rfl rfl rfl ?_
            refine WL.gun rfl rfl rfl rfl ?_
            refine WL.gun rfl rfl rfl rfl ?_
            refine WL.gun rfl rfl rfl rfl ?_
            refine WL.gno rfl rfl (okb b7) rfl ?_
            refine WL.y rfl (Yld.pickT (okb b7) rfl) ?_
            exact WL.weaken (by repeat (first | exact Sub.nil | refine Sub.cons rfl ?_)) (hQ _ _ ⟨true, rfl, by rw [b7] <;> rfl, rfl⟩)
          · refine WL.gyes rfl rfl (okb b7) rfl (Yld.pure tab_ok rfl) ?_
            refine WL.gyes rfl rfl (okb b7) rfl (Yld.sidx tab_ok rfl rfl rfl (h5 b7).1 (h5 b7).2) ?_
            refine WL.gyes rfl rfl (okb b7) rfl (Yld.pure tab_ok rfl) ?_
            refine WL.gyes rfl rfl (okb b7) rfl (Yld.pure tab_ok rfl) ?_
            rcases Bool.eq_false_or_eq_true (decide (((d.getD 0 0).toNat : Int) = (48 : Int))) with b8 | b8
            · refine WL.gyes rfl rfl (okb b8) rfl (Yld.pure tab_ok rfl) ?_
              refine WL.gyes rfl rfl (okb b8) rfl (Yld.pure tab_ok rfl) ?_
              refine WL.gyes rfl rfl (okb b8) rfl (Yld.pure tab_ok rfl) ?_
              refine WL.gyes rfl rfl (okb b8) rfl (Yld.pure tab_ok rfl) ?_
              rcases Bool.eq_false_or_eq_true (decide ((1 : Int) < (d.length : Int))) with b9 | b9
              · refine WL.gno rfl rfl (okb b9) rfl ?_
                refine WL.gyes rfl rfl (okb b8) rfl (Yld.pickT (okb b9) rfl) ?_
                refine WL.gyes rfl rfl (okb b7) rfl (Yld.pickT (okb b8) rfl) ?_
                refine WL.y rfl (Yld.pickF (okb b7) rfl) ?_
                exact WL.weaken (by repeat (first | exact Sub.nil | refine Sub.cons rfl ?_)) (hQ _ _ ⟨true, rfl, by rw [b7, b8, b9] <;> rfl, rfl⟩)
              · refine WL.gyes rfl rfl (okb b9) rfl (Yld.pure tab_ok rfl) ?_
                refine WL.gyes rfl rfl (okb b8) rfl (Yld.pickF (okb b9) rfl) ?_
                refine WL.gyes rfl rfl (okb b7) rfl (Yld.pickT (okb b8) rfl) ?_
                refine WL.y rfl (Yld.pickF (okb b7) rfl) ?_
                exact WL.weaken (by repeat (first | exact Sub.nil | refine Sub.cons rfl ?_)) (hQ _ _ ⟨(decide ((0 : Int) < (s.length : Int))) && (decide (((s.getD 0 0).toNat : Int) = (45 : Int))), rfl, by rw [b7, b8, b9] <;> rfl, rfl⟩)
            · refine WL.gno rfl rfl (okb b8) rfl ?_
              refine WL.gno rfl rfl (okb b8) rfl ?_
              refine WL.gno rfl rfl (okb b8) rfl ?_
              refine WL.gno rfl rfl (okb b8) rfl ?_
              refine WL.gun rfl rfl rfl rfl ?_
              refine WL.gno rfl rfl (okb b8) rfl ?_
              refine WL.gyes rfl rfl (okb b7) rfl (Yld.pickF (okb b8) rfl) ?_
              refine WL.y rfl (Yld.pickF (okb b7) rfl) ?_
              exact WL.weaken (by repeat (first | exact Sub.nil | refine Sub.cons rfl ?_)) (hQ _ _ ⟨false, rfl, by rw [b7, b8] <;> rfl, rfl⟩)
    · clear hJ1
      refine WC.seq ?_
      refine WC.region ?_
      refine WL.y rfl (Yld.pure tab_ok rfl) ?_
      refine WL.nil (WX.then_normal ?_)
      refine WC.cond rfl (fun b10 => ?_) (fun b10 => ?_)
      · replace H := H.1 (b10)
        refine WC.region ?_
        refine WL.y rfl (Yld.pure tab_ok rfl) ?_
        obtain ⟨h15, H⟩ := H
        refine WL.y rfl (Yld.scutF tab_ok rfl rfl rfl h15.1 h15.2) ?_
        refine WL.y rfl (Yld.pure tab_ok rfl) ?_
        refine WL.nil ?_
        exact WX.weaken (by repeat (first | exact Sub.nil | refine Sub.cons rfl ?_)) (hQ _ _ ⟨s.drop 1, rfl, H, rfl⟩)
      · replace H := H.2 (b10)
        refine WC.skip ?_
        exact WX.weaken (by repeat (first | exact Sub.nil | refine Sub.cons rfl ?_)) (hQ _ _ ⟨s, rfl, H, rfl⟩)
  · clear H
    rcases Bool.eq_false_or_eq_true (decide ((0 : Int) < (s.length : Int))) with b11 | b11
    · refine WL.gyes rfl rfl (okb b11) rfl (Yld.pure tab_ok rfl) ?_
      refine WL.gyes rfl rfl (okb b11) rfl (Yld.sidx tab_ok rfl rfl rfl (h1 b11).1 (h1 b11).2) ?_
      refine WL.gyes rfl rfl (okb b11) rfl (Yld.pure tab_ok rfl) ?_
      refine WL.y rfl (Yld.pickT (okb b11) rfl) ?_
      exact WL.weaken (by repeat (first | exact Sub.nil | refine Sub.cons rfl ?_)) (hQ _ _ ⟨decide (((s.getD 0 0).toNat : Int) = (45 : Int)), rfl, by rw [b11] <;> rfl, rfl⟩)
    · refine WL.gno rfl rfl (okb b11) rfl ?_
      refine WL.gno rfl rfl (okb b11) rfl ?_
      refine WL.gno rfl rfl (okb b11) rfl ?_
      refine WL.y rfl (Yld.pickF (okb b11) rfl) ?_
      exact WL.weaken (by repeat (first | exact Sub.nil | refine Sub.cons rfl ?_)) (hQ _ _ ⟨false, rfl, by rw [b11] <;> rfl, rfl⟩)

set_option maxHeartbeats 8000000 in
theorem W_smithyref9_Num_Text {w : World} {a_Neg : Bool} {a_L : List Int} {A_a_L : Option Addr} {c_a_L : Nat} {n_a_L : Nat} {K : (List UInt8) → Prop} (ha_L : Rd vi w A_a_L c_a_L a_L) (hn_a_L : n_a_L = a_L.length) (H : M_smithyref9_Num_Text a_Neg a_L K) : Fn Tryd.prog 33 ⟨[.agg ⟨[.bool a_Neg, .slice A_a_L n_a_L c_a_L]⟩]⟩ w (fun v w' => w.grownBy w' none ∧ ∃ (r : List UInt8), v = vs r ∧ K r) := by
  subst hn_a_L
  unfold M_smithyref9_Num_Text at H
  refine Fn.enter (by kernel_rfl) Tryd.func33 rfl Tryd.ntmps33 rfl ?_
  replace H := H (Nat.le_trans ha_L.cap ha_L.max)
  refine WC.seq ?_
  refine WC.region ?_
  refine WL.box (us := [.bool a_Neg, .slice A_a_L a_L.length c_a_L]) rfl rfl rfl (fun g1 w1 hB1 hg1 hl1 => ?_)
  have gr1 := hg1
  refine WL.y rfl (Yld.pure tab_ok rfl) ?_
  refine WL.nil (WX.then_normal ?_)
  refine WC.seq ?_
  refine WC.region ?_
  refine WL.y rfl (Yld.pure tab_ok rfl) ?_
  refine WL.nil (WX.then_normal ?_)
  refine WC.seq ?_
  refine WC.seq ?_
  refine WC.region ?_
  refine WL.y rfl (Yld.pure tab_ok rfl) ?_
  refine WL.y rfl (Yld.bload tab_ok hB1 rfl rfl rfl) ?_
  refine WL.y rfl (Yld.pure tab_ok rfl) ?_
  obtain ⟨h1, H⟩ := H
  refine WL.y rfl (Yld.sub rfl rfl h1) ?_
  refine WL.y rfl (Yld.pure tab_ok rfl) ?_
  refine WL.nil (WX.then_normal ?_)
  refine WC.block ?_
  obtain ⟨I1, mu1, h0_1, HR1⟩ := H
  refine WC.loopF (fun n' L' w' => ∃ (s : List UInt8), ∃ (i : Int), n' = mu1 s i ∧ L' = [(1, .pointer (some ⟨g1, 0, none⟩)), (3, vs s), (4, .int .i64 i)] ∧ I1 s i ∧ w1 = w') _ _ ⟨([] : List UInt8), (a_L.length : Int) - (1 : Int), rfl, rfl, h0_1, rfl⟩ (by repeat (first | exact Sub.nil | refine Sub.cons rfl ?_)) ?_
  clear h0_1
  rintro _ _ _ ⟨s, i, rfl, rfl, hI1, rfl⟩
  have H := HR1 s i hI1
  refine WC.seq ?_
  refine WC.seq ?_
  refine WC.region ?_
  refine WL.y rfl (Yld.pure tab_ok rfl) ?_
  refine WL.y rfl (Yld.pure tab_ok rfl) ?_
  refine WL.nil (WX.then_normal ?_)
  refine WC.cond rfl (fun b1 => ?_) (fun b1 => ?_)
  · replace H := H.1 (of_decide_eq_true b1)
    refine WC.skip (WX.then_normal ?_)
    refine WC.seq ?_
    refine WC.block ?_
    refine WC.region ?_
    refine WL.y rfl (Yld.pure tab_ok rfl) ?_
    refine WL.y rfl (Yld.pure tab_ok rfl) ?_
    refine WL.y rfl (Yld.bload tab_ok hB1 rfl rfl rfl) ?_
    refine WL.y rfl (Yld.pure tab_ok rfl) ?_
    obtain ⟨h2, H⟩ := H
    refine WL.y rfl (Yld.iaddrW tab_ok (ha_L.grown gr1) rfl rfl rfl rfl h2.1 h2.2) ?_
    refine WL.y rfl (Yld.iload 0 tab_ok (ha_L.grown gr1) rfl rfl (iltN h2 rfl)) ?_
    refine WL.call rfl rfl (W_smithyref9_four H) ?_
    rintro _ _ ⟨rfl, t20, rfl, H⟩
    obtain ⟨h3, H⟩ := H
    refine WL.y rfl (Yld.sadd rfl rfl h3) ?_
    refine WL.y rfl (Yld.pure tab_ok rfl) ?_
    refine WL.nil (WX.block_normal (WX.then_normal ?_))
    refine WC.region ?_
    refine WL.y rfl (Yld.pure tab_ok rfl) ?_
    obtain ⟨h4, H⟩ := H
    refine WL.y rfl (Yld.sub rfl rfl h4) ?_
    refine WL.y rfl (Yld.pure tab_ok rfl) ?_
    refine WL.nil ?_
    exact WX.roundF _ ⟨s ++ t20, i - (1 : Int), rfl, rfl, H.1, rfl⟩ (by repeat (first | exact Sub.nil | refine Sub.cons rfl ?_)) H.2
  · replace H := H.2 (of_decide_eq_false b1)
    refine WC.exit (WX.then_exit (WX.then_exit (WX.block_same (WX.then_normal ?_))))
    refine WC.seq ?_
    refine WC.region ?_
    refine WL.y rfl (Yld.pure tab_ok rfl) ?_
    refine WL.nil (WX.then_normal ?_)
    refine WC.seq ?_
    refine WC.block ?_
    obtain ⟨I2, mu2, h0_2, HR2⟩ := H
    refine WC.loopF (fun n' L' w' => ∃ (k : Int), n' = mu2 k ∧ L' = [(1, .pointer (some ⟨g1, 0, none⟩)), (3, vs s), (5, .int .i64 k)] ∧ I2 k ∧ w1 = w') _ _ ⟨(0 : Int), rfl, rfl, h0_2, rfl⟩ (by repeat (first | exact Sub.nil | refine Sub.cons rfl ?_)) ?_
    clear h0_2
    rintro _ _ _ ⟨k, rfl, rfl, hI2, rfl⟩
    have H := HR2 k hI2
    refine WC.seq ?_
    refine WC.seq ?_
    refine WC.region ?_
    refine WL.y rfl (Yld.pure tab_ok rfl) ?_
    refine WL.y rfl (Yld.pure tab_ok rfl) ?_
    refine WL.y rfl (Yld.pure tab_ok rfl) ?_
    refine WL.y rfl (Yld.pure tab_ok rfl) ?_
    refine WL.y rfl (Yld.pure tab_ok rfl) ?_
    obtain ⟨h5, H⟩ := H
    refine WL.midF 5 (fun L' w' => ∃ q1 : Bool, L' = [(31, .bool q1), (1, .pointer (some ⟨g1, 0, none⟩)), (3, vs s), (5, .int .i64 k)] ∧ q1 = ((decide (k < (s.length : Int))) && (decide (((s.getD k.toNat 0).toNat : Int) = (48 : Int)))) ∧ w1 = w') ?_ (fun hQ => ?_)
    · rintro _ _ ⟨q1, rfl, rfl, rfl⟩
      refine WL.nil (WX.then_normal ?_)
      refine WC.cond rfl (fun b2 => ?_) (fun b2 => ?_)
      · replace H := H.1 (b2)
        refine WC.skip (WX.then_normal ?_)
        refine WC.block ?_
        refine WC.region ?_
        refine WL.y rfl (Yld.pure tab_ok rfl) ?_
        obtain ⟨h6, H⟩ := H
        refine WL.y rfl (Yld.add rfl rfl h6) ?_
        refine WL.y rfl (Yld.pure tab_ok rfl) ?_
        refine WL.nil (WX.block_normal ?_)
        exact WX.roundF _ ⟨k + (1 : Int), rfl, rfl, H.1, rfl⟩ (by repeat (first | exact Sub.nil | refine Sub.cons rfl ?_)) H.2
      · replace H := H.2 (b2)
        refine WC.exit (WX.then_exit (WX.then_exit (WX.block_same (WX.then_normal ?_))))
        refine WC.seq ?_
        refine WC.region ?_
        refine WL.y rfl (Yld.pure tab_ok rfl) ?_
        refine WL.y rfl (Yld.pure tab_ok rfl) ?_
        obtain ⟨h7, H⟩ := H
        refine WL.y rfl (Yld.scutF tab_ok rfl rfl rfl h7.1 h7.2) ?_
        refine WL.y rfl (Yld.pure tab_ok rfl) ?_
        refine WL.nil (WX.then_normal ?_)
        refine WC.seq ?_
        refine WC.seq ?_
        refine WC.region ?_
        refine WL.y rfl (Yld.pure tab_ok rfl) ?_
        refine WL.y rfl (Yld.pure tab_ok rfl) ?_
        refine WL.nil (WX.then_normal ?_)
        refine WC.cond rfl (fun b3 => ?_) (fun b3 => ?_)
        · replace H := H.1 (of_decide_eq_true b3)
          refine WC.seq ?_
          refine WC.region ?_
          refine WL.y rfl (Yld.pure tab_ok rfl) ?_
          refine WL.nil (WX.then_normal ?_)
          refine WC.ret (WX.then_ret ?_)
          exact WX.ret1 rfl rfl ⟨gr1, ([48] : List UInt8), rfl, H⟩
        · replace H := H.2 (of_decide_eq_false b3)
          refine WC.skip (WX.then_normal ?_)
          refine WC.seq ?_
          refine WC.seq ?_
          refine WC.region ?_
          refine WL.y rfl (Yld.pure tab_ok rfl) ?_
          refine WL.y rfl (Yld.bload tab_ok hB1 rfl rfl rfl) ?_
          refine WL.nil (WX.then_normal ?_)
          refine WC.cond rfl (fun b4 => ?_) (fun b4 => ?_)
          · replace H := H.1 (b4)
            refine WC.seq ?_
            refine WC.region ?_
            refine WL.y rfl (Yld.pure tab_ok rfl) ?_
            obtain ⟨h8, H⟩ := H
            refine WL.y rfl (Yld.sadd rfl rfl h8) ?_
            refine WL.y rfl (Yld.pure tab_ok rfl) ?_
            refine WL.nil (WX.then_normal ?_)
            refine WC.ret (WX.then_ret ?_)
            exact WX.ret1 rfl rfl ⟨gr1, ([45] : List UInt8) ++ (s.drop k.toNat), rfl, H⟩
          · replace H := H.2 (b4)
            refine WC.skip (WX.then_normal ?_)
            refine WC.seq ?_
            refine WC.region ?_
            refine WL.y rfl (Yld.pure tab_ok rfl) ?_
            refine WL.y rfl (Yld.pure tab_ok rfl) ?_
            refine WL.nil (WX.then_normal ?_)
            refine WC.ret ?_
            exact WX.ret1 rfl rfl ⟨gr1, s.drop k.toNat, rfl, H⟩
    · clear H
      rcases Bool.eq_false_or_eq_true (decide (k < (s.length : Int))) with b5 | b5
      · refine WL.gyes rfl rfl (okb b5) rfl (Yld.pure tab_ok rfl) ?_
        refine WL.gyes rfl rfl (okb b5) rfl (Yld.pure tab_ok rfl) ?_
        refine WL.gyes rfl rfl (okb b5) rfl (Yld.sidx tab_ok rfl rfl rfl (h5 b5).1 (h5 b5).2) ?_
        refine WL.gyes rfl rfl (okb b5) rfl (Yld.pure tab_ok rfl) ?_
        refine WL.y rfl (Yld.pickT (okb b5) rfl) ?_
        exact WL.weaken (by repeat (first | exact Sub.nil | refine Sub.cons rfl ?_)) (hQ _ _ ⟨decide (((s.getD k.toNat 0).toNat : Int) = (48 : Int)), rfl, by rw [b5] <;> rfl, rfl⟩)
      · refine WL.gno rfl rfl (okb b5) rfl ?_
        refine WL.gno rfl rfl (okb b5) rfl ?_
        refine WL.gno rfl rfl (okb b5) rfl ?_
        refine WL.gno rfl rfl (okb b5) rfl ?_
        refine WL.y rfl (Yld.pickF (okb b5) rfl) ?_
        exact WL.weaken (by repeat (first | exact Sub.nil | refine Sub.cons rfl ?_)) (hQ _ _ ⟨false, rfl, by rw [b5] <;> rfl, rfl⟩)

set_option maxHeartbeats 8000000 in
theorem W_smithyref9_Num_Digits {w : World} {a_Neg : Bool} {a_L : List Int} {A_a_L : Option Addr} {c_a_L : Nat} {n_a_L : Nat} {K : Int → Prop} (ha_L : Rd vi w A_a_L c_a_L a_L) (hn_a_L : n_a_L = a_L.length) (H : M_smithyref9_Num_Digits a_Neg a_L K) : Fn Tryd.prog 42 ⟨[.agg ⟨[.bool a_Neg, .slice A_a_L n_a_L c_a_L]⟩]⟩ w (fun v w' => w.grownBy w' none ∧ ∃ (r : Int), v = .int .i64 r ∧ K r) := by
  subst hn_a_L
  unfold M_smithyref9_Num_Digits at H
  refine Fn.enter (by kernel_rfl) Tryd.func42 rfl Tryd.ntmps42 rfl ?_
  replace H := H (Nat.le_trans ha_L.cap ha_L.max)
  refine WC.seq ?_
  refine WC.region ?_
  refine WL.box (us := [.bool a_Neg, .slice A_a_L a_L.length c_a_L]) rfl rfl rfl (fun g1 w1 hB1 hg1 hl1 => ?_)
  have gr1 := hg1
  refine WL.y rfl (Yld.pure tab_ok rfl) ?_
  refine WL.nil (WX.then_normal ?_)
  refine WC.seq ?_
  refine WC.region ?_
  refine WL.y rfl (Yld.bagg (vs := [.bool a_Neg, .slice A_a_L a_L.length c_a_L]) tab_ok hB1 rfl rfl rfl rfl) ?_
  refine WL.call rfl rfl (W_smithyref9_Num_Text (ha_L.grown gr1) rfl H) ?_
  rintro _ w2 ⟨hg2, t5, rfl, H⟩
  have gr2 := gr_trans gr1 hg2
  have k1 := hB1.g0 hg2
  refine WL.y rfl (Yld.pure tab_ok rfl) ?_
  refine WL.y rfl (Yld.pure tab_ok rfl) ?_
  refine WL.nil (WX.then_normal ?_)
  refine WC.seq ?_
  refine WC.seq ?_
  refine WC.region ?_
  refine WL.y rfl (Yld.pure tab_ok rfl) ?_
  refine WL.y rfl (Yld.bload tab_ok k1 rfl rfl rfl) ?_
  refine WL.nil (WX.then_normal ?_)
  refine WC.cond rfl (fun b1 => ?_) (fun b1 => ?_)
  · replace H := H.1 (b1)
    refine WC.seq ?_
    refine WC.region ?_
    refine WL.y rfl (Yld.pure tab_ok rfl) ?_
    obtain ⟨h1, H⟩ := H
    refine WL.y rfl (Yld.sub rfl rfl h1) ?_
    refine WL.y rfl (Yld.pure tab_ok rfl) ?_
    refine WL.nil (WX.then_normal ?_)
    refine WC.ret (WX.then_ret ?_)
    exact WX.ret1 rfl rfl ⟨gr2, (t5.length : Int) - (1 : Int), rfl, H⟩
  · replace H := H.2 (b1)
    refine WC.skip (WX.then_normal ?_)
    refine WC.seq ?_
    refine WC.region ?_
    refine WL.y rfl (Yld.pure tab_ok rfl) ?_
    refine WL.y rfl (Yld.pure tab_ok rfl) ?_
    refine WL.nil (WX.then_normal ?_)
    refine WC.ret ?_
    exact WX.ret1 rfl rfl ⟨gr2, (t5.length : Int), rfl, H⟩

set_option maxHeartbeats 8000000 in
theorem W_smithyref9_Num_Negate {w : World} {a_Neg : Bool} {a_L : List Int} {A_a_L : Option Addr} {c_a_L : Nat} {n_a_L : Nat} {K : Bool → (List Int) → Prop} (ha_L : Rd vi w A_a_L c_a_L a_L) (hn_a_L : n_a_L = a_L.length) (H : M_smithyref9_Num_Negate a_Neg a_L K) : Fn Tryd.prog 39 ⟨[.agg ⟨[.bool a_Neg, .slice A_a_L n_a_L c_a_L]⟩]⟩ w (fun v w' => w.grownBy w' none ∧ ∃ (r_Neg : Bool), ∃ (r_L : List Int), ∃ (A_r_L : Option Addr), ∃ (c_r_L : Nat), v = .agg ⟨[.bool r_Neg, .slice A_r_L r_L.length c_r_L]⟩ ∧ Rd vi w' A_r_L c_r_L r_L ∧ Orig (r_L ≠ []) (blk A_r_L) w.heap.size [(a_L ≠ [], blk A_a_L)] ∧ K r_Neg r_L) := by
  subst hn_a_L
  unfold M_smithyref9_Num_Negate at H
  refine Fn.enter (by kernel_rfl) Tryd.func39 rfl Tryd.ntmps39 rfl ?_
  replace H := H (Nat.le_trans ha_L.cap ha_L.max)
  refine WC.seq ?_
  refine WC.region ?_
  refine WL.box (us := [.bool a_Neg, .slice A_a_L a_L.length c_a_L]) rfl rfl rfl (fun g1 w1 hB1 hg1 hl1 => ?_)
  have gr1 := hg1
  refine WL.alloc rfl zero56 (fun g2 w2 hB2 hg2 hl2 => ?_)
  have gr2 := gr_trans gr1 hg2
  have k1 := hB1.g0 hg2
  refine WL.nil (WX.then_normal ?_)
  refine WC.seq ?_
  refine WC.region ?_
  refine WL.y rfl (Yld.pure tab_ok rfl) ?_
  refine WL.y rfl (Yld.bload tab_ok k1 rfl rfl rfl) ?_
  refine WL.y rfl (Yld.pure tab_ok rfl) ?_
  refine WL.y rfl (Yld.pure tab_ok rfl) ?_
  refine WL.y rfl (Yld.bload tab_ok k1 rfl rfl rfl) ?_
  refine WL.call rfl rfl (W_smithyref9_trim (ha_L.grown gr2) rfl H) ?_
  rintro _ w3 ⟨hg3, t8_Neg, t8_L, A_t8_L, c_t8_L, rfl, ht8_L, ho1, H⟩
  have gr3 := gr_trans gr2 hg3
  have k2 := hB2.g0 hg3
  refine WL.storeW (vs := [.bool t8_Neg, .slice A_t8_L t8_L.length c_t8_L]) tab_ok rfl rfl rfl (all1c rfl (all1c rfl all1n)) k2 rfl rfl (fun w4 hB3 hg4 => ?_)
  have gr4 := gr_mod gr3 hg4 (Ge.le (Ge.box hl2) (size_le gr1))
  have k3 := ht8_L.go hg4 (Orig.apart ho1 hB2.lt' (orC (Dn.new (fun hx => ha_L.lt' hx) (Ge.le (Ge.box hl2) (size_le gr1))) orN))
  refine WL.nil (WX.then_normal ?_)
  refine WC.ret ?_
  exact WX.retc tab_ok rfl rfl rfl hB3 rfl ⟨gr4, t8_Neg, t8_L, A_t8_L, c_t8_L, rfl, k3, (Orig.trans ho1 (size_le gr2) (orC (Orig.par (List.Mem.head _)) orN)), H⟩

set_option maxHeartbeats 8000000 in
theorem W_smithyref9_Num_Add {w : World} {a_Neg : Bool} {a_L : List Int} {A_a_L : Option Addr} {c_a_L : Nat} {b_Neg : Bool} {b_L : List Int} {A_b_L : Option Addr} {c_b_L : Nat} {n_a_L : Nat} {n_b_L : Nat} {K : Bool → (List Int) → Prop} (ha_L : Rd vi w A_a_L c_a_L a_L) (hn_a_L : n_a_L = a_L.length) (hb_L : Rd vi w A_b_L c_b_L b_L) (hn_b_L : n_b_L = b_L.length) (H : M_smithyref9_Num_Add a_Neg a_L b_Neg b_L K) : Fn Tryd.prog 36 ⟨[.agg ⟨[.bool a_Neg, .slice A_a_L n_a_L c_a_L]⟩, .agg ⟨[.bool b_Neg, .slice A_b_L n_b_L c_b_L]⟩]⟩ w (fun v w' => w.grownBy w' none ∧ ∃ (r_Neg : Bool), ∃ (r_L : List Int), ∃ (A_r_L : Option Addr), ∃ (c_r_L : Nat), v = .agg ⟨[.bool r_Neg, .slice A_r_L r_L.length c_r_L]⟩ ∧ Rd vi w' A_r_L c_r_L r_L ∧ Orig (r_L ≠ []) (blk A_r_L) w.heap.size [(a_L ≠ [], blk A_a_L), (b_L ≠ [], blk A_b_L)] ∧ K r_Neg r_L) := by
  subst hn_a_L
  subst hn_b_L
  unfold M_smithyref9_Num_Add at H
  refine Fn.enter (by kernel_rfl) Tryd.func36 rfl Tryd.ntmps36 rfl ?_
  replace H := H (Nat.le_trans ha_L.cap ha_L.max)
  replace H := H (Nat.le_trans hb_L.cap hb_L.max)
  refine WC.seq ?_
  refine WC.region ?_
  refine WL.box (us := [.bool a_Neg, .slice A_a_L a_L.length c_a_L]) rfl rfl rfl (fun g1 w1 hB1 hg1 hl1 => ?_)
  have gr1 := hg1
  refine WL.box (us := [.bool b_Neg, .slice A_b_L b_L.length c_b_L]) rfl rfl rfl (fun g2 w2 hB2 hg2 hl2 => ?_)
  have gr2 := gr_trans gr1 hg2
  have k1 := hB1.g0 hg2
  refine WL.alloc rfl zero56 (fun g3 w3 hB3 hg3 hl3 => ?_)
  have gr3 := gr_trans gr2 hg3
  have k2 := k1.g0 hg3
  have k3 := hB2.g0 hg3
  refine WL.nil (WX.then_normal ?_)
  refine WC.seq ?_
  refine WC.seq ?_
  refine WC.region ?_
  refine WL.y rfl (Yld.pure tab_ok rfl) ?_
  refine WL.y rfl (Yld.bload tab_ok k2 rfl rfl rfl) ?_
  refine WL.y rfl (Yld.pure tab_ok rfl) ?_
  refine WL.y rfl (Yld.bload tab_ok k3 rfl rfl rfl) ?_
  refine WL.y rfl (Yld.beql Tryd.underlying4 rfl rfl) ?_
  refine WL.nil (WX.then_normal ?_)
  refine WC.cond rfl (fun b1 => ?_) (fun b1 => ?_)
  · replace H := H.1 (b1)
    refine WC.seq ?_
    refine WC.chainF (fun k => !(Nat.beq k 6 || Nat.beq k 7 || Nat.beq k 8)) (LD [1, 3, 5] (fun w' => Bl w' g1 56 [.bool a_Neg, .slice A_a_L a_L.length c_a_L] ∧ Bl w' g2 56 [.bool b_Neg, .slice A_b_L b_L.length c_b_L])) mixed (by kernel_rfl) (fun k w' h _ => ⟨(bl_eqv h k2), (bl_eqv h k3)⟩) ?_
    refine WJ.y rfl rfl (fun w' hw' => Yld.pure tab_ok rfl) ?_
    refine WJ.y rfl rfl (fun w' hw' => Yld.bload tab_ok (hw' rfl).1 rfl rfl rfl) ?_
    refine WJ.y rfl rfl (fun w' hw' => Yld.pure tab_ok rfl) ?_
    refine WJ.y rfl rfl (fun w' hw' => Yld.bload tab_ok (hw' rfl).1 rfl rfl rfl) ?_
    refine WJ.y rfl rfl (fun w' hw' => Yld.pure tab_ok rfl) ?_
    refine WJ.y rfl rfl (fun w' hw' => Yld.bload tab_ok (hw' rfl).2 rfl rfl rfl) ?_
    refine WJ.call rfl (wants_none) rfl rfl (W_smithyref9_sum (ha_L.grown gr3) rfl (hb_L.grown gr3) rfl H) (fun v w' h w2 e => DD.keep (⟨(Bl.g0 k2 (gr_eqv h.1 e)), (Bl.g0 k3 (gr_eqv h.1 e))⟩)) ?_
    rintro _ w4 ⟨hg4, t16, A_t16, c_t16, rfl, ht16, H⟩
    have hb1 := ht16.ge'
    have k4 := ht16.base (fun g hg => Nat.le_trans (size_le gr3) (hb1 g hg))
    have gr4 := gr_trans gr3 hg4
    have k5 := k2.g0 hg4
    have k6 := k3.g0 hg4
    have k7 := hB3.g0 hg4
    refine WJ.call rfl (wants_none) rfl rfl (W_smithyref9_trim k4.rd rfl H) (fun v w' h w2 e => DD.keep (⟨(Bl.g0 k5 (gr_eqv h.1 e)), (Bl.g0 k6 (gr_eqv h.1 e))⟩)) ?_
    rintro _ w5 ⟨hg5, t17_Neg, t17_L, A_t17_L, c_t17_L, rfl, ht17_L, ho1, H⟩
    have gr5 := gr_trans gr4 hg5
    have k8 := k5.g0 hg5
    have k9 := k6.g0 hg5
    have k10 := k7.g0 hg5
    refine WJ.eff rfl (Ef0.storeW (vs := [.bool t17_Neg, .slice A_t17_L t17_L.length c_t17_L]) tab_ok rfl rfl rfl (all1c rfl (all1c rfl all1n)) k10 rfl rfl) (fun w' h => DD.keep (⟨(Bl.go k8 (gr_eqv h.2 (Eqv.refl _)) (Dj.new k1.lt' (Ge.box hl3))), (Bl.go k9 (gr_eqv h.2 (Eqv.refl _)) (Dj.new hB2.lt' (Ge.box hl3)))⟩)) ?_
    rintro w6 ⟨hB4, hg6⟩
    have gr6 := gr_mod gr5 hg6 (Ge.le (Ge.box hl3) (size_le gr2))
    have k11 := k8.go hg6 (Dj.new k1.lt' (Ge.box hl3))
    have k12 := k9.go hg6 (Dj.new hB2.lt' (Ge.box hl3))
    have k13 := ht17_L.go hg6 (Orig.apart ho1 k7.lt' (orC (Dn.of (Dj.new hB3.lt' hb1).symm) orN))
    refine WJ.nil (WX.then_normal ?_)
    refine WC.ret (WX.then_ret ?_)
    exact WX.retc tab_ok rfl rfl rfl hB4 rfl ⟨gr6, t17_Neg, t17_L, A_t17_L, c_t17_L, rfl, k13, (Orig.trans ho1 (size_le gr4) (orC (Orig.new k4.ge') orN)), H⟩
  · replace H := H.2 (b1)
    refine WC.skip (WX.then_normal ?_)
    refine WC.seq ?_
    refine WC.seq ?_
    refine WC.region ?_
    refine WL.y rfl (Yld.pure tab_ok rfl) ?_
    refine WL.y rfl (Yld.bload tab_ok k2 rfl rfl rfl) ?_
    refine WL.y rfl (Yld.pure tab_ok rfl) ?_
    refine WL.y rfl (Yld.bload tab_ok k3 rfl rfl rfl) ?_
    refine WL.call rfl rfl (W_smithyref9_size (ha_L.grown gr3) rfl (hb_L.grown gr3) rfl H) ?_
    rintro _ _ ⟨rfl, t22, rfl, H⟩
    refine WL.y rfl (Yld.pure tab_ok rfl) ?_
    refine WL.nil (WX.then_normal ?_)
    refine WC.cond rfl (fun b2 => ?_) (fun b2 => ?_)
    · replace H := H.1 (of_decide_eq_true b2)
      refine WC.seq ?_
      refine WC.chainF (fun k => !(Nat.beq k 6 || Nat.beq k 7 || Nat.beq k 8)) (LD [1, 3, 5] (fun w' => Bl w' g1 56 [.bool a_Neg, .slice A_a_L a_L.length c_a_L] ∧ Bl w' g2 56 [.bool b_Neg, .slice A_b_L b_L.length c_b_L])) mixed (by kernel_rfl) (fun k w' h _ => ⟨(bl_eqv h k2), (bl_eqv h k3)⟩) ?_
      refine WJ.y rfl rfl (fun w' hw' => Yld.pure tab_ok rfl) ?_
      refine WJ.y rfl rfl (fun w' hw' => Yld.bload tab_ok (hw' rfl).1 rfl rfl rfl) ?_
      refine WJ.y rfl rfl (fun w' hw' => Yld.pure tab_ok rfl) ?_
      refine WJ.y rfl rfl (fun w' hw' => Yld.bload tab_ok (hw' rfl).1 rfl rfl rfl) ?_
      refine WJ.y rfl rfl (fun w' hw' => Yld.pure tab_ok rfl) ?_
      refine WJ.y rfl rfl (fun w' hw' => Yld.bload tab_ok (hw' rfl).2 rfl rfl rfl) ?_
      refine WJ.call rfl (wants_none) rfl rfl (W_smithyref9_less (ha_L.grown gr3) rfl (hb_L.grown gr3) rfl H) (fun v w' h w2 e => DD.keep (⟨(Bl.g0 k2 (gr_eqv h.1 e)), (Bl.g0 k3 (gr_eqv h.1 e))⟩)) ?_
      rintro _ w7 ⟨hg7, t30, A_t30, c_t30, rfl, ht30, H⟩
      have hb2 := ht30.ge'
      have k14 := ht30.base (fun g hg => Nat.le_trans (size_le gr3) (hb2 g hg))
      have gr7 := gr_trans gr3 hg7
      have k15 := k2.g0 hg7
      have k16 := k3.g0 hg7
      have k17 := hB3.g0 hg7
      refine WJ.call rfl (wants_none) rfl rfl (W_smithyref9_trim k14.rd rfl H) (fun v w' h w2 e => DD.keep (⟨(Bl.g0 k15 (gr_eqv h.1 e)), (Bl.g0 k16 (gr_eqv h.1 e))⟩)) ?_
      rintro _ w8 ⟨hg8, t31_Neg, t31_L, A_t31_L, c_t31_L, rfl, ht31_L, ho2, H⟩
      have gr8 := gr_trans gr7 hg8
      have k18 := k15.g0 hg8
      have k19 := k16.g0 hg8
      have k20 := k17.g0 hg8
      refine WJ.eff rfl (Ef0.storeW (vs := [.bool t31_Neg, .slice A_t31_L t31_L.length c_t31_L]) tab_ok rfl rfl rfl (all1c rfl (all1c rfl all1n)) k20 rfl rfl) (fun w' h => DD.keep (⟨(Bl.go k18 (gr_eqv h.2 (Eqv.refl _)) (Dj.new k1.lt' (Ge.box hl3))), (Bl.go k19 (gr_eqv h.2 (Eqv.refl _)) (Dj.new hB2.lt' (Ge.box hl3)))⟩)) ?_
      rintro w9 ⟨hB5, hg9⟩
      have gr9 := gr_mod gr8 hg9 (Ge.le (Ge.box hl3) (size_le gr2))
      have k21 := k18.go hg9 (Dj.new k1.lt' (Ge.box hl3))
      have k22 := k19.go hg9 (Dj.new hB2.lt' (Ge.box hl3))
      have k23 := ht31_L.go hg9 (Orig.apart ho2 k17.lt' (orC (Dn.of (Dj.new hB3.lt' hb2).symm) orN))
      refine WJ.nil (WX.then_normal ?_)
      refine WC.ret (WX.then_ret ?_)
      exact WX.retc tab_ok rfl rfl rfl hB5 rfl ⟨gr9, t31_Neg, t31_L, A_t31_L, c_t31_L, rfl, k23, (Orig.trans ho2 (size_le gr7) (orC (Orig.new k14.ge') orN)), H⟩
    · replace H := H.2 (of_decide_eq_false b2)
      refine WC.skip (WX.then_normal ?_)
      refine WC.seq ?_
      refine WC.chainF (fun k => !(Nat.beq k 6 || Nat.beq k 7 || Nat.beq k 8)) (LD [1, 3, 5] (fun w' => Bl w' g2 56 [.bool b_Neg, .slice A_b_L b_L.length c_b_L] ∧ Bl w' g1 56 [.bool a_Neg, .slice A_a_L a_L.length c_a_L])) mixed (by kernel_rfl) (fun k w' h _ => ⟨(bl_eqv h k3), (bl_eqv h k2)⟩) ?_
      refine WJ.y rfl rfl (fun w' hw' => Yld.pure tab_ok rfl) ?_
      refine WJ.y rfl rfl (fun w' hw' => Yld.bload tab_ok (hw' rfl).1 rfl rfl rfl) ?_
      refine WJ.y rfl rfl (fun w' hw' => Yld.pure tab_ok rfl) ?_
      refine WJ.y rfl rfl (fun w' hw' => Yld.bload tab_ok (hw' rfl).1 rfl rfl rfl) ?_
      refine WJ.y rfl rfl (fun w' hw' => Yld.pure tab_ok rfl) ?_
      refine WJ.y rfl rfl (fun w' hw' => Yld.bload tab_ok (hw' rfl).2 rfl rfl rfl) ?_
      refine WJ.call rfl (wants_none) rfl rfl (W_smithyref9_less (hb_L.grown gr3) rfl (ha_L.grown gr3) rfl H) (fun v w' h w2 e => DD.keep (⟨(Bl.g0 k3 (gr_eqv h.1 e)), (Bl.g0 k2 (gr_eqv h.1 e))⟩)) ?_
      rintro _ w10 ⟨hg10, t38, A_t38, c_t38, rfl, ht38, H⟩
      have hb3 := ht38.ge'
      have k24 := ht38.base (fun g hg => Nat.le_trans (size_le gr3) (hb3 g hg))
      have gr10 := gr_trans gr3 hg10
      have k25 := k2.g0 hg10
      have k26 := k3.g0 hg10
      have k27 := hB3.g0 hg10
      refine WJ.call rfl (wants_none) rfl rfl (W_smithyref9_trim k24.rd rfl H) (fun v w' h w2 e => DD.keep (⟨(Bl.g0 k26 (gr_eqv h.1 e)), (Bl.g0 k25 (gr_eqv h.1 e))⟩)) ?_
      rintro _ w11 ⟨hg11, t39_Neg, t39_L, A_t39_L, c_t39_L, rfl, ht39_L, ho3, H⟩
      have gr11 := gr_trans gr10 hg11
      have k28 := k25.g0 hg11
      have k29 := k26.g0 hg11
      have k30 := k27.g0 hg11
      refine WJ.eff rfl (Ef0.storeW (vs := [.bool t39_Neg, .slice A_t39_L t39_L.length c_t39_L]) tab_ok rfl rfl rfl (all1c rfl (all1c rfl all1n)) k30 rfl rfl) (fun w' h => DD.keep (⟨(Bl.go k29 (gr_eqv h.2 (Eqv.refl _)) (Dj.new hB2.lt' (Ge.box hl3))), (Bl.go k28 (gr_eqv h.2 (Eqv.refl _)) (Dj.new k1.lt' (Ge.box hl3)))⟩)) ?_
      rintro w12 ⟨hB6, hg12⟩
      have gr12 := gr_mod gr11 hg12 (Ge.le (Ge.box hl3) (size_le gr2))
      have k31 := k28.go hg12 (Dj.new k1.lt' (Ge.box hl3))
      have k32 := k29.go hg12 (Dj.new hB2.lt' (Ge.box hl3))
      have k33 := ht39_L.go hg12 (Orig.apart ho3 k27.lt' (orC (Dn.of (Dj.new hB3.lt' hb3).symm) orN))
      refine WJ.nil (WX.then_normal ?_)
      refine WC.ret ?_
      exact WX.retc tab_ok rfl rfl rfl hB6 rfl ⟨gr12, t39_Neg, t39_L, A_t39_L, c_t39_L, rfl, k33, (Orig.trans ho3 (size_le gr10) (orC (Orig.new k24.ge') orN)), H⟩

set_option maxHeartbeats 8000000 in
theorem W_smithyref9_Num_Sub {w : World} {a_Neg : Bool} {a_L : List Int} {A_a_L : Option Addr} {c_a_L : Nat} {b_Neg : Bool} {b_L : List Int} {A_b_L : Option Addr} {c_b_L : Nat} {n_a_L : Nat} {n_b_L : Nat} {K : Bool → (List Int) → Prop} (ha_L : Rd vi w A_a_L c_a_L a_L) (hn_a_L : n_a_L = a_L.length) (hb_L : Rd vi w A_b_L c_b_L b_L) (hn_b_L : n_b_L = b_L.length) (H : M_smithyref9_Num_Sub a_Neg a_L b_Neg b_L K) : Fn Tryd.prog 37 ⟨[.agg ⟨[.bool a_Neg, .slice A_a_L n_a_L c_a_L]⟩, .agg ⟨[.bool b_Neg, .slice A_b_L n_b_L c_b_L]⟩]⟩ w (fun v w' => w.grownBy w' none ∧ ∃ (r_Neg : Bool), ∃ (r_L : List Int), ∃ (A_r_L : Option Addr), ∃ (c_r_L : Nat), v = .agg ⟨[.bool r_Neg, .slice A_r_L r_L.length c_r_L]⟩ ∧ Rd vi w' A_r_L c_r_L r_L ∧ Orig (r_L ≠ []) (blk A_r_L) w.heap.size [(a_L ≠ [], blk A_a_L), (b_L ≠ [], blk A_b_L)] ∧ K r_Neg r_L) := by
  subst hn_a_L
  subst hn_b_L
  unfold M_smithyref9_Num_Sub at H
  refine Fn.enter (by kernel_rfl) Tryd.func37 rfl Tryd.ntmps37 rfl ?_
  replace H := H (Nat.le_trans ha_L.cap ha_L.max)
  replace H := H (Nat.le_trans hb_L.cap hb_L.max)
  refine WC.seq ?_
  refine WC.region ?_
  refine WL.box (us := [.bool a_Neg, .slice A_a_L a_L.length c_a_L]) rfl rfl rfl (fun g1 w1 hB1 hg1 hl1 => ?_)
  have gr1 := hg1
  refine WL.box (us := [.bool b_Neg, .slice A_b_L b_L.length c_b_L]) rfl rfl rfl (fun g2 w2 hB2 hg2 hl2 => ?_)
  have gr2 := gr_trans gr1 hg2
  have k1 := hB1.g0 hg2
  refine WL.alloc rfl zero56 (fun g3 w3 hB3 hg3 hl3 => ?_)
  have gr3 := gr_trans gr2 hg3
  have k2 := k1.g0 hg3
  have k3 := hB2.g0 hg3
  refine WL.nil (WX.then_normal ?_)
  refine WC.seq ?_
  refine WC.chainF (fun k => !(Nat.beq k 2 || Nat.beq k 3 || Nat.beq k 4)) (LD [0, 1] (fun w' => Bl w' g1 56 [.bool a_Neg, .slice A_a_L a_L.length c_a_L] ∧ Bl w' g2 56 [.bool b_Neg, .slice A_b_L b_L.length c_b_L])) mixed (by kernel_rfl) (fun k w' h _ => ⟨(bl_eqv h k2), (bl_eqv h k3)⟩) ?_
  refine WJ.y rfl rfl (fun w' hw' => Yld.bagg (vs := [.bool a_Neg, .slice A_a_L a_L.length c_a_L]) tab_ok (hw' rfl).1 rfl rfl rfl rfl) ?_
  refine WJ.y rfl rfl (fun w' hw' => Yld.bagg (vs := [.bool b_Neg, .slice A_b_L b_L.length c_b_L]) tab_ok (hw' rfl).2 rfl rfl rfl rfl) ?_
  refine WJ.call rfl (wants_none) rfl rfl (W_smithyref9_Num_Negate (hb_L.grown gr3) rfl H) (fun v w' h w2 e => DD.keep (⟨(Bl.g0 k2 (gr_eqv h.1 e)), (Bl.g0 k3 (gr_eqv h.1 e))⟩)) ?_
  rintro _ w4 ⟨hg4, t7_Neg, t7_L, A_t7_L, c_t7_L, rfl, ht7_L, ho1, H⟩
  have gr4 := gr_trans gr3 hg4
  have k4 := k2.g0 hg4
  have k5 := k3.g0 hg4
  have k6 := hB3.g0 hg4
  refine WJ.call rfl (wants_none) rfl rfl (W_smithyref9_Num_Add (ha_L.grown gr4) rfl ht7_L rfl H) (fun v w' h w2 e => DD.keep (⟨(Bl.g0 k4 (gr_eqv h.1 e)), (Bl.g0 k5 (gr_eqv h.1 e))⟩)) ?_
  rintro _ w5 ⟨hg5, t8_Neg, t8_L, A_t8_L, c_t8_L, rfl, ht8_L, ho2, H⟩
  have gr5 := gr_trans gr4 hg5
  have k7 := k4.g0 hg5
  have k8 := k5.g0 hg5
  have k9 := k6.g0 hg5
  refine WJ.eff rfl (Ef0.storeW (vs := [.bool t8_Neg, .slice A_t8_L t8_L.length c_t8_L]) tab_ok rfl rfl rfl (all1c rfl (all1c rfl all1n)) k9 rfl rfl) (fun w' h => DD.keep (⟨(Bl.go k7 (gr_eqv h.2 (Eqv.refl _)) (Dj.new k1.lt' (Ge.box hl3))), (Bl.go k8 (gr_eqv h.2 (Eqv.refl _)) (Dj.new hB2.lt' (Ge.box hl3)))⟩)) ?_
  rintro w6 ⟨hB4, hg6⟩
  have gr6 := gr_mod gr5 hg6 (Ge.le (Ge.box hl3) (size_le gr2))
  have k10 := k7.go hg6 (Dj.new k1.lt' (Ge.box hl3))
  have k11 := k8.go hg6 (Dj.new hB2.lt' (Ge.box hl3))
  have k12 := ht8_L.go hg6 (Orig.apart ho2 k6.lt' (orC (Dn.new (fun hx => ha_L.lt' hx) (Ge.le (Ge.box hl3) (size_le gr2))) (orC (Orig.apart ho1 hB3.lt' (orC (Dn.new (fun hx => hb_L.lt' hx) (Ge.le (Ge.box hl3) (size_le gr2))) orN)) orN)))
  refine WJ.nil (WX.then_normal ?_)
  refine WC.ret ?_
  exact WX.retc tab_ok rfl rfl rfl hB4 rfl ⟨gr6, t8_Neg, t8_L, A_t8_L, c_t8_L, rfl, k12, (Orig.trans ho2 (size_le gr4) (orC (Orig.par (List.Mem.head _)) (orC (Orig.trans ho1 (size_le gr3) (orC (Orig.par (List.Mem.tail _ (List.Mem.head _))) orN)) orN))), H⟩

set_option maxHeartbeats 8000000 in
theorem W_smithyref9_Num_Mul {w : World} {a_Neg : Bool} {a_L : List Int} {A_a_L : Option Addr} {c_a_L : Nat} {b_Neg : Bool} {b_L : List Int} {A_b_L : Option Addr} {c_b_L : Nat} {n_a_L : Nat} {n_b_L : Nat} {K : Bool → (List Int) → Prop} (ha_L : Rd vi w A_a_L c_a_L a_L) (hn_a_L : n_a_L = a_L.length) (hb_L : Rd vi w A_b_L c_b_L b_L) (hn_b_L : n_b_L = b_L.length) (H : M_smithyref9_Num_Mul a_Neg a_L b_Neg b_L K) : Fn Tryd.prog 38 ⟨[.agg ⟨[.bool a_Neg, .slice A_a_L n_a_L c_a_L]⟩, .agg ⟨[.bool b_Neg, .slice A_b_L n_b_L c_b_L]⟩]⟩ w (fun v w' => w.grownBy w' none ∧ ∃ (r_Neg : Bool), ∃ (r_L : List Int), ∃ (A_r_L : Option Addr), ∃ (c_r_L : Nat), v = .agg ⟨[.bool r_Neg, .slice A_r_L r_L.length c_r_L]⟩ ∧ Rd vi w' A_r_L c_r_L r_L ∧ Orig (r_L ≠ []) (blk A_r_L) w.heap.size [(a_L ≠ [], blk A_a_L), (b_L ≠ [], blk A_b_L)] ∧ K r_Neg r_L) := by
  subst hn_a_L
  subst hn_b_L
  unfold M_smithyref9_Num_Mul at H
  refine Fn.enter (by kernel_rfl) Tryd.func38 rfl Tryd.ntmps38 rfl ?_
  replace H := H (Nat.le_trans ha_L.cap ha_L.max)
  replace H := H (Nat.le_trans hb_L.cap hb_L.max)
  refine WC.seq ?_
  refine WC.region ?_
  refine WL.box (us := [.bool a_Neg, .slice A_a_L a_L.length c_a_L]) rfl rfl rfl (fun g1 w1 hB1 hg1 hl1 => ?_)
  have gr1 := hg1
  refine WL.box (us := [.bool b_Neg, .slice A_b_L b_L.length c_b_L]) rfl rfl rfl (fun g2 w2 hB2 hg2 hl2 => ?_)
  have gr2 := gr_trans gr1 hg2
  have k1 := hB1.g0 hg2
  refine WL.alloc rfl zero56 (fun g3 w3 hB3 hg3 hl3 => ?_)
  have gr3 := gr_trans gr2 hg3
  have k2 := k1.g0 hg3
  have k3 := hB2.g0 hg3
  refine WL.nil (WX.then_normal ?_)
  refine WC.seq ?_
  refine WC.region ?_
  refine WL.y rfl (Yld.pure tab_ok rfl) ?_
  refine WL.y rfl (Yld.bload tab_ok k2 rfl rfl rfl) ?_
  refine WL.y rfl (Yld.pure tab_ok rfl) ?_
  refine WL.y rfl (Yld.pure tab_ok rfl) ?_
  refine WL.y rfl (Yld.bload tab_ok k3 rfl rfl rfl) ?_
  refine WL.y rfl (Yld.pure tab_ok rfl) ?_
  obtain ⟨h1, H⟩ := H
  refine WL.y rfl (Yld.add rfl rfl h1) ?_
  obtain ⟨h2, H⟩ := H
  refine WL.y rfl (Yld.add rfl rfl h2) ?_
  obtain ⟨h3, H⟩ := H
  refine WL.makeZI (f := vi) (z := 0) (B := w.heap.size) tab_ok rfl rfl zero3 rfl rfl h3.1 h3.2.1 h3.2.2 (size_le gr3) (fun g4 w4 hO1 hg4 hl4 => ?_)
  have gr4 := gr_trans gr3 hg4
  have k4 := k2.g0 hg4
  have k5 := k3.g0 hg4
  have k6 := hB3.g0 hg4
  refine WL.y rfl (Yld.pure tab_ok rfl) ?_
  refine WL.nil (WX.then_normal ?_)
  refine WC.seq ?_
  refine WC.seq ?_
  refine WC.region ?_
  refine WL.y rfl (Yld.pure tab_ok rfl) ?_
  refine WL.nil (WX.then_normal ?_)
  refine WC.block ?_
  obtain ⟨I1, mu1, h0_1, HR1⟩ := H
  refine WC.loopF (fun n' L' w' => ∃ (i : Int), ∃ (l : List Int), n' = mu1 i l ∧ L' = [(2, .pointer (some ⟨g1, 0, none⟩)), (3, .pointer (some ⟨g2, 0, none⟩)), (4, .pointer (some ⟨g3, 0, none⟩)), (5, .slice (some ⟨g4, 0, none⟩) ((((a_L.length : Int) + (b_L.length : Int)) + (1 : Int)).toNat) ((((a_L.length : Int) + (b_L.length : Int)) + (1 : Int)).toNat)), (6, .int .i64 i)] ∧ I1 i l ∧ (((a_L.length : Int) + (b_L.length : Int)) + (1 : Int)).toNat = l.length ∧ w.grownBy w' none ∧ Bl w' g1 56 [.bool a_Neg, .slice A_a_L a_L.length c_a_L] ∧ Bl w' g2 56 [.bool b_Neg, .slice A_b_L b_L.length c_b_L] ∧ Bl w' g3 56 [.bool false, .slice none 0 0] ∧ Own vi w' w.heap.size 3 (some ⟨g4, 0, none⟩) ((((a_L.length : Int) + (b_L.length : Int)) + (1 : Int)).toNat) l ∧ Dj (some g1) (some g2) ∧ Dj (some g1) (some g3) ∧ Dj (some g1) (blk (some ⟨g4, 0, none⟩)) ∧ Dj (some g2) (some g3) ∧ Dj (some g2) (blk (some ⟨g4, 0, none⟩)) ∧ Dj (some g3) (blk (some ⟨g4, 0, none⟩))) _ _ ⟨(0 : Int), (List.replicate (((a_L.length : Int) + (b_L.length : Int)) + (1 : Int)).toNat 0), rfl, rfl, h0_1, (List.length_replicate).symm, gr4, k4, k5, k6, hO1, (Dj.new hB1.lt' (Ge.box hl2)), (Dj.new k1.lt' (Ge.box hl3)), (Dj.new k2.lt' (Ge.box hl4)), (Dj.new hB2.lt' (Ge.box hl3)), (Dj.new k3.lt' (Ge.box hl4)), (Dj.new hB3.lt' (Ge.box hl4))⟩ (by repeat (first | exact Sub.nil | refine Sub.cons rfl ?_)) ?_
  clear h0_1
  rintro _ _ w5 ⟨i, l, rfl, rfl, hI1, hn_l, gr5, k7, k8, k9, k10, dj1, dj2, dj3, dj4, dj5, dj6⟩
  have H := HR1 i l hI1
  replace H := H hn_l
  refine WC.seq ?_
  refine WC.seq ?_
  refine WC.region ?_
  refine WL.y rfl (Yld.pure tab_ok rfl) ?_
  refine WL.y rfl (Yld.pure tab_ok rfl) ?_
  refine WL.y rfl (Yld.bload tab_ok k7 rfl rfl rfl) ?_
  refine WL.y rfl (Yld.pure tab_ok rfl) ?_
  refine WL.y rfl (Yld.pure tab_ok rfl) ?_
  refine WL.nil (WX.then_normal ?_)
  refine WC.cond rfl (fun b1 => ?_) (fun b1 => ?_)
  · replace H := H.1 (of_decide_eq_true b1)
    refine WC.skip (WX.then_normal ?_)
    refine WC.seq ?_
    refine WC.block ?_
    refine WC.seq ?_
    refine WC.region ?_
    refine WL.y rfl (Yld.pure tab_ok rfl) ?_
    refine WL.nil (WX.then_normal ?_)
    refine WC.seq ?_
    refine WC.region ?_
    refine WL.y rfl (Yld.pure tab_ok rfl) ?_
    refine WL.nil (WX.then_normal ?_)
    refine WC.block ?_
    obtain ⟨I2, mu2, h0_2, HR2⟩ := H
    refine WC.loopF (fun n' L' w' => ∃ (carry : Int), ∃ (k : Int), ∃ (l2 : List Int), n' = mu2 carry k l2 ∧ L' = [(2, .pointer (some ⟨g1, 0, none⟩)), (3, .pointer (some ⟨g2, 0, none⟩)), (4, .pointer (some ⟨g3, 0, none⟩)), (5, .slice (some ⟨g4, 0, none⟩) ((((a_L.length : Int) + (b_L.length : Int)) + (1 : Int)).toNat) ((((a_L.length : Int) + (b_L.length : Int)) + (1 : Int)).toNat)), (6, .int .i64 i), (7, .int .i64 carry), (8, .int .i64 k)] ∧ I2 carry k l2 ∧ (((a_L.length : Int) + (b_L.length : Int)) + (1 : Int)).toNat = l2.length ∧ w.grownBy w' none ∧ Bl w' g1 56 [.bool a_Neg, .slice A_a_L a_L.length c_a_L] ∧ Bl w' g2 56 [.bool b_Neg, .slice A_b_L b_L.length c_b_L] ∧ Bl w' g3 56 [.bool false, .slice none 0 0] ∧ Own vi w' w.heap.size 3 (some ⟨g4, 0, none⟩) ((((a_L.length : Int) + (b_L.length : Int)) + (1 : Int)).toNat) l2 ∧ Dj (some g1) (some g2) ∧ Dj (some g1) (some g3) ∧ Dj (some g1) (blk (some ⟨g4, 0, none⟩)) ∧ Dj (some g2) (some g3) ∧ Dj (some g2) (blk (some ⟨g4, 0, none⟩)) ∧ Dj (some g3) (blk (some ⟨g4, 0, none⟩))) _ _ ⟨(0 : Int), (0 : Int), l, rfl, rfl, h0_2, hn_l, gr5, k7, k8, k9, k10, dj1, dj2, dj3, dj4, dj5, dj6⟩ (by repeat (first | exact Sub.nil | refine Sub.cons rfl ?_)) ?_
    clear h0_2
    rintro _ _ w6 ⟨carry, k, l2, rfl, rfl, hI2, hn_l2, gr6, k11, k12, k13, k14, dj7, dj8, dj9, dj10, dj11, dj12⟩
    have H := HR2 carry k l2 hI2
    replace H := H hn_l2
    refine WC.seq ?_
    refine WC.seq ?_
    refine WC.region ?_
    refine WL.y rfl (Yld.pure tab_ok rfl) ?_
    refine WL.y rfl (Yld.pure tab_ok rfl) ?_
    refine WL.y rfl (Yld.bload tab_ok k12 rfl rfl rfl) ?_
    refine WL.y rfl (Yld.pure tab_ok rfl) ?_
    refine WL.y rfl (Yld.pure tab_ok rfl) ?_
    refine WL.y rfl (Yld.pure tab_ok rfl) ?_
    refine WL.midF 3 (fun L' w' => ∃ q1 : Bool, L' = [(34, .bool q1), (2, .pointer (some ⟨g1, 0, none⟩)), (3, .pointer (some ⟨g2, 0, none⟩)), (4, .pointer (some ⟨g3, 0, none⟩)), (5, .slice (some ⟨g4, 0, none⟩) ((((a_L.length : Int) + (b_L.length : Int)) + (1 : Int)).toNat) ((((a_L.length : Int) + (b_L.length : Int)) + (1 : Int)).toNat)), (6, .int .i64 i), (7, .int .i64 carry), (8, .int .i64 k)] ∧ q1 = ((decide (k < (b_L.length : Int))) || (decide ((0 : Int) < carry))) ∧ w6 = w') ?_ (fun hQ => ?_)
    · rintro _ _ ⟨q1, rfl, rfl, rfl⟩
      refine WL.nil (WX.then_normal ?_)
      refine WC.cond rfl (fun b2 => ?_) (fun b2 => ?_)
      · replace H := H.1 (b2)
        refine WC.skip (WX.then_normal ?_)
        refine WC.seq ?_
        refine WC.block ?_
        refine WC.seq ?_
        refine WC.region ?_
        refine WL.y rfl (Yld.pure tab_ok rfl) ?_
        refine WL.y rfl (Yld.pure tab_ok rfl) ?_
        refine WL.y rfl (Yld.pure tab_ok rfl) ?_
        obtain ⟨h4, H⟩ := H
        refine WL.y rfl (Yld.add rfl rfl h4) ?_
        obtain ⟨h5, H⟩ := H
        refine WL.y rfl (Yld.iaddrW tab_ok k14.rd rfl rfl hn_l2 rfl h5.1 h5.2) ?_
        refine WL.y rfl (Yld.iload 0 tab_ok k14.rd rfl rfl (iltN h5 hn_l2)) ?_
        refine WL.y rfl (Yld.pure tab_ok rfl) ?_
        obtain ⟨h6, H⟩ := H
        refine WL.y rfl (Yld.add rfl rfl h6) ?_
        refine WL.y rfl (Yld.pure tab_ok rfl) ?_
        refine WL.nil (WX.then_normal ?_)
        refine WC.seq ?_
        obtain ⟨J1, H, hJ1⟩ := H
        refine WC.midF (fun L' w' => ∃ (x : Int), L' = [(2, .pointer (some ⟨g1, 0, none⟩)), (3, .pointer (some ⟨g2, 0, none⟩)), (4, .pointer (some ⟨g3, 0, none⟩)), (5, .slice (some ⟨g4, 0, none⟩) ((((a_L.length : Int) + (b_L.length : Int)) + (1 : Int)).toNat) ((((a_L.length : Int) + (b_L.length : Int)) + (1 : Int)).toNat)), (6, .int .i64 i), (8, .int .i64 k), (9, .int .i64 x)] ∧ J1 x ∧ w6 = w') ?_ (fun hQ => ?_)
        · clear H
          rintro _ _ ⟨x, rfl, H, rfl⟩
          replace H := hJ1 x H
          refine WX.then_normal ?_
          refine WC.seq ?_
          refine WC.region ?_
          refine WL.y rfl (Yld.pure tab_ok rfl) ?_
          refine WL.y rfl (Yld.pure tab_ok rfl) ?_
          refine WL.y rfl (Yld.pure tab_ok rfl) ?_
          obtain ⟨h7, H⟩ := H
          refine WL.y rfl (Yld.add rfl rfl h7) ?_
          refine WL.y rfl (Yld.pure tab_ok rfl) ?_
          obtain ⟨h8, H⟩ := H
          refine WL.y rfl (Yld.rem rfl rfl h8.1 h8.2) ?_
          obtain ⟨h9, H⟩ := H
          refine WL.y rfl (Yld.iaddrW tab_ok k14.rd rfl rfl hn_l2 rfl h9.1 h9.2) ?_
          refine WL.ostore (v := x % (10000 : Int)) one3 One.i k14 rfl rfl (iltN h9 hn_l2) (fun w7 hO2 hg5 => ?_)
          have gr7 := gr_mod gr6 hg5 k14.ge'
          have k15 := k11.go hg5 dj9
          have k16 := k12.go hg5 dj11
          have k17 := k13.go hg5 dj12
          refine WL.nil (WX.then_normal ?_)
          refine WC.region ?_
          refine WL.y rfl (Yld.pure tab_ok rfl) ?_
          obtain ⟨h10, H⟩ := H
          refine WL.y rfl (Yld.quo rfl rfl h10.1 h10.2.1 h10.2.2) ?_
          refine WL.y rfl (Yld.pure tab_ok rfl) ?_
          refine WL.nil (WX.block_normal (WX.then_normal ?_))
          refine WC.region ?_
          refine WL.y rfl (Yld.pure tab_ok rfl) ?_
          obtain ⟨h11, H⟩ := H
          refine WL.y rfl (Yld.add rfl rfl h11) ?_
          refine WL.y rfl (Yld.pure tab_ok rfl) ?_
          refine WL.nil ?_
          exact WX.roundF _ ⟨x / (10000 : Int), k + (1 : Int), l2.set ((i + k).toNat) (x % (10000 : Int)), rfl, rfl, H.1, (hn_l2.trans List.length_set.symm), gr7, k15, k16, k17, hO2, dj7, dj8, dj9, dj10, dj11, dj12⟩ (by repeat (first | exact Sub.nil | refine Sub.cons rfl ?_)) H.2
        · clear hJ1
          refine WC.seq ?_
          refine WC.region ?_
          refine WL.y rfl (Yld.pure tab_ok rfl) ?_
          refine WL.y rfl (Yld.pure tab_ok rfl) ?_
          refine WL.y rfl (Yld.bload tab_ok k12 rfl rfl rfl) ?_
          refine WL.y rfl (Yld.pure tab_ok rfl) ?_
          refine WL.y rfl (Yld.pure tab_ok rfl) ?_
          refine WL.nil (WX.then_normal ?_)
          refine WC.cond rfl (fun b3 => ?_) (fun b3 => ?_)
          · replace H := H.1 (of_decide_eq_true b3)
            refine WC.quiet mixed (by kernel_rfl) ?_
            refine WQ.y rfl (Yld.pure tab_ok rfl) ?_
            refine WQ.y rfl (Yld.pure tab_ok rfl) ?_
            refine WQ.y rfl (Yld.bload tab_ok k11 rfl rfl rfl) ?_
            refine WQ.y rfl (Yld.pure tab_ok rfl) ?_
            obtain ⟨h12, H⟩ := H
            refine WQ.y rfl (Yld.iaddrW tab_ok (ha_L.grown gr6) rfl rfl rfl rfl h12.1 h12.2) ?_
            refine WQ.y rfl (Yld.iload 0 tab_ok (ha_L.grown gr6) rfl rfl (iltN h12 rfl)) ?_
            refine WQ.y rfl (Yld.pure tab_ok rfl) ?_
            refine WQ.y rfl (Yld.bload tab_ok k12 rfl rfl rfl) ?_
            refine WQ.y rfl (Yld.pure tab_ok rfl) ?_
            obtain ⟨h13, H⟩ := H
            refine WQ.y rfl (Yld.iaddrW tab_ok (hb_L.grown gr6) rfl rfl rfl rfl h13.1 h13.2) ?_
            refine WQ.y rfl (Yld.iload 0 tab_ok (hb_L.grown gr6) rfl rfl (iltN h13 rfl)) ?_
            obtain ⟨h14, H⟩ := H
            refine WQ.y rfl (Yld.mul rfl rfl h14) ?_
            obtain ⟨h15, H⟩ := H
            refine WQ.y rfl (Yld.add rfl rfl h15) ?_
            refine WQ.y rfl (Yld.pure tab_ok rfl) ?_
            refine WQ.nil ?_
            exact WX.weaken (by repeat (first | exact Sub.nil | refine Sub.cons rfl ?_)) (hQ _ _ ⟨((l2.getD ((i + k).toNat) 0) + carry) + ((a_L.getD i.toNat 0) * (b_L.getD k.toNat 0)), rfl, H, rfl⟩)
          · replace H := H.2 (of_decide_eq_false b3)
            refine WC.skip ?_
            exact WX.weaken (by repeat (first | exact Sub.nil | refine Sub.cons rfl ?_)) (hQ _ _ ⟨(l2.getD ((i + k).toNat) 0) + carry, rfl, H, rfl⟩)
      · replace H := H.2 (b2)
        refine WC.exit (WX.then_exit (WX.then_exit (WX.block_same (WX.block_normal (WX.then_normal ?_)))))
        refine WC.region ?_
        refine WL.y rfl (Yld.pure tab_ok rfl) ?_
        obtain ⟨h16, H⟩ := H
        refine WL.y rfl (Yld.add rfl rfl h16) ?_
        refine WL.y rfl (Yld.pure tab_ok rfl) ?_
        refine WL.nil ?_
        exact WX.roundF _ ⟨i + (1 : Int), l2, rfl, rfl, H.1, hn_l2, gr6, k11, k12, k13, k14, dj7, dj8, dj9, dj10, dj11, dj12⟩ (by repeat (first | exact Sub.nil | refine Sub.cons rfl ?_)) H.2
    · clear H
      rcases Bool.eq_false_or_eq_true (decide (k < (b_L.length : Int))) with b4 | b4
      · refine WL.gno rfl rfl (okb b4) rfl ?_
        refine WL.gno rfl rfl (okb b4) rfl ?_
        refine WL.y rfl (Yld.pickT (okb b4) rfl) ?_
        exact WL.weaken (by repeat (first | exact Sub.nil | refine Sub.cons rfl ?_)) (hQ _ _ ⟨true, rfl, by rw [b4] <;> rfl, rfl⟩)
      · refine WL.gyes rfl rfl (okb b4) rfl (Yld.pure tab_ok rfl) ?_
        refine WL.gyes rfl rfl (okb b4) rfl (Yld.pure tab_ok rfl) ?_
        refine WL.y rfl (Yld.pickF (okb b4) rfl) ?_
        exact WL.weaken (by repeat (first | exact Sub.nil | refine Sub.cons rfl ?_)) (hQ _ _ ⟨decide ((0 : Int) < carry), rfl, by rw [b4] <;> rfl, rfl⟩)
  · replace H := H.2 (of_decide_eq_false b1)
    refine WC.exit (WX.then_exit (WX.then_exit (WX.block_same (WX.then_normal ?_))))
    refine WC.seq ?_
    refine WC.region ?_
    refine WL.y rfl (Yld.pure tab_ok rfl) ?_
    refine WL.y rfl (Yld.bload tab_ok k7 rfl rfl rfl) ?_
    refine WL.y rfl (Yld.pure tab_ok rfl) ?_
    refine WL.y rfl (Yld.bload tab_ok k8 rfl rfl rfl) ?_
    refine WL.y rfl (Yld.bneq Tryd.underlying4 rfl rfl) ?_
    refine WL.y rfl (Yld.pure tab_ok rfl) ?_
    refine WL.call rfl rfl (W_smithyref9_trim k10.rd hn_l H) ?_
    rintro _ w8 ⟨hg6, t78_Neg, t78_L, A_t78_L, c_t78_L, rfl, ht78_L, ho1, H⟩
    have gr8 := gr_trans gr5 hg6
    have k18 := k9.g0 hg6
    refine WL.storeW (vs := [.bool t78_Neg, .slice A_t78_L t78_L.length c_t78_L]) tab_ok rfl rfl rfl (all1c rfl (all1c rfl all1n)) k18 rfl rfl (fun w9 hB4 hg7 => ?_)
    have gr9 := gr_mod gr8 hg7 (Ge.le (Ge.box hl3) (size_le gr2))
    have k19 := ht78_L.go hg7 (Orig.apart ho1 k9.lt' (orC (Dn.of dj6.symm) orN))
    refine WL.nil (WX.then_normal ?_)
    refine WC.ret ?_
    exact WX.retc tab_ok rfl rfl rfl hB4 rfl ⟨gr9, t78_Neg, t78_L, A_t78_L, c_t78_L, rfl, k19, (Orig.trans ho1 (size_le gr5) (orC (Orig.new k10.ge') orN)), H⟩

set_option maxHeartbeats 8000000 in
theorem W_smithyref9_divided {w : World} {a : List Int} {A_a : Option Addr} {c_a : Nat} {b : List Int} {A_b : Option Addr} {c_b : Nat} {n_a : Nat} {n_b : Nat} {K : (List Int) → (List Int) → Prop} (ha : Rd vi w A_a c_a a) (hn_a : n_a = a.length) (hb : Rd vi w A_b c_b b) (hn_b : n_b = b.length) (H : M_smithyref9_divided a b K) : Fn Tryd.prog 77 ⟨[.slice A_a n_a c_a, .slice A_b n_b c_b]⟩ w (fun v w' => w.grownBy w' none ∧ ∃ (r0 : List Int), ∃ (A_r0 : Option Addr), ∃ (c_r0 : Nat), ∃ (r1 : List Int), ∃ (A_r1 : Option Addr), ∃ (c_r1 : Nat), v = .tuple #[.slice A_r0 r0.length c_r0, .slice A_r1 r1.length c_r1] ∧ Rd vi w' A_r0 c_r0 r0 ∧ Orig (r0 ≠ []) (blk A_r0) w.heap.size [(a ≠ [], blk A_a), (b ≠ [], blk A_b)] ∧ Rd vi w' A_r1 c_r1 r1 ∧ Orig (r1 ≠ []) (blk A_r1) w.heap.size [(a ≠ [], blk A_a), (b ≠ [], blk A_b)] ∧ K r0 r1) := by
  subst hn_a
  subst hn_b
  unfold M_smithyref9_divided at H
  refine Fn.enter (by kernel_rfl) Tryd.func77 rfl Tryd.ntmps77 rfl ?_
  replace H := H (Nat.le_trans ha.cap ha.max)
  replace H := H (Nat.le_trans hb.cap hb.max)
  refine WC.seq ?_
  refine WC.region ?_
  refine WL.y rfl (Yld.pure tab_ok rfl) ?_
  refine WL.y rfl (Yld.pure tab_ok rfl) ?_
  refine WL.nil (WX.then_normal ?_)
  refine WC.seq ?_
  refine WC.region ?_
  refine WL.y rfl (Yld.pure tab_ok rfl) ?_
  refine WL.y rfl (Yld.pure tab_ok rfl) ?_
  obtain ⟨h1, H⟩ := H
  refine WL.makeZI (f := vi) (z := 0) (B := w.heap.size) tab_ok rfl rfl zero3 rfl rfl h1.1 h1.2.1 h1.2.2 (Nat.le_refl _) (fun g1 w1 hO1 hg1 hl1 => ?_)
  have gr1 := hg1
  refine WL.y rfl (Yld.pure tab_ok rfl) ?_
  refine WL.nil (WX.then_normal ?_)
  refine WC.seq ?_
  refine WC.region ?_
  refine WL.y rfl (Yld.pure tab_ok rfl) ?_
  refine WL.nil (WX.then_normal ?_)
  refine WC.seq ?_
  refine WC.seq ?_
  refine WC.region ?_
  refine WL.y rfl (Yld.pure tab_ok rfl) ?_
  refine WL.y rfl (Yld.pure tab_ok rfl) ?_
  obtain ⟨h2, H⟩ := H
  refine WL.y rfl (Yld.sub rfl rfl h2) ?_
  refine WL.y rfl (Yld.pure tab_ok rfl) ?_
  refine WL.nil (WX.then_normal ?_)
  refine WC.block ?_
  obtain ⟨I1, mu1, h0_1, HR1⟩ := H
  refine WC.loopF (fun n' L' w' => ∃ (r : List Int), ∃ (A_r : Option Addr), ∃ (c_r : Nat), ∃ (n_r : Nat), ∃ (i : Int), ∃ (q : List Int), n' = mu1 r i q ∧ L' = [(0, .slice A_a a.length c_a), (1, .slice A_b b.length c_b), (6, .slice (some ⟨g1, 0, none⟩) ((a.length : Int).toNat) ((a.length : Int).toNat)), (7, .slice A_r n_r c_r), (8, .int .i64 i)] ∧ I1 r i q ∧ (a.length : Int).toNat = q.length ∧ n_r = r.length ∧ w.grownBy w' none ∧ Own vi w' w.heap.size 3 (some ⟨g1, 0, none⟩) ((a.length : Int).toNat) q ∧ Rd vi w' A_r c_r r ∧ Dn r (blk A_r) (blk (some ⟨g1, 0, none⟩)) ∧ Orig (r ≠ []) (blk A_r) w.heap.size [(a ≠ [], blk A_a), (b ≠ [], blk A_b)]) _ _ ⟨[], none, 0, 0, (a.length : Int) - (1 : Int), (List.replicate (a.length : Int).toNat 0), rfl, rfl, h0_1, (List.length_replicate).symm, rfl, gr1, hO1, (Own.nil vi w1 w.heap.size 3).rd, (Dn.of Dj.nl), (Orig.new Ge.none)⟩ (by repeat (first | exact Sub.nil | refine Sub.cons rfl ?_)) ?_
  clear h0_1
  rintro _ _ w2 ⟨r, A_r, c_r, n_r, i, q, rfl, rfl, hI1, hn_q, rfl, gr2, k1, k2, dj1, or1⟩
  have H := HR1 r i q hI1
  replace H := H hn_q
  refine WC.seq ?_
  refine WC.seq ?_
  refine WC.region ?_
  refine WL.y rfl (Yld.pure tab_ok rfl) ?_
  refine WL.y rfl (Yld.pure tab_ok rfl) ?_
  refine WL.nil (WX.then_normal ?_)
  refine WC.cond rfl (fun b1 => ?_) (fun b1 => ?_)
  · replace H := H.1 (of_decide_eq_true b1)
    refine WC.skip (WX.then_normal ?_)
    refine WC.seq ?_
    refine WC.block ?_
    refine WC.seq ?_
    refine WC.region ?_
    refine WL.y rfl (Yld.pure tab_ok rfl) ?_
    refine WL.y rfl (Yld.pure tab_ok rfl) ?_
    obtain ⟨h3, H⟩ := H
    refine WL.y rfl (Yld.iaddrW tab_ok (ha.grown gr2) rfl rfl rfl rfl h3.1 h3.2) ?_
    refine WL.y rfl (Yld.iload 0 tab_ok (ha.grown gr2) rfl rfl (iltN h3 rfl)) ?_
    refine WL.lit tab_ok rfl rfl rfl (all1c rfl all1n) rfl (by omega) (fun g2 w3 hB1 hg2 hl2 => ?_)
    have hO2 : Own vi w3 w.heap.size 3 (some ⟨g2, 0, none⟩) 1 ([a.getD i.toNat 0] : List Int) := Own.ofBl hB1 (Nat.le_trans (size_le gr2) hl2) (by simp [maxLen]) rfl
    have gr3 := gr_trans gr2 hg2
    have k3 := k1.grown hg2
    have k4 := k2.grown hg2
    refine WL.y rfl (Yld.pure tab_ok rfl) ?_
    obtain ⟨h4, H⟩ := H
    refine WL.append tab_ok rfl rfl One.i hO2 rfl rfl k4 rfl rfl h4 (applen h4) (size_le gr3) (fun A_r2 c_r2 w4 hO3 hg3 hk1 => ?_)
    have gr4 := gr_mod gr3 hg3 hO2.ge'
    have k5 := k3.go hg3 (Dj.new k1.lt' (Ge.box hl2))
    refine WL.y rfl (Yld.pure tab_ok rfl) ?_
    refine WL.nil (WX.then_normal ?_)
    refine WC.seq ?_
    refine WC.region ?_
    refine WL.y rfl (Yld.pure tab_ok rfl) ?_
    refine WL.call rfl rfl (W_smithyref9_trim hO3.rd rfl H) ?_
    rintro _ w5 ⟨hg4, t30_Neg, t30_L, A_t30_L, c_t30_L, rfl, ht30_L, ho1, H⟩
    have gr5 := gr_trans gr4 hg4
    have k6 := k5.grown hg4
    refine WL.y rfl (Yld.fld flds_ok rfl rfl rfl) ?_
    refine WL.y rfl (Yld.pure tab_ok rfl) ?_
    refine WL.nil (WX.then_normal ?_)
    refine WC.seq ?_
    refine WC.region ?_
    refine WL.y rfl (Yld.pure tab_ok rfl) ?_
    refine WL.nil (WX.then_normal ?_)
    refine WC.seq ?_
    refine WC.region ?_
    refine WL.y rfl (Yld.pure tab_ok rfl) ?_
    refine WL.nil (WX.then_normal ?_)
    refine WC.seq ?_
    refine WC.block ?_
    obtain ⟨I2, mu2, h0_2, HR2⟩ := H
    refine WC.loopF (fun n' L' w' => ∃ (low : Int), ∃ (high : Int), n' = mu2 low high ∧ L' = [(0, .slice A_a a.length c_a), (1, .slice A_b b.length c_b), (6, .slice (some ⟨g1, 0, none⟩) ((a.length : Int).toNat) ((a.length : Int).toNat)), (7, .slice A_t30_L t30_L.length c_t30_L), (8, .int .i64 i), (9, .int .i64 low), (10, .int .i64 high)] ∧ I2 low high ∧ w.grownBy w' none ∧ Own vi w' w.heap.size 3 (some ⟨g1, 0, none⟩) ((a.length : Int).toNat) q ∧ Rd vi w' A_t30_L c_t30_L t30_L ∧ Dn t30_L (blk A_t30_L) (blk (some ⟨g1, 0, none⟩))) _ _ ⟨(0 : Int), (9999 : Int), rfl, rfl, h0_2, gr5, k6, ht30_L, (Orig.apart ho1 k5.lt' (orC (Dn.of (Dj.app (Dj.new k1.lt' (Ge.box hl2)).symm k3.lt' hk1)) orN))⟩ (by repeat (first | exact Sub.nil | refine Sub.cons rfl ?_)) ?_
    clear h0_2
    rintro _ _ w6 ⟨low, high, rfl, rfl, hI2, gr6, k7, k8, dj2⟩
    have H := HR2 low high hI2
    refine WC.seq ?_
    refine WC.seq ?_
    refine WC.region ?_
    refine WL.y rfl (Yld.pure tab_ok rfl) ?_
    refine WL.y rfl (Yld.pure tab_ok rfl) ?_
    refine WL.y rfl (Yld.pure tab_ok rfl) ?_
    refine WL.nil (WX.then_normal ?_)
    refine WC.cond rfl (fun b2 => ?_) (fun b2 => ?_)
    · replace H := H.1 (of_decide_eq_true b2)
      refine WC.skip (WX.then_normal ?_)
      refine WC.block ?_
      refine WC.seq ?_
      refine WC.region ?_
      refine WL.y rfl (Yld.pure tab_ok rfl) ?_
      refine WL.y rfl (Yld.pure tab_ok rfl) ?_
      obtain ⟨h5, H⟩ := H
      refine WL.y rfl (Yld.add rfl rfl h5) ?_
      obtain ⟨h6, H⟩ := H
      refine WL.y rfl (Yld.add rfl rfl h6) ?_
      obtain ⟨h7, H⟩ := H
      refine WL.y rfl (Yld.quo rfl rfl h7.1 h7.2.1 h7.2.2) ?_
      refine WL.y rfl (Yld.pure tab_ok rfl) ?_
      refine WL.nil (WX.then_normal ?_)
      refine WC.seq ?_
      refine WC.region ?_
      refine WL.y rfl (Yld.pure tab_ok rfl) ?_
      refine WL.y rfl (Yld.pure tab_ok rfl) ?_
      refine WL.call rfl rfl (W_smithyref9_times (hb.grown gr6) rfl H) ?_
      rintro _ w7 ⟨hg5, t42, A_t42, c_t42, rfl, ht42, ho2, H⟩
      have gr7 := gr_trans gr6 hg5
      have k9 := k7.grown hg5
      have k10 := k8.grown hg5
      refine WL.y rfl (Yld.pure tab_ok rfl) ?_
      refine WL.call rfl rfl (W_smithyref9_size ht42 rfl k10 rfl H) ?_
      rintro _ _ ⟨rfl, t44, rfl, H⟩
      refine WL.y rfl (Yld.pure tab_ok rfl) ?_
      refine WL.nil (WX.then_normal ?_)
      refine WC.cond rfl (fun b3 => ?_) (fun b3 => ?_)
      · replace H := H.1 (of_decide_eq_true b3)
        refine WC.region ?_
        refine WL.y rfl (Yld.pure tab_ok rfl) ?_
        refine WL.y rfl (Yld.pure tab_ok rfl) ?_
        refine WL.nil (WX.block_normal ?_)
        exact WX.roundF _ ⟨((low + high) + (1 : Int)) / (2 : Int), high, rfl, rfl, H.1, gr7, k9, k10, dj2⟩ (by repeat (first | exact Sub.nil | refine Sub.cons rfl ?_)) H.2
      · replace H := H.2 (of_decide_eq_false b3)
        refine WC.region ?_
        refine WL.y rfl (Yld.pure tab_ok rfl) ?_
        obtain ⟨h8, H⟩ := H
        refine WL.y rfl (Yld.sub rfl rfl h8) ?_
        refine WL.y rfl (Yld.pure tab_ok rfl) ?_
        refine WL.nil (WX.block_normal ?_)
        exact WX.roundF _ ⟨low, (((low + high) + (1 : Int)) / (2 : Int)) - (1 : Int), rfl, rfl, H.1, gr7, k9, k10, dj2⟩ (by repeat (first | exact Sub.nil | refine Sub.cons rfl ?_)) H.2
    · replace H := H.2 (of_decide_eq_false b2)
      refine WC.exit (WX.then_exit (WX.then_exit (WX.block_same (WX.then_normal ?_))))
      refine WC.seq ?_
      refine WC.region ?_
      refine WL.y rfl (Yld.pure tab_ok rfl) ?_
      refine WL.y rfl (Yld.pure tab_ok rfl) ?_
      refine WL.y rfl (Yld.pure tab_ok rfl) ?_
      obtain ⟨h9, H⟩ := H
      refine WL.y rfl (Yld.iaddrW tab_ok k7.rd rfl rfl hn_q rfl h9.1 h9.2) ?_
      refine WL.ostore (v := low) one3 One.i k7 rfl rfl (iltN h9 hn_q) (fun w8 hO4 hg6 => ?_)
      have gr8 := gr_mod gr6 hg6 k7.ge'
      have k11 := k8.go hg6 dj2
      refine WL.nil (WX.then_normal ?_)
      refine WC.region ?_
      refine WL.y rfl (Yld.pure tab_ok rfl) ?_
      refine WL.y rfl (Yld.pure tab_ok rfl) ?_
      refine WL.y rfl (Yld.pure tab_ok rfl) ?_
      refine WL.call rfl rfl (W_smithyref9_times (hb.grown gr8) rfl H) ?_
      rintro _ w9 ⟨hg7, t56, A_t56, c_t56, rfl, ht56, ho3, H⟩
      have gr9 := gr_trans gr8 hg7
      have k12 := hO4.grown hg7
      have k13 := k11.grown hg7
      refine WL.call rfl rfl (W_smithyref9_less k13 rfl ht56 rfl H) ?_
      rintro _ w10 ⟨hg8, t57, A_t57, c_t57, rfl, ht57, H⟩
      have hb1 := ht57.ge'
      have k14 := ht57.base (fun g hg => Nat.le_trans (size_le gr9) (hb1 g hg))
      have gr10 := gr_trans gr9 hg8
      have k15 := k12.grown hg8
      refine WL.call rfl rfl (W_smithyref9_trim k14.rd rfl H) ?_
      rintro _ w11 ⟨hg9, t58_Neg, t58_L, A_t58_L, c_t58_L, rfl, ht58_L, ho4, H⟩
      have gr11 := gr_trans gr10 hg9
      have k16 := k15.grown hg9
      refine WL.y rfl (Yld.fld flds_ok rfl rfl rfl) ?_
      refine WL.y rfl (Yld.pure tab_ok rfl) ?_
      refine WL.nil (WX.block_normal (WX.then_normal ?_))
      refine WC.region ?_
      refine WL.y rfl (Yld.pure tab_ok rfl) ?_
      obtain ⟨h10, H⟩ := H
      refine WL.y rfl (Yld.sub rfl rfl h10) ?_
      refine WL.y rfl (Yld.pure tab_ok rfl) ?_
      refine WL.nil ?_
      exact WX.roundF _ ⟨t58_L, A_t58_L, c_t58_L, t58_L.length, i - (1 : Int), q.set i.toNat low, rfl, rfl, H.1, (hn_q.trans List.length_set.symm), rfl, gr11, k16, ht58_L, (Orig.apart ho4 k15.lt' (orC (Dn.of (Dj.new k12.lt' hb1).symm) orN)), (Orig.trans ho4 (size_le gr10) (orC (Orig.new k14.ge') orN))⟩ (by repeat (first | exact Sub.nil | refine Sub.cons rfl ?_)) H.2
  · replace H := H.2 (of_decide_eq_false b1)
    refine WC.exit (WX.then_exit (WX.then_exit (WX.block_same (WX.then_normal ?_))))
    refine WC.seq ?_
    refine WC.region ?_
    refine WL.y rfl (Yld.pure tab_ok rfl) ?_
    refine WL.call rfl rfl (W_smithyref9_trim k1.rd hn_q H) ?_
    rintro _ w12 ⟨hg10, t61_Neg, t61_L, A_t61_L, c_t61_L, rfl, ht61_L, ho5, H⟩
    have gr12 := gr_trans gr2 hg10
    have k17 := k2.grown hg10
    refine WL.y rfl (Yld.fld flds_ok rfl rfl rfl) ?_
    refine WL.y rfl (Yld.pure tab_ok rfl) ?_
    refine WL.y rfl (Yld.pure tab_ok rfl) ?_
    refine WL.y rfl (Yld.pure tab_ok rfl) ?_
    refine WL.nil (WX.then_normal ?_)
    refine WC.ret ?_
    exact WX.ret2 rfl rfl rfl ⟨gr12, t61_L, A_t61_L, c_t61_L, r, A_r, c_r, rfl, ht61_L, (Orig.trans ho5 (size_le gr2) (orC (Orig.new k1.ge') orN)), k17, or1, H⟩

set_option maxHeartbeats 8000000 in
theorem W_smithyref9_Num_DivMod {w : World} {a_Neg : Bool} {a_L : List Int} {A_a_L : Option Addr} {c_a_L : Nat} {b_Neg : Bool} {b_L : List Int} {A_b_L : Option Addr} {c_b_L : Nat} {n_a_L : Nat} {n_b_L : Nat} {K : Bool → (List Int) → Bool → (List Int) → Bool → Prop} (ha_L : Rd vi w A_a_L c_a_L a_L) (hn_a_L : n_a_L = a_L.length) (hb_L : Rd vi w A_b_L c_b_L b_L) (hn_b_L : n_b_L = b_L.length) (H : M_smithyref9_Num_DivMod a_Neg a_L b_Neg b_L K) : Fn Tryd.prog 32 ⟨[.agg ⟨[.bool a_Neg, .slice A_a_L n_a_L c_a_L]⟩, .agg ⟨[.bool b_Neg, .slice A_b_L n_b_L c_b_L]⟩]⟩ w (fun v w' => w.grownBy w' none ∧ ∃ (r0_Neg : Bool), ∃ (r0_L : List Int), ∃ (A_r0_L : Option Addr), ∃ (c_r0_L : Nat), ∃ (r1_Neg : Bool), ∃ (r1_L : List Int), ∃ (A_r1_L : Option Addr), ∃ (c_r1_L : Nat), ∃ (r2 : Bool), v = .tuple #[.agg ⟨[.bool r0_Neg, .slice A_r0_L r0_L.length c_r0_L]⟩, .agg ⟨[.bool r1_Neg, .slice A_r1_L r1_L.length c_r1_L]⟩, .bool r2] ∧ Rd vi w' A_r0_L c_r0_L r0_L ∧ Orig (r0_L ≠ []) (blk A_r0_L) w.heap.size [(a_L ≠ [], blk A_a_L), (b_L ≠ [], blk A_b_L)] ∧ Rd vi w' A_r1_L c_r1_L r1_L ∧ Orig (r1_L ≠ []) (blk A_r1_L) w.heap.size [(a_L ≠ [], blk A_a_L), (b_L ≠ [], blk A_b_L)] ∧ K r0_Neg r0_L r1_Neg r1_L r2) := by
  subst hn_a_L
  subst hn_b_L
  unfold M_smithyref9_Num_DivMod at H
  refine Fn.enter (by kernel_rfl) Tryd.func32 rfl Tryd.ntmps32 rfl ?_
  replace H := H (Nat.le_trans ha_L.cap ha_L.max)
  replace H := H (Nat.le_trans hb_L.cap hb_L.max)
  refine WC.seq ?_
  refine WC.region ?_
  refine WL.box (us := [.bool a_Neg, .slice A_a_L a_L.length c_a_L]) rfl rfl rfl (fun g1 w1 hB1 hg1 hl1 => ?_)
  have gr1 := hg1
  refine WL.box (us := [.bool b_Neg, .slice A_b_L b_L.length c_b_L]) rfl rfl rfl (fun g2 w2 hB2 hg2 hl2 => ?_)
  have gr2 := gr_trans gr1 hg2
  have k1 := hB1.g0 hg2
  refine WL.alloc rfl zero56 (fun g3 w3 hB3 hg3 hl3 => ?_)
  have gr3 := gr_trans gr2 hg3
  have k2 := k1.g0 hg3
  have k3 := hB2.g0 hg3
  refine WL.alloc rfl zero56 (fun g4 w4 hB4 hg4 hl4 => ?_)
  have gr4 := gr_trans gr3 hg4
  have k4 := k2.g0 hg4
  have k5 := k3.g0 hg4
  have k6 := hB3.g0 hg4
  refine WL.y rfl (Yld.pure tab_ok rfl) ?_
  refine WL.nil (WX.then_normal ?_)
  refine WC.seq ?_
  refine WC.seq ?_
  refine WC.region ?_
  refine WL.y rfl (Yld.pure tab_ok rfl) ?_
  refine WL.y rfl (Yld.bload tab_ok k5 rfl rfl rfl) ?_
  refine WL.y rfl (Yld.pure tab_ok rfl) ?_
  refine WL.y rfl (Yld.pure tab_ok rfl) ?_
  refine WL.nil (WX.then_normal ?_)
  refine WC.cond rfl (fun b1 => ?_) (fun b1 => ?_)
  · replace H := H.1 (of_decide_eq_true b1)
    refine WC.seq ?_
    refine WC.region ?_
    refine WL.y rfl (Yld.struct (us := [.bool false, .slice none 0 0]) zero56 places56 rfl rfl) ?_
    refine WL.y rfl (Yld.struct (us := [.bool false, .slice none 0 0]) zero56 places56 rfl rfl) ?_
    refine WL.storeW (vs := [.bool false, .slice none 0 0]) tab_ok rfl rfl rfl (all1c rfl (all1c rfl all1n)) k6 rfl rfl (fun w5 hB5 hg5 => ?_)
    have gr5 := gr_mod gr4 hg5 (Ge.le (Ge.box hl3) (size_le gr2))
    have k7 := hB4.go hg5 ((Dj.new hB3.lt' (Ge.box hl4)).symm)
    refine WL.storeW (vs := [.bool false, .slice none 0 0]) tab_ok rfl rfl rfl (all1c rfl (all1c rfl all1n)) k7 rfl rfl (fun w6 hB6 hg6 => ?_)
    have gr6 := gr_mod gr5 hg6 (Ge.le (Ge.box hl4) (size_le gr3))
    have k8 := hB5.go hg6 (Dj.new hB3.lt' (Ge.box hl4))
    refine WL.y rfl (Yld.pure tab_ok rfl) ?_
    refine WL.nil (WX.then_normal ?_)
    refine WC.ret (WX.then_ret ?_)
    exact WX.retcct tab_ok rfl rfl rfl k8 rfl rfl rfl hB6 rfl rfl ⟨gr6, false, [], none, 0, false, [], none, 0, false, rfl, (Own.nil vi w6 w.heap.size 3).rd, (Orig.new Ge.none), (Own.nil vi w6 w.heap.size 3).rd, (Orig.new Ge.none), H⟩
  · replace H := H.2 (of_decide_eq_false b1)
    refine WC.skip (WX.then_normal ?_)
    refine WC.seq ?_
    refine WC.region ?_
    refine WL.y rfl (Yld.pure tab_ok rfl) ?_
    refine WL.y rfl (Yld.bload tab_ok k4 rfl rfl rfl) ?_
    refine WL.y rfl (Yld.pure tab_ok rfl) ?_
    refine WL.y rfl (Yld.bload tab_ok k5 rfl rfl rfl) ?_
    refine WL.call rfl rfl (W_smithyref9_divided (ha_L.grown gr4) rfl (hb_L.grown gr4) rfl H) ?_
    rintro _ w7 ⟨hg7, t220, A_t220, c_t220, t221, A_t221, c_t221, rfl, ht220, ho1, ht221, ho2, H⟩
    have gr7 := gr_trans gr4 hg7
    have k9 := k4.g0 hg7
    have k10 := k5.g0 hg7
    have k11 := k6.g0 hg7
    have k12 := hB4.g0 hg7
    refine WL.y rfl (Yld.pure tab_ok rfl) ?_
    refine WL.y rfl (Yld.pure tab_ok rfl) ?_
    refine WL.y rfl (Yld.pure tab_ok rfl) ?_
    refine WL.y rfl (Yld.pure tab_ok rfl) ?_
    refine WL.y rfl (Yld.pure tab_ok rfl) ?_
    refine WL.nil (WX.then_normal ?_)
    refine WC.seq ?_
    refine WC.region ?_
    refine WL.y rfl (Yld.pure tab_ok rfl) ?_
    refine WL.y rfl (Yld.bload tab_ok k9 rfl rfl rfl) ?_
    refine WL.y rfl (Yld.pure tab_ok rfl) ?_
    refine WL.y rfl (Yld.bload tab_ok k10 rfl rfl rfl) ?_
    refine WL.y rfl (Yld.bneq Tryd.underlying4 rfl rfl) ?_
    refine WL.y rfl (Yld.pure tab_ok rfl) ?_
    refine WL.call rfl rfl (W_smithyref9_trim ht220 rfl H) ?_
    rintro _ w8 ⟨hg8, t31_Neg, t31_L, A_t31_L, c_t31_L, rfl, ht31_L, ho3, H⟩
    have gr8 := gr_trans gr7 hg8
    have k13 := k9.g0 hg8
    have k14 := k10.g0 hg8
    have k15 := k11.g0 hg8
    have k16 := k12.g0 hg8
    have k17 := ht221.grown hg8
    refine WL.alloc rfl zero56 (fun g5 w9 hB7 hg9 hl5 => ?_)
    have gr9 := gr_trans gr8 hg9
    have k18 := k13.g0 hg9
    have k19 := k14.g0 hg9
    have k20 := k15.g0 hg9
    have k21 := k16.g0 hg9
    have k22 := k17.grown hg9
    have k23 := ht31_L.grown hg9
    refine WL.storeW (vs := [.bool t31_Neg, .slice A_t31_L t31_L.length c_t31_L]) tab_ok rfl rfl rfl (all1c rfl (all1c rfl all1n)) hB7 rfl rfl (fun w10 hB8 hg10 => ?_)
    have gr10 := gr_mod gr9 hg10 (Ge.le (Ge.box hl5) (size_le gr8))
    have k24 := k18.go hg10 (Dj.new k13.lt' (Ge.box hl5))
    have k25 := k19.go hg10 (Dj.new k14.lt' (Ge.box hl5))
    have k26 := k20.go hg10 (Dj.new k15.lt' (Ge.box hl5))
    have k27 := k21.go hg10 (Dj.new k16.lt' (Ge.box hl5))
    have k28 := k22.go hg10 (Dn.new (fun hx => k17.lt' hx) (Ge.box hl5))
    have k29 := k23.go hg10 (Dn.new (fun hx => ht31_L.lt' hx) (Ge.box hl5))
    refine WL.nil (WX.then_normal ?_)
    refine WC.seq ?_
    refine WC.region ?_
    refine WL.y rfl (Yld.pure tab_ok rfl) ?_
    refine WL.y rfl (Yld.bload tab_ok k24 rfl rfl rfl) ?_
    refine WL.y rfl (Yld.pure tab_ok rfl) ?_
    refine WL.call rfl rfl (W_smithyref9_trim k28 rfl H) ?_
    rintro _ w11 ⟨hg11, t35_Neg, t35_L, A_t35_L, c_t35_L, rfl, ht35_L, ho4, H⟩
    have gr11 := gr_trans gr10 hg11
    have k30 := k25.g0 hg11
    have k31 := k26.g0 hg11
    have k32 := k27.g0 hg11
    have k33 := k29.grown hg11
    have k34 := hB8.g0 hg11
    refine WL.alloc rfl zero56 (fun g6 w12 hB9 hg12 hl6 => ?_)
    have gr12 := gr_trans gr11 hg12
    have k35 := k30.g0 hg12
    have k36 := k31.g0 hg12
    have k37 := k32.g0 hg12
    have k38 := k33.grown hg12
    have k39 := k34.g0 hg12
    have k40 := ht35_L.grown hg12
    refine WL.storeW (vs := [.bool t35_Neg, .slice A_t35_L t35_L.length c_t35_L]) tab_ok rfl rfl rfl (all1c rfl (all1c rfl all1n)) hB9 rfl rfl (fun w13 hB10 hg13 => ?_)
    have gr13 := gr_mod gr12 hg13 (Ge.le (Ge.box hl6) (size_le gr11))
    have k41 := k35.go hg13 (Dj.new k30.lt' (Ge.box hl6))
    have k42 := k36.go hg13 (Dj.new k31.lt' (Ge.box hl6))
    have k43 := k37.go hg13 (Dj.new k32.lt' (Ge.box hl6))
    have k44 := k38.go hg13 (Dn.new (fun hx => k33.lt' hx) (Ge.box hl6))
    have k45 := k39.go hg13 (Dj.new k34.lt' (Ge.box hl6))
    have k46 := k40.go hg13 (Dn.new (fun hx => ht35_L.lt' hx) (Ge.box hl6))
    refine WL.nil (WX.then_normal ?_)
    refine WC.seq ?_
    obtain ⟨J1, H, hJ1⟩ := H
    refine WC.midF (fun L' w' => ∃ (q0 : Bool), ∃ (q1 : List Int), ∃ (A_q1 : Option Addr), ∃ (c_q1 : Nat), ∃ (n_q1 : Nat), ∃ (r0 : Bool), ∃ (r1 : List Int), ∃ (A_r1 : Option Addr), ∃ (c_r1 : Nat), ∃ (n_r1 : Nat), L' = [(4, .pointer (some ⟨g3, 0, none⟩)), (5, .pointer (some ⟨g4, 0, none⟩)), (9, .pointer (some ⟨g5, 0, none⟩)), (10, .pointer (some ⟨g6, 0, none⟩))] ∧ J1 q0 q1 r0 r1 ∧ n_q1 = q1.length ∧ n_r1 = r1.length ∧ w.grownBy w' none ∧ Bl w' g3 56 [.bool false, .slice none 0 0] ∧ Bl w' g4 56 [.bool false, .slice none 0 0] ∧ Bl w' g5 56 [.bool q0, .slice A_q1 n_q1 c_q1] ∧ Bl w' g6 56 [.bool r0, .slice A_r1 n_r1 c_r1] ∧ Rd vi w' A_q1 c_q1 q1 ∧ Rd vi w' A_r1 c_r1 r1 ∧ Dj (some g3) (some g4) ∧ Dj (some g3) (some g5) ∧ Dj (some g3) (some g6) ∧ Dj (some g4) (some g5) ∧ Dj (some g4) (some g6) ∧ Dj (some g5) (some g6) ∧ Dn q1 (blk A_q1) (some g3) ∧ Dn q1 (blk A_q1) (some g4) ∧ Dn q1 (blk A_q1) (some g5) ∧ Dn q1 (blk A_q1) (some g6) ∧ Dn r1 (blk A_r1) (some g3) ∧ Dn r1 (blk A_r1) (some g4) ∧ Dn r1 (blk A_r1) (some g5) ∧ Dn r1 (blk A_r1) (some g6) ∧ Orig (q1 ≠ []) (blk A_q1) w.heap.size [(a_L ≠ [], blk A_a_L), (b_L ≠ [], blk A_b_L)] ∧ Orig (r1 ≠ []) (blk A_r1) w.heap.size [(a_L ≠ [], blk A_a_L), (b_L ≠ [], blk A_b_L)]) ?_ (fun hQ => ?_)
    · clear H
      rintro _ w14 ⟨q0, q1, A_q1, c_q1, n_q1, r0, r1, A_r1, c_r1, n_r1, rfl, H, rfl, rfl, gr14, k47, k48, k49, k50, k51, k52, dj1, dj2, dj3, dj4, dj5, dj6, dj7, dj8, dj9, dj10, dj11, dj12, dj13, dj14, or1, or2⟩
      replace H := hJ1 q0 q1 r0 r1 H
      refine WX.then_normal ?_
      refine WC.seq ?_
      refine WC.chainF (fun k => !(Nat.beq k 2 || Nat.beq k 3)) (LD [0, 1] (fun w' => Bl w' g5 56 [.bool q0, .slice A_q1 q1.length c_q1] ∧ Bl w' g6 56 [.bool r0, .slice A_r1 r1.length c_r1])) mixed (by kernel_rfl) (fun k w' h _ => ⟨(bl_eqv h k49), (bl_eqv h k50)⟩) ?_
      refine WJ.y rfl rfl (fun w' hw' => Yld.bagg (vs := [.bool q0, .slice A_q1 q1.length c_q1]) tab_ok (hw' rfl).1 rfl rfl rfl rfl) ?_
      refine WJ.y rfl rfl (fun w' hw' => Yld.bagg (vs := [.bool r0, .slice A_r1 r1.length c_r1]) tab_ok (hw' rfl).2 rfl rfl rfl rfl) ?_
      refine WJ.eff rfl (Ef0.storeW (vs := [.bool q0, .slice A_q1 q1.length c_q1]) tab_ok rfl rfl rfl (all1c rfl (all1c rfl all1n)) k47 rfl rfl) (fun w' h => DD.keep (⟨(Bl.go k49 (gr_eqv h.2 (Eqv.refl _)) dj2.symm), (Bl.go k50 (gr_eqv h.2 (Eqv.refl _)) dj3.symm)⟩)) ?_
      rintro w15 ⟨hB11, hg14⟩
      have gr15 := gr_mod gr14 hg14 (Ge.le (Ge.box hl3) (size_le gr2))
      have k53 := k48.go hg14 dj1.symm
      have k54 := k49.go hg14 dj2.symm
      have k55 := k50.go hg14 dj3.symm
      have k56 := k51.go hg14 dj7
      have k57 := k52.go hg14 dj11
      refine WJ.eff rfl (Ef0.storeW (vs := [.bool r0, .slice A_r1 r1.length c_r1]) tab_ok rfl rfl rfl (all1c rfl (all1c rfl all1n)) k53 rfl rfl) (fun w' h => DD.keep (⟨(Bl.go k54 (gr_eqv h.2 (Eqv.refl _)) dj4.symm), (Bl.go k55 (gr_eqv h.2 (Eqv.refl _)) dj5.symm)⟩)) ?_
      rintro w16 ⟨hB12, hg15⟩
      have gr16 := gr_mod gr15 hg15 (Ge.le (Ge.box hl4) (size_le gr3))
      have k58 := hB11.go hg15 dj1
      have k59 := k54.go hg15 dj4.symm
      have k60 := k55.go hg15 dj5.symm
      have k61 := k56.go hg15 dj8
      have k62 := k57.go hg15 dj12
      refine WJ.y rfl rfl (fun w' hw' => Yld.pure tab_ok rfl) ?_
      refine WJ.nil (WX.then_normal ?_)
      refine WC.ret ?_
      exact WX.retcct tab_ok rfl rfl rfl k58 rfl rfl rfl hB12 rfl rfl ⟨gr16, q0, q1, A_q1, c_q1, r0, r1, A_r1, c_r1, true, rfl, k61, or1, k62, or2, H⟩
    · clear hJ1
      refine WC.seq ?_
      refine WC.region ?_
      refine WL.y rfl (Yld.pure tab_ok rfl) ?_
      refine WL.y rfl (Yld.bload tab_ok hB10 rfl rfl rfl) ?_
      refine WL.y rfl (Yld.pure tab_ok rfl) ?_
      refine WL.y rfl (Yld.pure tab_ok rfl) ?_
      refine WL.y rfl (Yld.pure tab_ok rfl) ?_
      refine WL.midF 6 (fun L' w' => ∃ q1 : Bool, L' = [(46, .bool q1), (3, .pointer (some ⟨g2, 0, none⟩)), (4, .pointer (some ⟨g3, 0, none⟩)), (5, .pointer (some ⟨g4, 0, none⟩)), (9, .pointer (some ⟨g5, 0, none⟩)), (10, .pointer (some ⟨g6, 0, none⟩))] ∧ q1 = ((decide ((0 : Int) < (t35_L.length : Int))) && (!(t35_Neg == b_Neg))) ∧ w13 = w') ?_ (fun hQ => ?_)
      · rintro _ _ ⟨q1, rfl, rfl, rfl⟩
        refine WL.nil (WX.then_normal ?_)
        refine WC.cond rfl (fun b2 => ?_) (fun b2 => ?_)
        · replace H := H.1 (b2)
          refine WC.seq ?_
          refine WC.chainF (fun k => !(Nat.beq k 1 || Nat.beq k 2 || Nat.beq k 3)) (LD [0] (fun w' => Bl w' g5 56 [.bool t31_Neg, .slice A_t31_L t31_L.length c_t31_L])) mixed (by kernel_rfl) (fun k w' h _ => (bl_eqv h k45)) ?_
          refine WJ.y rfl rfl (fun w' hw' => Yld.bagg (vs := [.bool t31_Neg, .slice A_t31_L t31_L.length c_t31_L]) tab_ok (hw' rfl) rfl rfl rfl rfl) ?_
          refine WJ.call rfl (wants_none) rfl rfl (W_smithyref9_Of H) (fun v w' h w2 e => DD.keep (Bl.g0 k45 (gr_eqv h.1 e))) ?_
          rintro _ w17 ⟨hg16, t48_Neg, t48_L, A_t48_L, c_t48_L, rfl, ht48_L, ho5, H⟩
          have gr17 := gr_trans gr13 hg16
          have k63 := k41.g0 hg16
          have k64 := k42.g0 hg16
          have k65 := k43.g0 hg16
          have k66 := k44.grown hg16
          have k67 := k45.g0 hg16
          have k68 := k46.grown hg16
          have k69 := hB10.g0 hg16
          refine WJ.call rfl (wants_none) rfl rfl (W_smithyref9_Num_Sub k66 rfl ht48_L rfl H) (fun v w' h w2 e => DD.keep (Bl.g0 k67 (gr_eqv h.1 e))) ?_
          rintro _ w18 ⟨hg17, t49_Neg, t49_L, A_t49_L, c_t49_L, rfl, ht49_L, ho6, H⟩
          have gr18 := gr_trans gr17 hg17
          have k70 := k63.g0 hg17
          have k71 := k64.g0 hg17
          have k72 := k65.g0 hg17
          have k73 := k66.grown hg17
          have k74 := k67.g0 hg17
          have k75 := k68.grown hg17
          have k76 := k69.g0 hg17
          refine WJ.eff rfl (Ef0.storeW (vs := [.bool t49_Neg, .slice A_t49_L t49_L.length c_t49_L]) tab_ok rfl rfl rfl (all1c rfl (all1c rfl all1n)) k74 rfl rfl) (fun w' h => DD.past (by kernel_rfl)) ?_
          rintro w19 ⟨hB13, hg18⟩
          have gr19 := gr_mod gr18 hg18 (Ge.le (Ge.box hl5) (size_le gr8))
          have k77 := k70.go hg18 (Dj.new k14.lt' (Ge.box hl5))
          have k78 := k71.go hg18 (Dj.new k15.lt' (Ge.box hl5))
          have k79 := k72.go hg18 (Dj.new k16.lt' (Ge.box hl5))
          have k80 := k75.go hg18 (Orig.apart ho4 hB8.lt' (orC (Dn.new (fun hx => k17.lt' hx) (Ge.box hl5)) orN))
          have k81 := k76.go hg18 ((Dj.new k34.lt' (Ge.box hl6)).symm)
          have k82 := ht49_L.go hg18 (Orig.apart ho6 k67.lt' (orC (Dn.new (fun hx => ht31_L.lt' hx) (Ge.box hl5)) (orC (Orig.apart ho5 k45.lt' orN) orN)))
          refine WJ.nil (WX.then_normal ?_)
          refine WC.region ?_
          refine WL.y rfl (Yld.bagg (vs := [.bool t35_Neg, .slice A_t35_L t35_L.length c_t35_L]) tab_ok k81 rfl rfl rfl rfl) ?_
          refine WL.y rfl (Yld.bagg (vs := [.bool b_Neg, .slice A_b_L b_L.length c_b_L]) tab_ok k77 rfl rfl rfl rfl) ?_
          refine WL.call rfl rfl (W_smithyref9_Num_Add k80 rfl (hb_L.grown gr19) rfl H) ?_
          rintro _ w20 ⟨hg19, t52_Neg, t52_L, A_t52_L, c_t52_L, rfl, ht52_L, ho7, H⟩
          have gr20 := gr_trans gr19 hg19
          have k83 := k78.g0 hg19
          have k84 := k79.g0 hg19
          have k85 := hB13.g0 hg19
          have k86 := k80.grown hg19
          have k87 := k81.g0 hg19
          have k88 := k82.grown hg19
          refine WL.storeW (vs := [.bool t52_Neg, .slice A_t52_L t52_L.length c_t52_L]) tab_ok rfl rfl rfl (all1c rfl (all1c rfl all1n)) k87 rfl rfl (fun w21 hB14 hg20 => ?_)
          have gr21 := gr_mod gr20 hg20 (Ge.le (Ge.box hl6) (size_le gr11))
          have k89 := k83.go hg20 (Dj.new k31.lt' (Ge.box hl6))
          have k90 := k84.go hg20 (Dj.new k32.lt' (Ge.box hl6))
          have k91 := k85.go hg20 (Dj.new k34.lt' (Ge.box hl6))
          have k92 := k88.go hg20 (Orig.apart ho6 k69.lt' (orC (Dn.new (fun hx => k33.lt' hx) (Ge.box hl6)) (orC (Orig.apart ho5 hB10.lt' orN) orN)))
          have k93 := ht52_L.go hg20 (Orig.apart ho7 k81.lt' (orC (Dn.new (fun hx => ht35_L.lt' hx) (Ge.box hl6)) (orC (Dn.new (fun hx => hb_L.lt' hx) (Ge.le (Ge.box hl6) (size_le gr11))) orN)))
          refine WL.nil ?_
          exact WX.weaken (by repeat (first | exact Sub.nil | refine Sub.cons rfl ?_)) (hQ _ _ ⟨t49_Neg, t49_L, A_t49_L, c_t49_L, t49_L.length, t52_Neg, t52_L, A_t52_L, c_t52_L, t52_L.length, rfl, H, rfl, rfl, gr21, k89, k90, k91, hB14, k92, k93, (Dj.new hB3.lt' (Ge.box hl4)), (Dj.new k15.lt' (Ge.box hl5)), (Dj.new k31.lt' (Ge.box hl6)), (Dj.new k16.lt' (Ge.box hl5)), (Dj.new k32.lt' (Ge.box hl6)), (Dj.new k34.lt' (Ge.box hl6)), (Orig.apart ho6 k64.lt' (orC (Orig.apart ho3 k11.lt' (orC (Orig.apart ho1 k6.lt' (orC (Dn.new (fun hx => ha_L.lt' hx) (Ge.le (Ge.box hl3) (size_le gr2))) (orC (Dn.new (fun hx => hb_L.lt' hx) (Ge.le (Ge.box hl3) (size_le gr2))) orN))) orN)) (orC (Orig.apart ho5 k42.lt' orN) orN))), (Orig.apart ho6 k65.lt' (orC (Orig.apart ho3 k12.lt' (orC (Orig.apart ho1 hB4.lt' (orC (Dn.new (fun hx => ha_L.lt' hx) (Ge.le (Ge.box hl4) (size_le gr3))) (orC (Dn.new (fun hx => hb_L.lt' hx) (Ge.le (Ge.box hl4) (size_le gr3))) orN))) orN)) (orC (Orig.apart ho5 k43.lt' orN) orN))), (Orig.apart ho6 k67.lt' (orC (Dn.new (fun hx => ht31_L.lt' hx) (Ge.box hl5)) (orC (Orig.apart ho5 k45.lt' orN) orN))), (Orig.apart ho6 k69.lt' (orC (Dn.new (fun hx => k33.lt' hx) (Ge.box hl6)) (orC (Orig.apart ho5 hB10.lt' orN) orN))), (Orig.apart ho7 k78.lt' (orC (Orig.apart ho4 k26.lt' (orC (Orig.apart ho2 k6.lt' (orC (Dn.new (fun hx => ha_L.lt' hx) (Ge.le (Ge.box hl3) (size_le gr2))) (orC (Dn.new (fun hx => hb_L.lt' hx) (Ge.le (Ge.box hl3) (size_le gr2))) orN))) orN)) (orC (Dn.new (fun hx => hb_L.lt' hx) (Ge.le (Ge.box hl3) (size_le gr2))) orN))), (Orig.apart ho7 k79.lt' (orC (Orig.apart ho4 k27.lt' (orC (Orig.apart ho2 hB4.lt' (orC (Dn.new (fun hx => ha_L.lt' hx) (Ge.le (Ge.box hl4) (size_le gr3))) (orC (Dn.new (fun hx => hb_L.lt' hx) (Ge.le (Ge.box hl4) (size_le gr3))) orN))) orN)) (orC (Dn.new (fun hx => hb_L.lt' hx) (Ge.le (Ge.box hl4) (size_le gr3))) orN))), (Orig.apart ho7 hB13.lt' (orC (Orig.apart ho4 hB8.lt' (orC (Dn.new (fun hx => k17.lt' hx) (Ge.box hl5)) orN)) (orC (Dn.new (fun hx => hb_L.lt' hx) (Ge.le (Ge.box hl5) (size_le gr8))) orN))), (Orig.apart ho7 k81.lt' (orC (Dn.new (fun hx => ht35_L.lt' hx) (Ge.box hl6)) (orC (Dn.new (fun hx => hb_L.lt' hx) (Ge.le (Ge.box hl6) (size_le gr11))) orN))), (Orig.trans ho6 (size_le gr17) (orC (Orig.trans ho3 (size_le gr7) (orC (Orig.trans ho1 (size_le gr4) (orC (Orig.par (List.Mem.head _)) (orC (Orig.par (List.Mem.tail _ (List.Mem.head _))) orN))) orN)) (orC (Orig.trans ho5 (size_le gr13) orN) orN))), (Orig.trans ho7 (size_le gr19) (orC (Orig.trans ho4 (size_le gr10) (orC (Orig.trans ho2 (size_le gr4) (orC (Orig.par (List.Mem.head _)) (orC (Orig.par (List.Mem.tail _ (List.Mem.head _))) orN))) orN)) (orC (Orig.par (List.Mem.tail _ (List.Mem.head _))) orN)))⟩)
        · replace H := H.2 (b2)
          refine WC.skip ?_
          exact WX.weaken (by repeat (first | exact Sub.nil | refine Sub.cons rfl ?_)) (hQ _ _ ⟨t31_Neg, t31_L, A_t31_L, c_t31_L, t31_L.length, t35_Neg, t35_L, A_t35_L, c_t35_L, t35_L.length, rfl, H, rfl, rfl, gr13, k42, k43, k45, hB10, k44, k46, (Dj.new hB3.lt' (Ge.box hl4)), (Dj.new k15.lt' (Ge.box hl5)), (Dj.new k31.lt' (Ge.box hl6)), (Dj.new k16.lt' (Ge.box hl5)), (Dj.new k32.lt' (Ge.box hl6)), (Dj.new k34.lt' (Ge.box hl6)), (Orig.apart ho3 k11.lt' (orC (Orig.apart ho1 k6.lt' (orC (Dn.new (fun hx => ha_L.lt' hx) (Ge.le (Ge.box hl3) (size_le gr2))) (orC (Dn.new (fun hx => hb_L.lt' hx) (Ge.le (Ge.box hl3) (size_le gr2))) orN))) orN)), (Orig.apart ho3 k12.lt' (orC (Orig.apart ho1 hB4.lt' (orC (Dn.new (fun hx => ha_L.lt' hx) (Ge.le (Ge.box hl4) (size_le gr3))) (orC (Dn.new (fun hx => hb_L.lt' hx) (Ge.le (Ge.box hl4) (size_le gr3))) orN))) orN)), (Dn.new (fun hx => ht31_L.lt' hx) (Ge.box hl5)), (Dn.new (fun hx => k33.lt' hx) (Ge.box hl6)), (Orig.apart ho4 k26.lt' (orC (Orig.apart ho2 k6.lt' (orC (Dn.new (fun hx => ha_L.lt' hx) (Ge.le (Ge.box hl3) (size_le gr2))) (orC (Dn.new (fun hx => hb_L.lt' hx) (Ge.le (Ge.box hl3) (size_le gr2))) orN))) orN)), (Orig.apart ho4 k27.lt' (orC (Orig.apart ho2 hB4.lt' (orC (Dn.new (fun hx => ha_L.lt' hx) (Ge.le (Ge.box hl4) (size_le gr3))) (orC (Dn.new (fun hx => hb_L.lt' hx) (Ge.le (Ge.box hl4) (size_le gr3))) orN))) orN)), (Orig.apart ho4 hB8.lt' (orC (Dn.new (fun hx => k17.lt' hx) (Ge.box hl5)) orN)), (Dn.new (fun hx => ht35_L.lt' hx) (Ge.box hl6)), (Orig.trans ho3 (size_le gr7) (orC (Orig.trans ho1 (size_le gr4) (orC (Orig.par (List.Mem.head _)) (orC (Orig.par (List.Mem.tail _ (List.Mem.head _))) orN))) orN)), (Orig.trans ho4 (size_le gr10) (orC (Orig.trans ho2 (size_le gr4) (orC (Orig.par (List.Mem.head _)) (orC (Orig.par (List.Mem.tail _ (List.Mem.head _))) orN))) orN))⟩)
      · clear H
        rcases Bool.eq_false_or_eq_true (decide ((0 : Int) < (t35_L.length : Int))) with b3 | b3
        · refine WL.gyes rfl rfl (okb b3) rfl (Yld.pure tab_ok rfl) ?_
          refine WL.gyes rfl rfl (okb b3) rfl (Yld.bload tab_ok hB10 rfl rfl rfl) ?_
          refine WL.gyes rfl rfl (okb b3) rfl (Yld.pure tab_ok rfl) ?_
          refine WL.gyes rfl rfl (okb b3) rfl (Yld.bload tab_ok k41 rfl rfl rfl) ?_
          refine WL.gyes rfl rfl (okb b3) rfl (Yld.bneq Tryd.underlying4 rfl rfl) ?_
          refine WL.y rfl (Yld.pickT (okb b3) rfl) ?_
          exact WL.weaken (by repeat (first | exact Sub.nil | refine Sub.cons rfl ?_)) (hQ _ _ ⟨!(t35_Neg == b_Neg), rfl, by rw [b3] <;> rfl, rfl⟩)
        · refine WL.gno rfl rfl (okb b3) rfl ?_
          refine WL.gno rfl rfl (okb b3) rfl ?_
          refine WL.gno rfl rfl (okb b3) rfl ?_
          refine WL.gno rfl rfl (okb b3) rfl ?_
          refine WL.gno rfl rfl (okb b3) rfl ?_
          refine WL.y rfl (Yld.pickF (okb b3) rfl) ?_
          exact WL.weaken (by repeat (first | exact Sub.nil | refine Sub.cons rfl ?_)) (hQ _ _ ⟨false, rfl, by rw [b3] <;> rfl, rfl⟩)

set_option maxHeartbeats 8000000 in
theorem W_smithyref9_Num_Cmp {w : World} {a_Neg : Bool} {a_L : List Int} {A_a_L : Option Addr} {c_a_L : Nat} {b_Neg : Bool} {b_L : List Int} {A_b_L : Option Addr} {c_b_L : Nat} {n_a_L : Nat} {n_b_L : Nat} {K : Int → Prop} (ha_L : Rd vi w A_a_L c_a_L a_L) (hn_a_L : n_a_L = a_L.length) (hb_L : Rd vi w A_b_L c_b_L b_L) (hn_b_L : n_b_L = b_L.length) (H : M_smithyref9_Num_Cmp a_Neg a_L b_Neg b_L K) : Fn Tryd.prog 40 ⟨[.agg ⟨[.bool a_Neg, .slice A_a_L n_a_L c_a_L]⟩, .agg ⟨[.bool b_Neg, .slice A_b_L n_b_L c_b_L]⟩]⟩ w (fun v w' => w.grownBy w' none ∧ ∃ (r : Int), v = .int .i64 r ∧ K r) := by
  subst hn_a_L
  subst hn_b_L
  unfold M_smithyref9_Num_Cmp at H
  refine Fn.enter (by kernel_rfl) Tryd.func40 rfl Tryd.ntmps40 rfl ?_
  replace H := H (Nat.le_trans ha_L.cap ha_L.max)
  replace H := H (Nat.le_trans hb_L.cap hb_L.max)
  refine WC.seq ?_
  refine WC.region ?_
  refine WL.box (us := [.bool a_Neg, .slice A_a_L a_L.length c_a_L]) rfl rfl rfl (fun g1 w1 hB1 hg1 hl1 => ?_)
  have gr1 := hg1
  refine WL.box (us := [.bool b_Neg, .slice A_b_L b_L.length c_b_L]) rfl rfl rfl (fun g2 w2 hB2 hg2 hl2 => ?_)
  have gr2 := gr_trans gr1 hg2
  have k1 := hB1.g0 hg2
  refine WL.y rfl (Yld.pure tab_ok rfl) ?_
  refine WL.nil (WX.then_normal ?_)
  refine WC.seq ?_
  refine WC.seq ?_
  refine WC.region ?_
  refine WL.y rfl (Yld.pure tab_ok rfl) ?_
  refine WL.y rfl (Yld.bload tab_ok k1 rfl rfl rfl) ?_
  refine WL.y rfl (Yld.pure tab_ok rfl) ?_
  refine WL.y rfl (Yld.bload tab_ok hB2 rfl rfl rfl) ?_
  refine WL.y rfl (Yld.bneq Tryd.underlying4 rfl rfl) ?_
  refine WL.nil (WX.then_normal ?_)
  refine WC.cond rfl (fun b1 => ?_) (fun b1 => ?_)
  · replace H := H.1 (b1)
    refine WC.seq ?_
    refine WC.seq ?_
    refine WC.region ?_
    refine WL.y rfl (Yld.pure tab_ok rfl) ?_
    refine WL.y rfl (Yld.bload tab_ok k1 rfl rfl rfl) ?_
    refine WL.nil (WX.then_normal ?_)
    refine WC.cond rfl (fun b2 => ?_) (fun b2 => ?_)
    · replace H := H.1 (b2)
      refine WC.seq ?_
      refine WC.region ?_
      refine WL.y rfl (Yld.pure tab_ok rfl) ?_
      refine WL.nil (WX.then_normal ?_)
      refine WC.ret (WX.then_ret (WX.then_ret ?_))
      exact WX.ret1 rfl rfl ⟨gr2, (-1 : Int), rfl, H⟩
    · replace H := H.2 (b2)
      refine WC.skip (WX.then_normal ?_)
      refine WC.seq ?_
      refine WC.region ?_
      refine WL.y rfl (Yld.pure tab_ok rfl) ?_
      refine WL.nil (WX.then_normal ?_)
      refine WC.ret (WX.then_ret ?_)
      exact WX.ret1 rfl rfl ⟨gr2, (1 : Int), rfl, H⟩
  · replace H := H.2 (b1)
    refine WC.skip (WX.then_normal ?_)
    refine WC.seq ?_
    refine WC.seq ?_
    refine WC.region ?_
    refine WL.y rfl (Yld.pure tab_ok rfl) ?_
    refine WL.y rfl (Yld.bload tab_ok k1 rfl rfl rfl) ?_
    refine WL.nil (WX.then_normal ?_)
    refine WC.cond rfl (fun b3 => ?_) (fun b3 => ?_)
    · replace H := H.1 (b3)
      refine WC.seq ?_
      refine WC.region ?_
      refine WL.y rfl (Yld.pure tab_ok rfl) ?_
      refine WL.y rfl (Yld.bload tab_ok hB2 rfl rfl rfl) ?_
      refine WL.y rfl (Yld.pure tab_ok rfl) ?_
      refine WL.y rfl (Yld.bload tab_ok k1 rfl rfl rfl) ?_
      refine WL.call rfl rfl (W_smithyref9_size (hb_L.grown gr2) rfl (ha_L.grown gr2) rfl H) ?_
      rintro _ _ ⟨rfl, t4, rfl, H⟩
      refine WL.y rfl (Yld.pure tab_ok rfl) ?_
      refine WL.nil (WX.then_normal ?_)
      refine WC.ret (WX.then_ret ?_)
      exact WX.ret1 rfl rfl ⟨gr2, t4, rfl, H⟩
    · replace H := H.2 (b3)
      refine WC.skip (WX.then_normal ?_)
      refine WC.seq ?_
      refine WC.region ?_
      refine WL.y rfl (Yld.pure tab_ok rfl) ?_
      refine WL.y rfl (Yld.bload tab_ok k1 rfl rfl rfl) ?_
      refine WL.y rfl (Yld.pure tab_ok rfl) ?_
      refine WL.y rfl (Yld.bload tab_ok hB2 rfl rfl rfl) ?_
      refine WL.call rfl rfl (W_smithyref9_size (ha_L.grown gr2) rfl (hb_L.grown gr2) rfl H) ?_
      rintro _ _ ⟨rfl, t42, rfl, H⟩
      refine WL.y rfl (Yld.pure tab_ok rfl) ?_
      refine WL.nil (WX.then_normal ?_)
      refine WC.ret ?_
      exact WX.ret1 rfl rfl ⟨gr2, t42, rfl, H⟩

set_option maxHeartbeats 8000000 in
theorem W_smithyref9_Num_Int {w : World} {a_Neg : Bool} {a_L : List Int} {A_a_L : Option Addr} {c_a_L : Nat} {n_a_L : Nat} {K : Int → Bool → Prop} (ha_L : Rd vi w A_a_L c_a_L a_L) (hn_a_L : n_a_L = a_L.length) (H : M_smithyref9_Num_Int a_Neg a_L K) : Fn Tryd.prog 35 ⟨[.agg ⟨[.bool a_Neg, .slice A_a_L n_a_L c_a_L]⟩]⟩ w (fun v w' => w.grownBy w' none ∧ ∃ (r0 : Int), ∃ (r1 : Bool), v = .tuple #[.int .i64 r0, .bool r1] ∧ K r0 r1) := by
  subst hn_a_L
  unfold M_smithyref9_Num_Int at H
  refine Fn.enter (by kernel_rfl) Tryd.func35 rfl Tryd.ntmps35 rfl ?_
  replace H := H (Nat.le_trans ha_L.cap ha_L.max)
  refine WC.seq ?_
  refine WC.region ?_
  refine WL.box (us := [.bool a_Neg, .slice A_a_L a_L.length c_a_L]) rfl rfl rfl (fun g1 w1 hB1 hg1 hl1 => ?_)
  have gr1 := hg1
  refine WL.y rfl (Yld.pure tab_ok rfl) ?_
  refine WL.y rfl (Yld.pure tab_ok rfl) ?_
  refine WL.nil (WX.then_normal ?_)
  refine WC.seq ?_
  refine WC.seq ?_
  refine WC.chainF (fun k => !(Nat.beq k 1 || Nat.beq k 2 || Nat.beq k 6 || Nat.beq k 7)) (LD [0, 5] (fun w' => Bl w' g1 56 [.bool a_Neg, .slice A_a_L a_L.length c_a_L])) mixed (by kernel_rfl) (fun k w' h _ => (bl_eqv h hB1)) ?_
  refine WJ.y rfl rfl (fun w' hw' => Yld.bagg (vs := [.bool a_Neg, .slice A_a_L a_L.length c_a_L]) tab_ok (hw' rfl) rfl rfl rfl rfl) ?_
  refine WJ.call rfl (wants_none) rfl rfl (W_smithyref9_Of H) (fun v w' h w2 e => DD.keep (Bl.g0 hB1 (gr_eqv h.1 e))) ?_
  rintro _ w2 ⟨hg2, t7_Neg, t7_L, A_t7_L, c_t7_L, rfl, ht7_L, ho1, H⟩
  have gr2 := gr_trans gr1 hg2
  have k1 := hB1.g0 hg2
  refine WJ.call rfl (wants_none) rfl rfl (W_smithyref9_Num_Cmp (ha_L.grown gr2) rfl ht7_L rfl H) (fun v w' h w2 e => DD.keep (Bl.g0 k1 (gr_eqv h.1 e))) ?_
  rintro _ w3 ⟨hg3, t8, rfl, H⟩
  have gr3 := gr_trans gr2 hg3
  have k2 := k1.g0 hg3
  refine WJ.y rfl rfl (fun w' hw' => Yld.pure tab_ok rfl) ?_
  refine WJ.y rfl rfl (fun w' hw' => Yld.pure tab_ok rfl) ?_
  obtain ⟨J1, H, hJ1⟩ := H
  refine WJ.midF 5 (fun L' w' => ∃ q1 : Bool, L' = [(15, .bool q1), (1, .pointer (some ⟨g1, 0, none⟩))] ∧ J1 q1 ∧ w.grownBy w' none ∧ Bl w' g1 56 [.bool a_Neg, .slice A_a_L a_L.length c_a_L]) ?_ (fun hQ => ?_)
  · clear H
    rintro _ w4 ⟨q1, rfl, H, gr4, k3⟩
    replace H := hJ1 q1 H
    refine WJ.nil (WX.then_normal ?_)
    refine WC.cond rfl (fun b1 => ?_) (fun b1 => ?_)
    · replace H := H.1 (b1)
      refine WC.seq ?_
      refine WC.region ?_
      refine WL.y rfl (Yld.pure tab_ok rfl) ?_
      refine WL.y rfl (Yld.pure tab_ok rfl) ?_
      refine WL.nil (WX.then_normal ?_)
      refine WC.ret (WX.then_ret ?_)
      exact WX.ret2 rfl rfl rfl ⟨gr4, (0 : Int), false, rfl, H⟩
    · replace H := H.2 (b1)
      refine WC.skip (WX.then_normal ?_)
      refine WC.seq ?_
      refine WC.region ?_
      refine WL.y rfl (Yld.pure tab_ok rfl) ?_
      refine WL.nil (WX.then_normal ?_)
      refine WC.seq ?_
      refine WC.seq ?_
      refine WC.region ?_
      refine WL.y rfl (Yld.pure tab_ok rfl) ?_
      refine WL.y rfl (Yld.bload tab_ok k3 rfl rfl rfl) ?_
      refine WL.y rfl (Yld.pure tab_ok rfl) ?_
      obtain ⟨h1, H⟩ := H
      refine WL.y rfl (Yld.sub rfl rfl h1) ?_
      refine WL.y rfl (Yld.pure tab_ok rfl) ?_
      refine WL.nil (WX.then_normal ?_)
      refine WC.block ?_
      obtain ⟨I1, mu1, h0_1, HR1⟩ := H
      refine WC.loopF (fun n' L' w' => ∃ (n : Int), ∃ (i : Int), n' = mu1 n i ∧ L' = [(1, .pointer (some ⟨g1, 0, none⟩)), (4, .int .i64 n), (5, .int .i64 i)] ∧ I1 n i ∧ w4 = w') _ _ ⟨(0 : Int), (a_L.length : Int) - (1 : Int), rfl, rfl, h0_1, rfl⟩ (by repeat (first | exact Sub.nil | refine Sub.cons rfl ?_)) ?_
      clear h0_1
      rintro _ _ _ ⟨n, i, rfl, rfl, hI1, rfl⟩
      have H := HR1 n i hI1
      refine WC.seq ?_
      refine WC.seq ?_
      refine WC.region ?_
      refine WL.y rfl (Yld.pure tab_ok rfl) ?_
      refine WL.y rfl (Yld.pure tab_ok rfl) ?_
      refine WL.nil (WX.then_normal ?_)
      refine WC.cond rfl (fun b2 => ?_) (fun b2 => ?_)
      · replace H := H.1 (of_decide_eq_true b2)
        refine WC.skip (WX.then_normal ?_)
        refine WC.seq ?_
        refine WC.block ?_
        refine WC.region ?_
        refine WL.y rfl (Yld.pure tab_ok rfl) ?_
        obtain ⟨h2, H⟩ := H
        refine WL.y rfl (Yld.mul rfl rfl h2) ?_
        refine WL.y rfl (Yld.pure tab_ok rfl) ?_
        refine WL.y rfl (Yld.bload tab_ok k3 rfl rfl rfl) ?_
        refine WL.y rfl (Yld.pure tab_ok rfl) ?_
        obtain ⟨h3, H⟩ := H
        refine WL.y rfl (Yld.iaddrW tab_ok (ha_L.grown gr4) rfl rfl rfl rfl h3.1 h3.2) ?_
        refine WL.y rfl (Yld.iload 0 tab_ok (ha_L.grown gr4) rfl rfl (iltN h3 rfl)) ?_
        obtain ⟨h4, H⟩ := H
        refine WL.y rfl (Yld.sub rfl rfl h4) ?_
        refine WL.y rfl (Yld.pure tab_ok rfl) ?_
        refine WL.nil (WX.block_normal (WX.then_normal ?_))
        refine WC.region ?_
        refine WL.y rfl (Yld.pure tab_ok rfl) ?_
        obtain ⟨h5, H⟩ := H
        refine WL.y rfl (Yld.sub rfl rfl h5) ?_
        refine WL.y rfl (Yld.pure tab_ok rfl) ?_
        refine WL.nil ?_
        exact WX.roundF _ ⟨(n * (10000 : Int)) - (a_L.getD i.toNat 0), i - (1 : Int), rfl, rfl, H.1, rfl⟩ (by repeat (first | exact Sub.nil | refine Sub.cons rfl ?_)) H.2
      · replace H := H.2 (of_decide_eq_false b2)
        refine WC.exit (WX.then_exit (WX.then_exit (WX.block_same (WX.then_normal ?_))))
        refine WC.seq ?_
        obtain ⟨J2, H, hJ2⟩ := H
        refine WC.midF (fun L' w' => ∃ (n2 : Int), L' = [(4, .int .i64 n2)] ∧ J2 n2 ∧ w4 = w') ?_ (fun hQ => ?_)
        · clear H
          rintro _ _ ⟨n2, rfl, H, rfl⟩
          replace H := hJ2 n2 H
          refine WX.then_normal ?_
          refine WC.seq ?_
          refine WC.region ?_
          refine WL.y rfl (Yld.pure tab_ok rfl) ?_
          refine WL.y rfl (Yld.pure tab_ok rfl) ?_
          refine WL.y rfl (Yld.pure tab_ok rfl) ?_
          refine WL.nil (WX.then_normal ?_)
          refine WC.ret ?_
          exact WX.ret2 rfl rfl rfl ⟨gr4, n2, true, rfl, H⟩
        · clear hJ2
          refine WC.seq ?_
          refine WC.region ?_
          refine WL.y rfl (Yld.pure tab_ok rfl) ?_
          refine WL.y rfl (Yld.bload tab_ok k3 rfl rfl rfl) ?_
          refine WL.y rfl (Yld.pure tab_ok rfl) ?_
          refine WL.nil (WX.then_normal ?_)
          refine WC.cond rfl (fun b3 => ?_) (fun b3 => ?_)
          · replace H := H.1 (b3)
            refine WC.region ?_
            refine WL.y rfl (Yld.pure tab_ok rfl) ?_
            obtain ⟨h6, H⟩ := H
            refine WL.y rfl (Yld.neg tab_ok rfl h6) ?_
            refine WL.y rfl (Yld.pure tab_ok rfl) ?_
            refine WL.nil ?_
            exact WX.weaken (by repeat (first | exact Sub.nil | refine Sub.cons rfl ?_)) (hQ _ _ ⟨0 - n, rfl, H, rfl⟩)
          · replace H := H.2 (b3)
            refine WC.skip ?_
            exact WX.weaken (by repeat (first | exact Sub.nil | refine Sub.cons rfl ?_)) (hQ _ _ ⟨n, rfl, H, rfl⟩)
  · clear hJ1
    rcases Bool.eq_false_or_eq_true (decide (t8 < (0 : Int))) with b4 | b4
    · replace H := H.1 b4
      refine WJ.no rfl rfl (okb b4) rfl ?_
      refine WJ.no rfl rfl (okb b4) rfl ?_
      refine WJ.no rfl rfl (okb b4) rfl ?_
      refine WJ.no rfl rfl (okb b4) rfl ?_
      refine WJ.y rfl rfl (fun w' hw' => Yld.pickT (okb b4) rfl) ?_
      exact WJ.weaken (by repeat (first | exact Sub.nil | refine Sub.cons rfl ?_)) (hQ _ _ ⟨true, rfl, H, gr3, k2⟩)
    · replace H := H.2 b4
      refine WJ.yw rfl (wants_some rfl rfl (okb b4)) rfl (fun w' hw' => Yld.bagg (vs := [.bool a_Neg, .slice A_a_L a_L.length c_a_L]) tab_ok (hw' rfl) rfl rfl rfl rfl) ?_
      refine WJ.call rfl (wants_some rfl rfl (okb b4)) rfl rfl (W_smithyref9_Of H) (fun v w' h w2 e => DD.keep (Bl.g0 k2 (gr_eqv h.1 e))) ?_
      rintro _ w5 ⟨hg4, t12_Neg, t12_L, A_t12_L, c_t12_L, rfl, ht12_L, ho2, H⟩
      have gr5 := gr_trans gr3 hg4
      have k4 := k2.g0 hg4
      refine WJ.call rfl (wants_some rfl rfl (okb b4)) rfl rfl (W_smithyref9_Num_Cmp (ha_L.grown gr5) rfl ht12_L rfl H) (fun v w' h w2 e => DD.keep (Bl.g0 k4 (gr_eqv h.1 e))) ?_
      rintro _ w6 ⟨hg5, t13, rfl, H⟩
      have gr6 := gr_trans gr5 hg5
      have k5 := k4.g0 hg5
      have k6 := ht12_L.grown hg5
      refine WJ.yw rfl (wants_some rfl rfl (okb b4)) rfl (fun w' hw' => Yld.pure tab_ok rfl) ?_
      refine WJ.y rfl rfl (fun w' hw' => Yld.pickF (okb b4) rfl) ?_
      exact WJ.weaken (by repeat (first | exact Sub.nil | refine Sub.cons rfl ?_)) (hQ _ _ ⟨decide ((0 : Int) < t13), rfl, H, gr6, k5⟩)

end Go.Proofs.YtilphcippnfklaaDoor
 /- The chapter's numbers: plain. -/
namespace Go.Proofs.YtilphcippnfklaaDoor
open Go Go.RowKit
/-- a number of the chapter: its sign and its limbs say z; at most m limbs -/
structure RN (neg : Bool) (L : List Int) (z : Int) (m : Nat) : Prop where
  cn : Cn L
  zr : L = [] → neg = false
  val : z = bif neg then -lv L else lv L
  len : L.length ≤ m
theorem lgetD_ge {l : List Int} {j : Nat} (h : l.length ≤ j) : l.getD j 0 = 0 := by simp [List.getD, List.getElem?_eq_none h]
theorem trim_M {neg : Bool} {l : List Int} {K : Bool → List Int → Prop} (h : Lb l) (hl : l.length ≤ 100000) (k : ∀ L, Cn L → lv L = lv l → L.length ≤ l.length → K (neg && decide ((0 : Int) < (L.length : Int))) L) : M_smithyref9_trim neg l K := by
  intro _
  refine ⟨fun n => 0 ≤ n ∧ n ≤ l.length ∧ ∀ j, n.toNat ≤ j → l.getD j 0 = 0, fun n => n.toNat, ⟨by omega, by omega, fun j hj => lgetD_ge (by omega)⟩, fun n ⟨a0, a1, a2⟩ => ⟨fun h1 => ?_, fun h1 => ?_, fun h1 => ?_, fun h1 => ⟨by omega, ?_⟩⟩⟩
  · rw [decide_eq_true_eq] at h1; simp only [In]; omega
  · rw [decide_eq_true_eq] at h1; omega
  · rw [Bool.and_eq_true, decide_eq_true_eq, decide_eq_true_eq] at h1
    refine ⟨by simp only [In]; omega, ⟨by omega, by omega, fun j hj => ?_⟩, by dsimp only; omega⟩
    by_cases e : j = (n - 1).toNat
    · rw [e]; exact h1.2
    · exact a2 j (by omega)
  · rw [Bool.and_eq_false_iff, decide_eq_false_iff_not, decide_eq_false_iff_not] at h1
    have ht : n.toNat = 0 ∨ l.getD (n.toNat - 1) 0 ≠ 0 := by
      rcases h1 with h1 | h1
      · exact .inl (by omega)
      · rw [show (n - 1).toNat = n.toNat - 1 by omega] at h1
        exact .inr h1
    obtain ⟨hC, hv⟩ := trim_spec h (n := n.toNat) (by omega) a2 ht
    have hlen : (l.take n.toNat).length = n.toNat := by rw [List.length_take]; omega
    have := k _ hC hv (by omega)
    rw [hlen] at this
    rw [List.drop_zero, Nat.sub_zero]
    rw [show decide ((0 : Int) < ((n.toNat : Nat) : Int)) = decide ((0 : Int) < n) by rw [Bool.eq_iff_iff, decide_eq_true_eq, decide_eq_true_eq]; omega] at this
    exact this
theorem trimR_M {neg : Bool} {l : List Int} {z : Int} {m : Nat} {K : Bool → List Int → Prop} (h : Lb l) (hl : l.length ≤ m) (hm : m ≤ 100000) (hz : z = bif neg then -lv l else lv l) (k : ∀ n L, RN n L z m → K n L) : M_smithyref9_trim neg l K :=
  trim_M h (by omega) fun L hC hv hL => k _ L ⟨hC, fun e => by subst e; simp, by
    by_cases e : L = []
    · subst e
      have h0 : lv l = 0 := by rw [← hv]; rfl
      rw [hz, h0]
      simp [lv]
    · have : 0 < L.length := List.length_pos_iff.2 e
      rw [decide_eq_true (by omega), Bool.and_true, hz, hv], by omega⟩
theorem trim0_M {l : List Int} {m : Nat} {K : Bool → List Int → Prop} (h : Lb l) (hl : l.length ≤ m) (hm : m ≤ 100000) (k : ∀ L, Cn L → lv L = lv l → L.length ≤ m → K false L) : M_smithyref9_trim false l K :=
  trim_M h (by omega) fun L hC hv hL => k L hC hv (by omega)
theorem size_M {a b : List Int} {K : Int → Prop} (ha : Cn a) (hb : Cn b) (la : a.length ≤ 100000) (lb : b.length ≤ 100000) (k : K (if lv a < lv b then -1 else if lv b < lv a then 1 else 0)) : M_smithyref9_size a b K := by
  intro _ _
  refine ⟨fun hne => ⟨fun h => ?_, fun h => ?_⟩, fun he => ⟨by simp only [In]; omega, ?_⟩⟩
  · rw [if_pos (ha.len_lt hb (by omega))] at k; exact k
  · have := hb.len_lt ha (by omega)
    rw [if_neg (by omega), if_pos this] at k; exact k
  refine ⟨fun i => -1 ≤ i ∧ i < a.length ∧ a.drop (i + 1).toNat = b.drop (i + 1).toNat, fun i => (i + 1).toNat, ⟨by omega, by omega, ?_⟩, fun i ⟨a0, a1, a2⟩ => ⟨fun hi => ⟨by omega, by omega, fun h => ?_, fun h => ⟨by omega, by omega, fun h2 => ?_, fun h2 => ⟨by simp only [In]; omega, ⟨by omega, by omega, ?_⟩, by dsimp only; omega⟩⟩⟩, fun hi => ?_⟩⟩
  · rw [List.drop_eq_nil_of_le (by omega), List.drop_eq_nil_of_le (by omega)]
  · rw [show (i + 1).toNat = i.toNat + 1 by omega] at a2
    rw [if_pos (dig_lt ha.1 hb.1 i.toNat a2 h)] at k; exact k
  · rw [show (i + 1).toNat = i.toNat + 1 by omega] at a2
    have := dig_lt hb.1 ha.1 i.toNat a2.symm h2
    rw [if_neg (by omega), if_pos this] at k; exact k
  · rw [show (i + 1).toNat = i.toNat + 1 by omega] at a2
    rw [show (i - 1 + 1).toNat = i.toNat by omega, List.drop_eq_getElem_cons (by omega), List.drop_eq_getElem_cons (l := b) (by omega), a2]
    have : a.getD i.toNat 0 = b.getD i.toNat 0 := by omega
    simp only [List.getD, List.getElem?_eq_getElem (show i.toNat < a.length by omega), List.getElem?_eq_getElem (show i.toNat < b.length by omega), Option.getD_some] at this
    rw [this]
  · have e : a = b := by
      rw [show (i + 1).toNat = 0 by omega, List.drop_zero, List.drop_zero] at a2
      exact a2
    rw [e, if_neg (by omega), if_neg (by omega)] at k
    exact k
theorem rsum_M {a b : List Int} {m : Nat} {K : List Int → Prop} (ha : Lb a) (hb : Lb b) (la : a.length ≤ m) (lb : b.length ≤ m) (hm : m ≤ 10000) (k : ∀ l, Lb l → lv l = lv a + lv b → l.length ≤ m + 1 → K l) : M_smithyref9_sum a b K := by
  intro _ _
  refine ⟨fun l c i => 0 ≤ i ∧ i ≤ m + 1 ∧ (m < i → c = 0) ∧ l.length = i.toNat ∧ Lb l ∧ 0 ≤ c ∧ c ≤ 1 ∧ lv l + 10000 ^ i.toNat * c = lv (a.take i.toNat) + lv (b.take i.toNat), fun _ _ i => (m + 2 - i).toNat, ⟨by omega, by omega, fun _ => rfl, rfl, Lb.nil, by omega, by omega, by simp [lv]⟩, fun l c i ⟨a0, a1, a2, a3, a4, a5, a6, a7⟩ => ⟨fun h => ?_, fun h => ?_⟩⟩
  · rw [Bool.or_eq_true, Bool.or_eq_true, decide_eq_true_eq, decide_eq_true_eq, decide_eq_true_eq] at h
    have g1 := ha.getD i.toNat
    have g2 := hb.getD i.toNat
    refine ⟨fun x => x = c + a.getD i.toNat 0, ⟨fun h1 => ⟨by omega, by simp only [In]; omega, rfl⟩, fun h1 => by rw [lgetD_ge (by omega)]; omega⟩, ?_⟩
    rintro x rfl
    refine ⟨fun x => x = c + a.getD i.toNat 0 + b.getD i.toNat 0, ⟨fun h1 => ⟨by omega, by simp only [In]; omega, rfl⟩, fun h1 => by rw [lgetD_ge (l := b) (by omega)]; omega⟩, ?_⟩
    rintro x rfl
    have hs := push_step l (c + a.getD i.toNat 0 + b.getD i.toNat 0) a3
    refine ⟨by omega, by simp only [List.length_singleton]; omega, ⟨by omega, by omega, by simp only [In]; omega⟩, by simp only [In]; omega, ⟨by omega, by omega, fun h1 => ?_, by simp only [List.length_append, List.length_singleton]; omega, a4.pushm _, by omega, by omega, ?_⟩, by dsimp only; omega⟩
    · have e1 := lgetD_ge (l := a) (j := i.toNat) (by omega)
      have e2 := lgetD_ge (l := b) (j := i.toNat) (by omega)
      rw [e1, e2]; omega
    · rw [show (i + 1).toNat = i.toNat + 1 by omega, hs, lv_take_succ, lv_take_succ]
      generalize (10000 : Int) ^ i.toNat = P at *
      grind
  · rw [Bool.or_eq_false_iff, Bool.or_eq_false_iff, decide_eq_false_iff_not, decide_eq_false_iff_not, decide_eq_false_iff_not] at h
    obtain rfl : c = 0 := by omega
    refine k l a4 ?_ (by omega)
    rw [List.take_of_length_le (by omega), List.take_of_length_le (by omega)] at a7
    omega
theorem less_M {a b : List Int} {K : List Int → Prop} (ha : Lb a) (hb : Lb b) (la : a.length ≤ 10000) (lb : b.length ≤ a.length) (hle : lv b ≤ lv a) (k : ∀ l, Lb l → lv l = lv a - lv b → l.length ≤ a.length → K l) : M_smithyref9_less a b K := by
  intro _ _
  refine ⟨fun l c i => 0 ≤ i ∧ i ≤ a.length ∧ l.length = i.toNat ∧ Lb l ∧ 0 ≤ c ∧ c ≤ 1 ∧ lv l - 10000 ^ i.toNat * c = lv (a.take i.toNat) - lv (b.take i.toNat), fun _ _ i => (a.length - i).toNat, ⟨by omega, by omega, rfl, Lb.nil, by omega, by omega, by simp [lv]⟩, fun l c i ⟨a0, a1, a3, a4, a5, a6, a7⟩ => ⟨fun h => ?_, fun h => ?_⟩⟩
  · have g1 := ha.getD i.toNat
    have g2 := hb.getD i.toNat
    refine ⟨by omega, by simp only [In]; omega, fun x => x = a.getD i.toNat 0 - c - b.getD i.toNat 0, ⟨fun h1 => ⟨by omega, by simp only [In]; omega, rfl⟩, fun h1 => by rw [lgetD_ge (l := b) (by omega)]; omega⟩, ?_⟩
    rintro x rfl
    have key : ∀ c' x' : Int, (0 ≤ c' ∧ c' ≤ 1) → (0 ≤ x' ∧ x' < 10000) → x' - 10000 * c' = a.getD i.toNat 0 - c - b.getD i.toNat 0 → lv (l ++ [x']) - 10000 ^ (i + 1).toNat * c' = lv (a.take (i + 1).toNat) - lv (b.take (i + 1).toNat) := by
      intro c' x' _ _ hx
      rw [show (i + 1).toNat = i.toNat + 1 by omega, lv_take_succ, lv_take_succ, lv_push, lpow_succ, a3]
      generalize (10000 : Int) ^ i.toNat = P at *
      have : P * x' - 10000 * P * c' = P * (a.getD i.toNat 0 - c - b.getD i.toNat 0) := by rw [← hx]; grind
      grind
    refine ⟨fun c' x' => (0 ≤ c' ∧ c' ≤ 1) ∧ (0 ≤ x' ∧ x' < 10000) ∧ x' - 10000 * c' = a.getD i.toNat 0 - c - b.getD i.toNat 0, ⟨fun h1 => ⟨by simp only [In]; omega, by omega, by omega, by omega⟩, fun h1 => ⟨by omega, by omega, by omega⟩⟩, ?_⟩
    rintro c' x' ⟨h1, h2, h3⟩
    exact ⟨by simp only [List.length_singleton]; omega, by simp only [In]; omega, ⟨by omega, by omega, by simp only [List.length_append, List.length_singleton]; omega, a4.push h2.1 h2.2, h1.1, h1.2, key c' x' h1 h2 h3⟩, by dsimp only; omega⟩
  · have hi : i.toNat = a.length := by omega
    rw [hi] at a7 a3
    rw [List.take_of_length_le (Nat.le_refl _), List.take_of_length_le lb] at a7
    have hlt := lv_lt a4
    rw [a3] at hlt
    have h0 : c = 0 := by
      rcases (show c = 0 ∨ c = 1 by omega) with e | e
      · exact e
      · rw [e] at a7; omega
    rw [h0] at a7
    exact k l a4 (by omega) (by omega)
end Go.Proofs.YtilphcippnfklaaDoor
 /- The chapter's numbers: products, quotients: plain. -/
namespace Go.Proofs.YtilphcippnfklaaDoor
open Go Go.RowKit
theorem mul_range {x y : Int} (hx : 0 ≤ x ∧ x < 10000) (hy : 0 ≤ y ∧ y < 10000) : 0 ≤ x * y ∧ x * y ≤ 9999 * 9999 :=
  ⟨Int.mul_nonneg hx.1 hy.1, Int.mul_le_mul (by omega) (by omega) hy.1 (by omega)⟩
theorem times_M {a : List Int} {n : Int} {m : Nat} {K : List Int → Prop} (ha : Lb a) (hn : 0 ≤ n ∧ n < 10000) (la : a.length ≤ m) (hm : m ≤ 10000) (k : ∀ L, Cn L → lv L = n * lv a → L.length ≤ m + 1 → K L) : M_smithyref9_times a n K := by
  intro _
  refine ⟨fun l c i => 0 ≤ i ∧ i ≤ m + 1 ∧ (m < i → c = 0) ∧ l.length = i.toNat ∧ Lb l ∧ 0 ≤ c ∧ c ≤ 9999 ∧ lv l + 10000 ^ i.toNat * c = n * lv (a.take i.toNat), fun _ _ i => (m + 2 - i).toNat, ⟨by omega, by omega, fun _ => rfl, rfl, Lb.nil, by omega, by omega, by simp [lv]⟩, fun l c i ⟨a0, a1, a2, a3, a4, a5, a6, a7⟩ => ⟨fun h => ?_, fun h => ?_⟩⟩
  · rw [Bool.or_eq_true, decide_eq_true_eq, decide_eq_true_eq] at h
    have g := mul_range (ha.getD i.toNat) hn
    refine ⟨fun x => x = c + a.getD i.toNat 0 * n, ⟨fun h1 => ⟨by omega, by simp only [In]; omega, by simp only [In]; omega, rfl⟩, fun h1 => by rw [lgetD_ge (by omega)]; omega⟩, ?_⟩
    rintro x rfl
    have hs := push_step l (c + a.getD i.toNat 0 * n) a3
    refine ⟨by omega, by simp only [List.length_singleton]; omega, ⟨by omega, by omega, by simp only [In]; omega⟩, by simp only [In]; omega, ⟨by omega, by omega, fun h1 => ?_, by simp only [List.length_append, List.length_singleton]; omega, a4.pushm _, by omega, by omega, ?_⟩, by dsimp only; omega⟩
    · rw [lgetD_ge (l := a) (j := i.toNat) (by omega)]; omega
    · rw [show (i + 1).toNat = i.toNat + 1 by omega, hs, lv_take_succ]
      generalize (10000 : Int) ^ i.toNat = P at *
      grind
  · rw [Bool.or_eq_false_iff, decide_eq_false_iff_not, decide_eq_false_iff_not] at h
    obtain rfl : c = 0 := by omega
    rw [List.take_of_length_le (by omega)] at a7
    exact trim0_M a4 (m := m + 1) (by omega) (by omega) fun L hC hv hL => k L hC (by omega) hL
theorem zmul (s t : Bool) (x y : Int) : (bif (!(s == t)) then -(x * y) else x * y) = (bif s then -x else x) * (bif t then -y else y) := by
  cases s <;> cases t <;> simp [Int.neg_mul, Int.mul_neg]
theorem rmul_M {s t : Bool} {a b : List Int} {x y : Int} {m : Nat} {K : Bool → List Int → Prop} (ha : RN s a x m) (hb : RN t b y m) (hm : m ≤ 5000) (k : ∀ n L, RN n L (x * y) (2 * m + 1) → K n L) : M_smithyref9_Num_Mul s a t b K := by
  intro _ _
  have la := ha.len
  have lb := hb.len
  have eN : ((a.length : Int) + (b.length : Int) + 1).toNat = a.length + b.length + 1 := by omega
  refine ⟨by simp only [In]; omega, by simp only [In]; omega, by omega, ?_⟩
  rw [eN]
  refine ⟨fun i l => 0 ≤ i ∧ i ≤ a.length ∧ l.length = a.length + b.length + 1 ∧ Lb l ∧ lv l = lv (a.take i.toNat) * lv b, fun i _ => (a.length - i).toNat, ⟨by omega, by omega, by simp, Lb.zeros _, by rw [lv_zeros]; simp [lv]⟩, fun i l ⟨a0, a1, a2, a3, a4⟩ _ => ⟨fun hi => ?_, fun hi => ?_⟩⟩
  · have hai := ha.cn.1.getD i.toNat
    have hV : lv l + 10000 ^ i.toNat * (a.getD i.toNat 0 * lv b) = lv (a.take (i.toNat + 1)) * lv b := by
      rw [lv_take_succ, a4]
      generalize (10000 : Int) ^ i.toNat = P at *
      grind
    refine ⟨fun c kk l2 => 0 ≤ kk ∧ kk ≤ b.length + 1 ∧ 0 ≤ c ∧ c ≤ 9999 ∧ l2.length = a.length + b.length + 1 ∧ Lb l2 ∧ lv l2 + 10000 ^ (i.toNat + kk.toNat) * c = lv l + 10000 ^ i.toNat * (a.getD i.toNat 0 * lv (b.take kk.toNat)), fun _ kk _ => (b.length + 2 - kk).toNat, ⟨by omega, by omega, by omega, by omega, a2, a3, by simp [lv]⟩, fun c kk l2 ⟨b0, b1, b2, b3, b4, b5, b6⟩ _ => ⟨fun h => ?_, fun h => ?_⟩⟩
    · rw [Bool.or_eq_true, decide_eq_true_eq, decide_eq_true_eq] at h
      have hkb : kk ≤ b.length := by
        rcases h with h | h
        · omega
        · rcases Int.lt_or_le (b.length : Int) kk with h1 | h1
          · exfalso
            rw [List.take_of_length_le (by omega), hV] at b6
            have hB := lv_lt hb.cn.1
            have hB0 := lv_nonneg hb.cn.1
            have hA := lv_take_lt ha.cn.1 (i.toNat + 1)
            have hA0 := lv_nonneg (ha.cn.1.take (i.toNat + 1))
            have hl2 := lv_nonneg b5
            have hp := lpow_pos (i.toNat + kk.toNat)
            have hm1 : (10000 : Int) ^ (i.toNat + kk.toNat) ≤ 10000 ^ (i.toNat + kk.toNat) * c := by
              have := Int.mul_le_mul_of_nonneg_left (show (1 : Int) ≤ c by omega) (Int.le_of_lt hp)
              omega
            have hm2 := lpow_mono (m := i.toNat + 1 + b.length) (n := i.toNat + kk.toNat) (by omega)
            have hm3 : lv (a.take (i.toNat + 1)) * lv b < 10000 ^ (i.toNat + 1 + b.length) := by
              rw [Int.pow_add]
              have hq := lpow_pos (i.toNat + 1)
              have h1 : lv (a.take (i.toNat + 1)) * lv b ≤ 10000 ^ (i.toNat + 1) * lv b := Int.mul_le_mul_of_nonneg_right (by omega) hB0
              have h2 : (10000 : Int) ^ (i.toNat + 1) * lv b < 10000 ^ (i.toNat + 1) * 10000 ^ b.length := Int.mul_lt_mul_of_pos_left hB hq
              omega
            omega
          · exact h1
      have hbk := hb.cn.1.getD kk.toNat
      have hlk := b5.getD (i + kk).toNat
      have g := mul_range hai hbk
      refine ⟨by simp only [In]; omega, by omega, by simp only [In]; omega, fun x => x = l2.getD (i + kk).toNat 0 + c + a.getD i.toNat 0 * b.getD kk.toNat 0, ⟨fun h1 => ⟨by omega, by omega, by simp only [In]; omega, by simp only [In]; omega, rfl⟩, fun h1 => by rw [lgetD_ge (l := b) (by omega)]; omega⟩, ?_⟩
      rintro x rfl
      refine ⟨by simp only [In]; omega, by omega, by omega, ⟨by omega, by omega, by simp only [In]; omega⟩, by simp only [In]; omega, ⟨by omega, by omega, by omega, by omega, by rw [List.length_set]; exact b4, b5.set _ (by omega) (by omega), ?_⟩, by dsimp only; omega⟩
      rw [lv_set _ _ _ (by omega), show (kk + 1).toNat = kk.toNat + 1 by omega, show (i + kk).toNat = i.toNat + kk.toNat by omega, lv_take_succ, ← Nat.add_assoc, lpow_succ]
      rw [show (i + kk).toNat = i.toNat + kk.toNat by omega] at *
      generalize l2.getD (i.toNat + kk.toNat) 0 = w at *
      generalize hx : w + c + a.getD i.toNat 0 * b.getD kk.toNat 0 = x at *
      have ex : x = x % 10000 + 10000 * (x / 10000) := by omega
      have hpp : (10000 : Int) ^ (i.toNat + kk.toNat) = 10000 ^ i.toNat * 10000 ^ kk.toNat := Int.pow_add ..
      generalize x % 10000 = u at *
      generalize x / 10000 = v at *
      generalize (10000 : Int) ^ (i.toNat + kk.toNat) = R at *
      generalize (10000 : Int) ^ i.toNat = P at *
      generalize (10000 : Int) ^ kk.toNat = Q at *
      have e1 : R * (u - w) + 10000 * R * v = R * (x - w) := by rw [ex]; grind
      have e2 : R * (x - w) = R * c + P * Q * (a.getD i.toNat 0 * b.getD kk.toNat 0) := by rw [← hx, ← hpp]; grind
      grind
    · rw [Bool.or_eq_false_iff, decide_eq_false_iff_not, decide_eq_false_iff_not] at h
      obtain rfl : c = 0 := by omega
      rw [List.take_of_length_le (by omega), hV] at b6
      refine ⟨by simp only [In]; omega, ⟨by omega, by omega, b4, b5, ?_⟩, by dsimp only; omega⟩
      rw [show (i + 1).toNat = i.toNat + 1 by omega]
      omega
  · rw [List.take_of_length_le (by omega)] at a4
    exact trimR_M a3 (m := 2 * m + 1) (by omega) (by omega) (by rw [a4, zmul, ← ha.val, ← hb.val]) k
end Go.Proofs.YtilphcippnfklaaDoor
 namespace Go.Proofs.YtilphcippnfklaaDoor
open Go Go.RowKit
attribute [local irreducible] WL WC WX WQ Yld Eff Fn
theorem getD_ge (l : List Nat) (i : Nat) (h : l.length ≤ i) : l.getD i 0 = 0 := by simp [List.getD, List.getElem?_eq_none h]
theorem Rd.ofBl' {α : Type} {f : α → Value} {w : World} {g : Nat} {e : TypeId} {xs : List α} {m : Nat} (h : Bl w g e (xs.map f)) (hm : xs.length ≤ m) (h63 : m ≤ maxLen) : Rd f w (some ⟨g, 0, none⟩) m xs :=
  ⟨hm, h63, fun _ => ⟨_, rfl, fun j x hj => by rw [Addr.add_mid, Nat.zero_add, h.cell]; simp [hj]⟩⟩
theorem plus_step (p d c' c a b o x y : Nat) (h : d + 1000000000 * c' = c + a + b) (h0 : o + c * p = x + y) : o + p * d + c' * (p * 1000000000) = (x + p * a) + (y + p * b) := by grind
theorem plus_fn (A : Option Addr) (c : Nat) (la : List Nat) (B : Option Addr) (cb : Nat) (lb : List Nat) (w : World) (hA : Rd vd w A c la) (hB : Rd vd w B cb lb) (hDa : Dg la) (hDb : Dg lb) (hla : la.length ≤ 1000000) (hlb : lb.length ≤ 1000000) :
    Fn Tryd.prog 70 ⟨[.slice A la.length c, .slice B lb.length cb]⟩ w fun v w' => ∃ A' c' o, v = .slice A' o.length c' ∧ Rd vd w' A' c' o ∧ Dg o ∧ val o = val la + val lb ∧ o.length = max la.length lb.length + 1 ∧ w.grownBy w' none := by
  refine Fn.enter (by kernel_rfl) Tryd.func70 rfl Tryd.ntmps70 rfl ?_
  have hmx : (if (lb.length : Int) > (la.length : Int) then (lb.length : Int) else (la.length : Int)) = ((max la.length lb.length : Nat) : Int) := by split <;> omega
  repeat (first | refine WC.seq ?_ | refine WC.block ?_ | refine WC.region ?_ | refine WL.nil ?_ | refine WX.then_normal ?_ | refine WC.skip ?_ | refine WC.exit ?_ | refine WC.ret ?_ | refine WX.then_exit ?_ | refine WX.then_ret ?_ | refine WX.block_normal ?_ | refine WX.block_ret ?_ | refine WX.block_same ?_ | refine WX.block_other rfl ?_ | refine WC.label ?_ | refine WC.scope ?_ | refine WX.scope_normal ?_ | refine WX.scope_ret ?_ | refine WX.scope_exit ?_ | refine WL.y rfl (Yld.add rfl rfl (by simp only [In]; omega)) ?_ | refine WL.y rfl (Yld.sub rfl rfl (by simp only [In]; omega)) ?_ | refine WL.y rfl (Yld.mul rfl rfl (by simp only [In]; omega)) ?_ | refine WL.y rfl (Yld.convB tab_ok rfl rfl rfl rfl) ?_ | refine WL.y rfl (Yld.conv tab_ok rfl rfl rfl (by simp only [In]; omega)) ?_ | refine WL.y rfl (Yld.quo rfl rfl (by omega) (by omega) (by simp only [In]; omega)) ?_ | refine WL.y rfl (Yld.rem rfl rfl (by omega) (by omega)) ?_ | refine WL.y rfl (Yld.shl rfl rfl (by omega)) ?_ | refine WL.y rfl (Yld.shr rfl rfl (by omega)) ?_ | refine WL.y rfl (Yld.pure tab_ok rfl) ?_)
  refine WL.y rfl (Yld.max2 rfl rfl) ?_
  rw [hmx]
  generalize hM : max la.length lb.length = M at *
  repeat (first | refine WC.seq ?_ | refine WC.block ?_ | refine WC.region ?_ | refine WL.nil ?_ | refine WX.then_normal ?_ | refine WC.skip ?_ | refine WC.exit ?_ | refine WC.ret ?_ | refine WX.then_exit ?_ | refine WX.then_ret ?_ | refine WX.block_normal ?_ | refine WX.block_ret ?_ | refine WX.block_same ?_ | refine WX.block_other rfl ?_ | refine WC.label ?_ | refine WC.scope ?_ | refine WX.scope_normal ?_ | refine WX.scope_ret ?_ | refine WX.scope_exit ?_ | refine WL.y rfl (Yld.add rfl rfl (by simp only [In]; omega)) ?_ | refine WL.y rfl (Yld.sub rfl rfl (by simp only [In]; omega)) ?_ | refine WL.y rfl (Yld.mul rfl rfl (by simp only [In]; omega)) ?_ | refine WL.y rfl (Yld.convB tab_ok rfl rfl rfl rfl) ?_ | refine WL.y rfl (Yld.conv tab_ok rfl rfl rfl (by simp only [In]; omega)) ?_ | refine WL.y rfl (Yld.quo rfl rfl (by omega) (by omega) (by simp only [In]; omega)) ?_ | refine WL.y rfl (Yld.rem rfl rfl (by omega) (by omega)) ?_ | refine WL.y rfl (Yld.shl rfl rfl (by omega)) ?_ | refine WL.y rfl (Yld.shr rfl rfl (by omega)) ?_ | refine WL.y rfl (Yld.pure tab_ok rfl) ?_ | refine WL.y rfl (Yld.fld flds_ok rfl rfl rfl) ?_ | refine WL.y rfl (Yld.max2 rfl rfl) ?_ | refine WL.y rfl (Yld.min2 rfl rfl) ?_ | refine WL.y rfl (Yld.pickV rfl rfl rfl) ?_ | refine WL.gno rfl rfl rfl rfl ?_ | refine WL.gyes rfl rfl rfl rfl (Yld.add rfl rfl (by simp only [In]; omega)) ?_ | refine WL.gyes rfl rfl rfl rfl (Yld.sub rfl rfl (by simp only [In]; omega)) ?_ | refine WL.gyes rfl rfl rfl rfl (Yld.mul rfl rfl (by simp only [In]; omega)) ?_ | refine WL.gyes rfl rfl rfl rfl (Yld.convB tab_ok rfl rfl rfl rfl) ?_ | refine WL.gyes rfl rfl rfl rfl (Yld.conv tab_ok rfl rfl rfl (by simp only [In]; omega)) ?_ | refine WL.gyes rfl rfl rfl rfl (Yld.quo rfl rfl (by omega) (by omega) (by simp only [In]; omega)) ?_ | refine WL.gyes rfl rfl rfl rfl (Yld.rem rfl rfl (by omega) (by omega)) ?_ | refine WL.gyes rfl rfl rfl rfl (Yld.shl rfl rfl (by omega)) ?_ | refine WL.gyes rfl rfl rfl rfl (Yld.shr rfl rfl (by omega)) ?_ | refine WL.gyes rfl rfl rfl rfl (Yld.pure tab_ok rfl) ?_ | refine WL.gyes rfl rfl rfl rfl (Yld.fld flds_ok rfl rfl rfl) ?_ | refine WL.gyes rfl rfl rfl rfl (Yld.max2 rfl rfl) ?_ | refine WL.gyes rfl rfl rfl rfl (Yld.min2 rfl rfl) ?_ | refine WL.gyes rfl rfl rfl rfl (Yld.pickV rfl rfl rfl) ?_)
  refine WC.loop5 (S1 := Nat) (S2 := List Nat) (S3 := Option Addr) (S4 := Nat) (S5 := Nat) (fun i _ _ _ _ => M + 1 - i)
    (fun i o A' c' k => [(15, vi i), (14, .int .i64 ((M : Int) + 1)), (5, .slice A' o.length c'), (6, vd k), (0, .slice A la.length c), (1, .slice B lb.length cb)])
    (fun i o A' c' k w2 => i ≤ M + 1 ∧ o.length = i ∧ Dg o ∧ k ≤ 1 ∧ val o + k * 1000000000 ^ i = val (la.take i) + val (lb.take i) ∧ Own vd w2 w.heap.size 98 A' c' o ∧ w.grownBy w2 none) 0 [] none 0 0
    ⟨by omega, rfl, Dg.nil, by omega, by simp [val], Own.nil _ _ _ _, gr_refl _ _⟩ (by repeat (first | exact Sub.nil | refine Sub.cons rfl ?_)) (fun i o A' c' k w2 ⟨hi, hol, hDo, hk, hv, hO, hg⟩ => ?_)
  have hA2 := hA.grown hg
  have hB2 := hB.grown hg
  have hda := hDa i
  have hdb := hDb i
  repeat (first | refine WC.seq ?_ | refine WC.block ?_ | refine WC.region ?_ | refine WL.nil ?_ | refine WX.then_normal ?_ | refine WC.skip ?_ | refine WC.exit ?_ | refine WC.ret ?_ | refine WX.then_exit ?_ | refine WX.then_ret ?_ | refine WX.block_normal ?_ | refine WX.block_ret ?_ | refine WX.block_same ?_ | refine WX.block_other rfl ?_ | refine WC.label ?_ | refine WC.scope ?_ | refine WX.scope_normal ?_ | refine WX.scope_ret ?_ | refine WX.scope_exit ?_ | refine WL.y rfl (Yld.add rfl rfl (by simp only [In]; omega)) ?_ | refine WL.y rfl (Yld.sub rfl rfl (by simp only [In]; omega)) ?_ | refine WL.y rfl (Yld.mul rfl rfl (by simp only [In]; omega)) ?_ | refine WL.y rfl (Yld.convB tab_ok rfl rfl rfl rfl) ?_ | refine WL.y rfl (Yld.conv tab_ok rfl rfl rfl (by simp only [In]; omega)) ?_ | refine WL.y rfl (Yld.quo rfl rfl (by omega) (by omega) (by simp only [In]; omega)) ?_ | refine WL.y rfl (Yld.rem rfl rfl (by omega) (by omega)) ?_ | refine WL.y rfl (Yld.shl rfl rfl (by omega)) ?_ | refine WL.y rfl (Yld.shr rfl rfl (by omega)) ?_ | refine WL.y rfl (Yld.pure tab_ok rfl) ?_ | refine WL.y rfl (Yld.fld flds_ok rfl rfl rfl) ?_ | refine WL.y rfl (Yld.max2 rfl rfl) ?_ | refine WL.y rfl (Yld.min2 rfl rfl) ?_ | refine WL.y rfl (Yld.pickV rfl rfl rfl) ?_ | refine WL.gno rfl rfl rfl rfl ?_ | refine WL.gyes rfl rfl rfl rfl (Yld.add rfl rfl (by simp only [In]; omega)) ?_ | refine WL.gyes rfl rfl rfl rfl (Yld.sub rfl rfl (by simp only [In]; omega)) ?_ | refine WL.gyes rfl rfl rfl rfl (Yld.mul rfl rfl (by simp only [In]; omega)) ?_ | refine WL.gyes rfl rfl rfl rfl (Yld.convB tab_ok rfl rfl rfl rfl) ?_ | refine WL.gyes rfl rfl rfl rfl (Yld.conv tab_ok rfl rfl rfl (by simp only [In]; omega)) ?_ | refine WL.gyes rfl rfl rfl rfl (Yld.quo rfl rfl (by omega) (by omega) (by simp only [In]; omega)) ?_ | refine WL.gyes rfl rfl rfl rfl (Yld.rem rfl rfl (by omega) (by omega)) ?_ | refine WL.gyes rfl rfl rfl rfl (Yld.shl rfl rfl (by omega)) ?_ | refine WL.gyes rfl rfl rfl rfl (Yld.shr rfl rfl (by omega)) ?_ | refine WL.gyes rfl rfl rfl rfl (Yld.pure tab_ok rfl) ?_ | refine WL.gyes rfl rfl rfl rfl (Yld.fld flds_ok rfl rfl rfl) ?_ | refine WL.gyes rfl rfl rfl rfl (Yld.max2 rfl rfl) ?_ | refine WL.gyes rfl rfl rfl rfl (Yld.min2 rfl rfl) ?_ | refine WL.gyes rfl rfl rfl rfl (Yld.pickV rfl rfl rfl) ?_)
  refine WC.cond rfl (fun h => ?_) (fun h => ?_)
  · simp only [decide_eq_true_eq] at h
    repeat (first | refine WC.seq ?_ | refine WC.block ?_ | refine WC.region ?_ | refine WL.nil ?_ | refine WX.then_normal ?_ | refine WC.skip ?_ | refine WC.exit ?_ | refine WC.ret ?_ | refine WX.then_exit ?_ | refine WX.then_ret ?_ | refine WX.block_normal ?_ | refine WX.block_ret ?_ | refine WX.block_same ?_ | refine WX.block_other rfl ?_ | refine WC.label ?_ | refine WC.scope ?_ | refine WX.scope_normal ?_ | refine WX.scope_ret ?_ | refine WX.scope_exit ?_ | refine WL.y rfl (Yld.add rfl rfl (by simp only [In]; omega)) ?_ | refine WL.y rfl (Yld.sub rfl rfl (by simp only [In]; omega)) ?_ | refine WL.y rfl (Yld.mul rfl rfl (by simp only [In]; omega)) ?_ | refine WL.y rfl (Yld.convB tab_ok rfl rfl rfl rfl) ?_ | refine WL.y rfl (Yld.conv tab_ok rfl rfl rfl (by simp only [In]; omega)) ?_ | refine WL.y rfl (Yld.quo rfl rfl (by omega) (by omega) (by simp only [In]; omega)) ?_ | refine WL.y rfl (Yld.rem rfl rfl (by omega) (by omega)) ?_ | refine WL.y rfl (Yld.shl rfl rfl (by omega)) ?_ | refine WL.y rfl (Yld.shr rfl rfl (by omega)) ?_ | refine WL.y rfl (Yld.pure tab_ok rfl) ?_ | refine WL.y rfl (Yld.fld flds_ok rfl rfl rfl) ?_ | refine WL.y rfl (Yld.max2 rfl rfl) ?_ | refine WL.y rfl (Yld.min2 rfl rfl) ?_ | refine WL.y rfl (Yld.pickV rfl rfl rfl) ?_ | refine WL.gno rfl rfl rfl rfl ?_ | refine WL.gyes rfl rfl rfl rfl (Yld.add rfl rfl (by simp only [In]; omega)) ?_ | refine WL.gyes rfl rfl rfl rfl (Yld.sub rfl rfl (by simp only [In]; omega)) ?_ | refine WL.gyes rfl rfl rfl rfl (Yld.mul rfl rfl (by simp only [In]; omega)) ?_ | refine WL.gyes rfl rfl rfl rfl (Yld.convB tab_ok rfl rfl rfl rfl) ?_ | refine WL.gyes rfl rfl rfl rfl (Yld.conv tab_ok rfl rfl rfl (by simp only [In]; omega)) ?_ | refine WL.gyes rfl rfl rfl rfl (Yld.quo rfl rfl (by omega) (by omega) (by simp only [In]; omega)) ?_ | refine WL.gyes rfl rfl rfl rfl (Yld.rem rfl rfl (by omega) (by omega)) ?_ | refine WL.gyes rfl rfl rfl rfl (Yld.shl rfl rfl (by omega)) ?_ | refine WL.gyes rfl rfl rfl rfl (Yld.shr rfl rfl (by omega)) ?_ | refine WL.gyes rfl rfl rfl rfl (Yld.pure tab_ok rfl) ?_ | refine WL.gyes rfl rfl rfl rfl (Yld.fld flds_ok rfl rfl rfl) ?_ | refine WL.gyes rfl rfl rfl rfl (Yld.max2 rfl rfl) ?_ | refine WL.gyes rfl rfl rfl rfl (Yld.min2 rfl rfl) ?_ | refine WL.gyes rfl rfl rfl rfl (Yld.pickV rfl rfl rfl) ?_)
    refine WC.merge [(8, .int .u32 ((k : Int) + (la.getD i 0 : Nat))), (7, vi i), (15, vi i), (14, .int .i64 ((M : Int) + 1)), (5, .slice A' o.length c'), (0, .slice A la.length c), (1, .slice B lb.length cb)] rfl (fun h Q' hQ => ?_) (fun h Q' hQ => ?_) ?_
    · simp only [decide_eq_true_eq] at h
      repeat (first | refine WL.y rfl (Yld.iaddrN tab_ok hA2 rfl rfl rfl rfl (by omega)) ?_ | refine WL.y rfl (Yld.iload 0 tab_ok hA2 rfl rfl (by omega)) ?_ | refine WC.seq ?_ | refine WC.block ?_ | refine WC.region ?_ | refine WL.nil ?_ | refine WX.then_normal ?_ | refine WC.skip ?_ | refine WC.exit ?_ | refine WC.ret ?_ | refine WX.then_exit ?_ | refine WX.then_ret ?_ | refine WX.block_normal ?_ | refine WX.block_ret ?_ | refine WX.block_same ?_ | refine WX.block_other rfl ?_ | refine WC.label ?_ | refine WC.scope ?_ | refine WX.scope_normal ?_ | refine WX.scope_ret ?_ | refine WX.scope_exit ?_ | refine WL.y rfl (Yld.add rfl rfl (by simp only [In]; omega)) ?_ | refine WL.y rfl (Yld.sub rfl rfl (by simp only [In]; omega)) ?_ | refine WL.y rfl (Yld.mul rfl rfl (by simp only [In]; omega)) ?_ | refine WL.y rfl (Yld.convB tab_ok rfl rfl rfl rfl) ?_ | refine WL.y rfl (Yld.conv tab_ok rfl rfl rfl (by simp only [In]; omega)) ?_ | refine WL.y rfl (Yld.quo rfl rfl (by omega) (by omega) (by simp only [In]; omega)) ?_ | refine WL.y rfl (Yld.rem rfl rfl (by omega) (by omega)) ?_ | refine WL.y rfl (Yld.shl rfl rfl (by omega)) ?_ | refine WL.y rfl (Yld.shr rfl rfl (by omega)) ?_ | refine WL.y rfl (Yld.pure tab_ok rfl) ?_ | refine WL.y rfl (Yld.fld flds_ok rfl rfl rfl) ?_ | refine WL.y rfl (Yld.max2 rfl rfl) ?_ | refine WL.y rfl (Yld.min2 rfl rfl) ?_ | refine WL.y rfl (Yld.pickV rfl rfl rfl) ?_ | refine WL.gno rfl rfl rfl rfl ?_ | refine WL.gyes rfl rfl rfl rfl (Yld.add rfl rfl (by simp only [In]; omega)) ?_ | refine WL.gyes rfl rfl rfl rfl (Yld.sub rfl rfl (by simp only [In]; omega)) ?_ | refine WL.gyes rfl rfl rfl rfl (Yld.mul rfl rfl (by simp only [In]; omega)) ?_ | refine WL.gyes rfl rfl rfl rfl (Yld.convB tab_ok rfl rfl rfl rfl) ?_ | refine WL.gyes rfl rfl rfl rfl (Yld.conv tab_ok rfl rfl rfl (by simp only [In]; omega)) ?_ | refine WL.gyes rfl rfl rfl rfl (Yld.quo rfl rfl (by omega) (by omega) (by simp only [In]; omega)) ?_ | refine WL.gyes rfl rfl rfl rfl (Yld.rem rfl rfl (by omega) (by omega)) ?_ | refine WL.gyes rfl rfl rfl rfl (Yld.shl rfl rfl (by omega)) ?_ | refine WL.gyes rfl rfl rfl rfl (Yld.shr rfl rfl (by omega)) ?_ | refine WL.gyes rfl rfl rfl rfl (Yld.pure tab_ok rfl) ?_ | refine WL.gyes rfl rfl rfl rfl (Yld.fld flds_ok rfl rfl rfl) ?_ | refine WL.gyes rfl rfl rfl rfl (Yld.max2 rfl rfl) ?_ | refine WL.gyes rfl rfl rfl rfl (Yld.min2 rfl rfl) ?_ | refine WL.gyes rfl rfl rfl rfl (Yld.pickV rfl rfl rfl) ?_)
      exact WX.weaken (by repeat (first | exact Sub.nil | refine Sub.cons rfl ?_)) hQ
    · simp only [decide_eq_false_iff_not] at h
      repeat (first | refine WC.seq ?_ | refine WC.block ?_ | refine WC.region ?_ | refine WL.nil ?_ | refine WX.then_normal ?_ | refine WC.skip ?_ | refine WC.exit ?_ | refine WC.ret ?_ | refine WX.then_exit ?_ | refine WX.then_ret ?_ | refine WX.block_normal ?_ | refine WX.block_ret ?_ | refine WX.block_same ?_ | refine WX.block_other rfl ?_ | refine WC.label ?_ | refine WC.scope ?_ | refine WX.scope_normal ?_ | refine WX.scope_ret ?_ | refine WX.scope_exit ?_ | refine WL.y rfl (Yld.add rfl rfl (by simp only [In]; omega)) ?_ | refine WL.y rfl (Yld.sub rfl rfl (by simp only [In]; omega)) ?_ | refine WL.y rfl (Yld.mul rfl rfl (by simp only [In]; omega)) ?_ | refine WL.y rfl (Yld.convB tab_ok rfl rfl rfl rfl) ?_ | refine WL.y rfl (Yld.conv tab_ok rfl rfl rfl (by simp only [In]; omega)) ?_ | refine WL.y rfl (Yld.quo rfl rfl (by omega) (by omega) (by simp only [In]; omega)) ?_ | refine WL.y rfl (Yld.rem rfl rfl (by omega) (by omega)) ?_ | refine WL.y rfl (Yld.shl rfl rfl (by omega)) ?_ | refine WL.y rfl (Yld.shr rfl rfl (by omega)) ?_ | refine WL.y rfl (Yld.pure tab_ok rfl) ?_ | refine WL.y rfl (Yld.fld flds_ok rfl rfl rfl) ?_ | refine WL.y rfl (Yld.max2 rfl rfl) ?_ | refine WL.y rfl (Yld.min2 rfl rfl) ?_ | refine WL.y rfl (Yld.pickV rfl rfl rfl) ?_ | refine WL.gno rfl rfl rfl rfl ?_ | refine WL.gyes rfl rfl rfl rfl (Yld.add rfl rfl (by simp only [In]; omega)) ?_ | refine WL.gyes rfl rfl rfl rfl (Yld.sub rfl rfl (by simp only [In]; omega)) ?_ | refine WL.gyes rfl rfl rfl rfl (Yld.mul rfl rfl (by simp only [In]; omega)) ?_ | refine WL.gyes rfl rfl rfl rfl (Yld.convB tab_ok rfl rfl rfl rfl) ?_ | refine WL.gyes rfl rfl rfl rfl (Yld.conv tab_ok rfl rfl rfl (by simp only [In]; omega)) ?_ | refine WL.gyes rfl rfl rfl rfl (Yld.quo rfl rfl (by omega) (by omega) (by simp only [In]; omega)) ?_ | refine WL.gyes rfl rfl rfl rfl (Yld.rem rfl rfl (by omega) (by omega)) ?_ | refine WL.gyes rfl rfl rfl rfl (Yld.shl rfl rfl (by omega)) ?_ | refine WL.gyes rfl rfl rfl rfl (Yld.shr rfl rfl (by omega)) ?_ | refine WL.gyes rfl rfl rfl rfl (Yld.pure tab_ok rfl) ?_ | refine WL.gyes rfl rfl rfl rfl (Yld.fld flds_ok rfl rfl rfl) ?_ | refine WL.gyes rfl rfl rfl rfl (Yld.max2 rfl rfl) ?_ | refine WL.gyes rfl rfl rfl rfl (Yld.min2 rfl rfl) ?_ | refine WL.gyes rfl rfl rfl rfl (Yld.pickV rfl rfl rfl) ?_)
      rw [getD_ge la i (by omega)] at hQ
      have e0 : (k : Int) + ((0 : Nat) : Int) = (k : Int) := by omega
      rw [e0] at hQ
      exact WX.weaken (by repeat (first | exact Sub.nil | refine Sub.cons rfl ?_)) hQ
    repeat (first | refine WC.seq ?_ | refine WC.block ?_ | refine WC.region ?_ | refine WL.nil ?_ | refine WX.then_normal ?_ | refine WC.skip ?_ | refine WC.exit ?_ | refine WC.ret ?_ | refine WX.then_exit ?_ | refine WX.then_ret ?_ | refine WX.block_normal ?_ | refine WX.block_ret ?_ | refine WX.block_same ?_ | refine WX.block_other rfl ?_ | refine WC.label ?_ | refine WC.scope ?_ | refine WX.scope_normal ?_ | refine WX.scope_ret ?_ | refine WX.scope_exit ?_ | refine WL.y rfl (Yld.add rfl rfl (by simp only [In]; omega)) ?_ | refine WL.y rfl (Yld.sub rfl rfl (by simp only [In]; omega)) ?_ | refine WL.y rfl (Yld.mul rfl rfl (by simp only [In]; omega)) ?_ | refine WL.y rfl (Yld.convB tab_ok rfl rfl rfl rfl) ?_ | refine WL.y rfl (Yld.conv tab_ok rfl rfl rfl (by simp only [In]; omega)) ?_ | refine WL.y rfl (Yld.quo rfl rfl (by omega) (by omega) (by simp only [In]; omega)) ?_ | refine WL.y rfl (Yld.rem rfl rfl (by omega) (by omega)) ?_ | refine WL.y rfl (Yld.shl rfl rfl (by omega)) ?_ | refine WL.y rfl (Yld.shr rfl rfl (by omega)) ?_ | refine WL.y rfl (Yld.pure tab_ok rfl) ?_ | refine WL.y rfl (Yld.fld flds_ok rfl rfl rfl) ?_ | refine WL.y rfl (Yld.max2 rfl rfl) ?_ | refine WL.y rfl (Yld.min2 rfl rfl) ?_ | refine WL.y rfl (Yld.pickV rfl rfl rfl) ?_ | refine WL.gno rfl rfl rfl rfl ?_ | refine WL.gyes rfl rfl rfl rfl (Yld.add rfl rfl (by simp only [In]; omega)) ?_ | refine WL.gyes rfl rfl rfl rfl (Yld.sub rfl rfl (by simp only [In]; omega)) ?_ | refine WL.gyes rfl rfl rfl rfl (Yld.mul rfl rfl (by simp only [In]; omega)) ?_ | refine WL.gyes rfl rfl rfl rfl (Yld.convB tab_ok rfl rfl rfl rfl) ?_ | refine WL.gyes rfl rfl rfl rfl (Yld.conv tab_ok rfl rfl rfl (by simp only [In]; omega)) ?_ | refine WL.gyes rfl rfl rfl rfl (Yld.quo rfl rfl (by omega) (by omega) (by simp only [In]; omega)) ?_ | refine WL.gyes rfl rfl rfl rfl (Yld.rem rfl rfl (by omega) (by omega)) ?_ | refine WL.gyes rfl rfl rfl rfl (Yld.shl rfl rfl (by omega)) ?_ | refine WL.gyes rfl rfl rfl rfl (Yld.shr rfl rfl (by omega)) ?_ | refine WL.gyes rfl rfl rfl rfl (Yld.pure tab_ok rfl) ?_ | refine WL.gyes rfl rfl rfl rfl (Yld.fld flds_ok rfl rfl rfl) ?_ | refine WL.gyes rfl rfl rfl rfl (Yld.max2 rfl rfl) ?_ | refine WL.gyes rfl rfl rfl rfl (Yld.min2 rfl rfl) ?_ | refine WL.gyes rfl rfl rfl rfl (Yld.pickV rfl rfl rfl) ?_)
    refine WC.merge [(8, .int .u32 ((k : Int) + (la.getD i 0 : Nat) + (lb.getD i 0 : Nat))), (15, vi i), (14, .int .i64 ((M : Int) + 1)), (5, .slice A' o.length c'), (0, .slice A la.length c), (1, .slice B lb.length cb)] rfl (fun h Q' hQ => ?_) (fun h Q' hQ => ?_) ?_
    · simp only [decide_eq_true_eq] at h
      repeat (first | refine WL.y rfl (Yld.iaddrN tab_ok hB2 rfl rfl rfl rfl (by omega)) ?_ | refine WL.y rfl (Yld.iload 0 tab_ok hB2 rfl rfl (by omega)) ?_ | refine WC.seq ?_ | refine WC.block ?_ | refine WC.region ?_ | refine WL.nil ?_ | refine WX.then_normal ?_ | refine WC.skip ?_ | refine WC.exit ?_ | refine WC.ret ?_ | refine WX.then_exit ?_ | refine WX.then_ret ?_ | refine WX.block_normal ?_ | refine WX.block_ret ?_ | refine WX.block_same ?_ | refine WX.block_other rfl ?_ | refine WC.label ?_ | refine WC.scope ?_ | refine WX.scope_normal ?_ | refine WX.scope_ret ?_ | refine WX.scope_exit ?_ | refine WL.y rfl (Yld.add rfl rfl (by simp only [In]; omega)) ?_ | refine WL.y rfl (Yld.sub rfl rfl (by simp only [In]; omega)) ?_ | refine WL.y rfl (Yld.mul rfl rfl (by simp only [In]; omega)) ?_ | refine WL.y rfl (Yld.convB tab_ok rfl rfl rfl rfl) ?_ | refine WL.y rfl (Yld.conv tab_ok rfl rfl rfl (by simp only [In]; omega)) ?_ | refine WL.y rfl (Yld.quo rfl rfl (by omega) (by omega) (by simp only [In]; omega)) ?_ | refine WL.y rfl (Yld.rem rfl rfl (by omega) (by omega)) ?_ | refine WL.y rfl (Yld.shl rfl rfl (by omega)) ?_ | refine WL.y rfl (Yld.shr rfl rfl (by omega)) ?_ | refine WL.y rfl (Yld.pure tab_ok rfl) ?_ | refine WL.y rfl (Yld.fld flds_ok rfl rfl rfl) ?_ | refine WL.y rfl (Yld.max2 rfl rfl) ?_ | refine WL.y rfl (Yld.min2 rfl rfl) ?_ | refine WL.y rfl (Yld.pickV rfl rfl rfl) ?_ | refine WL.gno rfl rfl rfl rfl ?_ | refine WL.gyes rfl rfl rfl rfl (Yld.add rfl rfl (by simp only [In]; omega)) ?_ | refine WL.gyes rfl rfl rfl rfl (Yld.sub rfl rfl (by simp only [In]; omega)) ?_ | refine WL.gyes rfl rfl rfl rfl (Yld.mul rfl rfl (by simp only [In]; omega)) ?_ | refine WL.gyes rfl rfl rfl rfl (Yld.convB tab_ok rfl rfl rfl rfl) ?_ | refine WL.gyes rfl rfl rfl rfl (Yld.conv tab_ok rfl rfl rfl (by simp only [In]; omega)) ?_ | refine WL.gyes rfl rfl rfl rfl (Yld.quo rfl rfl (by omega) (by omega) (by simp only [In]; omega)) ?_ | refine WL.gyes rfl rfl rfl rfl (Yld.rem rfl rfl (by omega) (by omega)) ?_ | refine WL.gyes rfl rfl rfl rfl (Yld.shl rfl rfl (by omega)) ?_ | refine WL.gyes rfl rfl rfl rfl (Yld.shr rfl rfl (by omega)) ?_ | refine WL.gyes rfl rfl rfl rfl (Yld.pure tab_ok rfl) ?_ | refine WL.gyes rfl rfl rfl rfl (Yld.fld flds_ok rfl rfl rfl) ?_ | refine WL.gyes rfl rfl rfl rfl (Yld.max2 rfl rfl) ?_ | refine WL.gyes rfl rfl rfl rfl (Yld.min2 rfl rfl) ?_ | refine WL.gyes rfl rfl rfl rfl (Yld.pickV rfl rfl rfl) ?_)
      exact WX.weaken (by repeat (first | exact Sub.nil | refine Sub.cons rfl ?_)) hQ
    · simp only [decide_eq_false_iff_not] at h
      repeat (first | refine WC.seq ?_ | refine WC.block ?_ | refine WC.region ?_ | refine WL.nil ?_ | refine WX.then_normal ?_ | refine WC.skip ?_ | refine WC.exit ?_ | refine WC.ret ?_ | refine WX.then_exit ?_ | refine WX.then_ret ?_ | refine WX.block_normal ?_ | refine WX.block_ret ?_ | refine WX.block_same ?_ | refine WX.block_other rfl ?_ | refine WC.label ?_ | refine WC.scope ?_ | refine WX.scope_normal ?_ | refine WX.scope_ret ?_ | refine WX.scope_exit ?_ | refine WL.y rfl (Yld.add rfl rfl (by simp only [In]; omega)) ?_ | refine WL.y rfl (Yld.sub rfl rfl (by simp only [In]; omega)) ?_ | refine WL.y rfl (Yld.mul rfl rfl (by simp only [In]; omega)) ?_ | refine WL.y rfl (Yld.convB tab_ok rfl rfl rfl rfl) ?_ | refine WL.y rfl (Yld.conv tab_ok rfl rfl rfl (by simp only [In]; omega)) ?_ | refine WL.y rfl (Yld.quo rfl rfl (by omega) (by omega) (by simp only [In]; omega)) ?_ | refine WL.y rfl (Yld.rem rfl rfl (by omega) (by omega)) ?_ | refine WL.y rfl (Yld.shl rfl rfl (by omega)) ?_ | refine WL.y rfl (Yld.shr rfl rfl (by omega)) ?_ | refine WL.y rfl (Yld.pure tab_ok rfl) ?_ | refine WL.y rfl (Yld.fld flds_ok rfl rfl rfl) ?_ | refine WL.y rfl (Yld.max2 rfl rfl) ?_ | refine WL.y rfl (Yld.min2 rfl rfl) ?_ | refine WL.y rfl (Yld.pickV rfl rfl rfl) ?_ | refine WL.gno rfl rfl rfl rfl ?_ | refine WL.gyes rfl rfl rfl rfl (Yld.add rfl rfl (by simp only [In]; omega)) ?_ | refine WL.gyes rfl rfl rfl rfl (Yld.sub rfl rfl (by simp only [In]; omega)) ?_ | refine WL.gyes rfl rfl rfl rfl (Yld.mul rfl rfl (by simp only [In]; omega)) ?_ | refine WL.gyes rfl rfl rfl rfl (Yld.convB tab_ok rfl rfl rfl rfl) ?_ | refine WL.gyes rfl rfl rfl rfl (Yld.conv tab_ok rfl rfl rfl (by simp only [In]; omega)) ?_ | refine WL.gyes rfl rfl rfl rfl (Yld.quo rfl rfl (by omega) (by omega) (by simp only [In]; omega)) ?_ | refine WL.gyes rfl rfl rfl rfl (Yld.rem rfl rfl (by omega) (by omega)) ?_ | refine WL.gyes rfl rfl rfl rfl (Yld.shl rfl rfl (by omega)) ?_ | refine WL.gyes rfl rfl rfl rfl (Yld.shr rfl rfl (by omega)) ?_ | refine WL.gyes rfl rfl rfl rfl (Yld.pure tab_ok rfl) ?_ | refine WL.gyes rfl rfl rfl rfl (Yld.fld flds_ok rfl rfl rfl) ?_ | refine WL.gyes rfl rfl rfl rfl (Yld.max2 rfl rfl) ?_ | refine WL.gyes rfl rfl rfl rfl (Yld.min2 rfl rfl) ?_ | refine WL.gyes rfl rfl rfl rfl (Yld.pickV rfl rfl rfl) ?_)
      rw [getD_ge lb i (by omega)] at hQ
      have e0 : ∀ z : Int, z + ((0 : Nat) : Int) = z := by intro z; omega
      rw [e0] at hQ
      exact WX.weaken (by repeat (first | exact Sub.nil | refine Sub.cons rfl ?_)) hQ
    repeat (first | refine WC.seq ?_ | refine WC.block ?_ | refine WC.region ?_ | refine WL.nil ?_ | refine WX.then_normal ?_ | refine WC.skip ?_ | refine WC.exit ?_ | refine WC.ret ?_ | refine WX.then_exit ?_ | refine WX.then_ret ?_ | refine WX.block_normal ?_ | refine WX.block_ret ?_ | refine WX.block_same ?_ | refine WX.block_other rfl ?_ | refine WC.label ?_ | refine WC.scope ?_ | refine WX.scope_normal ?_ | refine WX.scope_ret ?_ | refine WX.scope_exit ?_ | refine WL.y rfl (Yld.add rfl rfl (by simp only [In]; omega)) ?_ | refine WL.y rfl (Yld.sub rfl rfl (by simp only [In]; omega)) ?_ | refine WL.y rfl (Yld.mul rfl rfl (by simp only [In]; omega)) ?_ | refine WL.y rfl (Yld.convB tab_ok rfl rfl rfl rfl) ?_ | refine WL.y rfl (Yld.conv tab_ok rfl rfl rfl (by simp only [In]; omega)) ?_ | refine WL.y rfl (Yld.quo rfl rfl (by omega) (by omega) (by simp only [In]; omega)) ?_ | refine WL.y rfl (Yld.rem rfl rfl (by omega) (by omega)) ?_ | refine WL.y rfl (Yld.shl rfl rfl (by omega)) ?_ | refine WL.y rfl (Yld.shr rfl rfl (by omega)) ?_ | refine WL.y rfl (Yld.pure tab_ok rfl) ?_ | refine WL.y rfl (Yld.fld flds_ok rfl rfl rfl) ?_ | refine WL.y rfl (Yld.max2 rfl rfl) ?_ | refine WL.y rfl (Yld.min2 rfl rfl) ?_ | refine WL.y rfl (Yld.pickV rfl rfl rfl) ?_ | refine WL.gno rfl rfl rfl rfl ?_ | refine WL.gyes rfl rfl rfl rfl (Yld.add rfl rfl (by simp only [In]; omega)) ?_ | refine WL.gyes rfl rfl rfl rfl (Yld.sub rfl rfl (by simp only [In]; omega)) ?_ | refine WL.gyes rfl rfl rfl rfl (Yld.mul rfl rfl (by simp only [In]; omega)) ?_ | refine WL.gyes rfl rfl rfl rfl (Yld.convB tab_ok rfl rfl rfl rfl) ?_ | refine WL.gyes rfl rfl rfl rfl (Yld.conv tab_ok rfl rfl rfl (by simp only [In]; omega)) ?_ | refine WL.gyes rfl rfl rfl rfl (Yld.quo rfl rfl (by omega) (by omega) (by simp only [In]; omega)) ?_ | refine WL.gyes rfl rfl rfl rfl (Yld.rem rfl rfl (by omega) (by omega)) ?_ | refine WL.gyes rfl rfl rfl rfl (Yld.shl rfl rfl (by omega)) ?_ | refine WL.gyes rfl rfl rfl rfl (Yld.shr rfl rfl (by omega)) ?_ | refine WL.gyes rfl rfl rfl rfl (Yld.pure tab_ok rfl) ?_ | refine WL.gyes rfl rfl rfl rfl (Yld.fld flds_ok rfl rfl rfl) ?_ | refine WL.gyes rfl rfl rfl rfl (Yld.max2 rfl rfl) ?_ | refine WL.gyes rfl rfl rfl rfl (Yld.min2 rfl rfl) ?_ | refine WL.gyes rfl rfl rfl rfl (Yld.pickV rfl rfl rfl) ?_)
    have hv1 := val_take la i
    have hv2 := val_take lb i
    generalize la.getD i 0 = a at *
    generalize lb.getD i 0 = b at *
    have hd : ((k : Int) + (a : Nat) + (b : Nat)) % 1000000000 = (((k + a + b) % 1000000000 : Nat) : Int) := by omega
    have hq : ((k : Int) + (a : Nat) + (b : Nat)) / 1000000000 = (((k + a + b) / 1000000000 : Nat) : Int) := by omega
    rw [hd]
    refine WL.lit (us := [vd ((k + a + b) % 1000000000)]) tab_ok rfl rfl rfl (by intro u hu; rw [List.mem_singleton] at hu; rw [hu]; rfl) rfl (by omega) (fun g w3 hL3 hg3 hl3 => ?_)
    have hR3 : Rd vd w3 (some ⟨g, 0, none⟩) 1 [(k + a + b) % 1000000000] := Rd.ofBl' hL3 (by simp) (by simp [maxLen])
    have hO3 := hO.grown hg3
    have hz2 := hg.size
    have hz3 := hg3.size
    have hMl : M ≤ 1000000 := by omega
    refine WL.append tab_ok rfl rfl One.d hO3 rfl rfl hR3 rfl rfl (by simp only [List.length_cons, List.length_nil]; omega) (by simp only [maxLen, List.length_cons, List.length_nil]; omega) (by omega) (fun A4 c4 w4 hO4 hg4 hf4 => ?_)
    repeat (first | refine WC.seq ?_ | refine WC.block ?_ | refine WC.region ?_ | refine WL.nil ?_ | refine WX.then_normal ?_ | refine WC.skip ?_ | refine WC.exit ?_ | refine WC.ret ?_ | refine WX.then_exit ?_ | refine WX.then_ret ?_ | refine WX.block_normal ?_ | refine WX.block_ret ?_ | refine WX.block_same ?_ | refine WX.block_other rfl ?_ | refine WC.label ?_ | refine WC.scope ?_ | refine WX.scope_normal ?_ | refine WX.scope_ret ?_ | refine WX.scope_exit ?_ | refine WL.y rfl (Yld.add rfl rfl (by simp only [In]; omega)) ?_ | refine WL.y rfl (Yld.sub rfl rfl (by simp only [In]; omega)) ?_ | refine WL.y rfl (Yld.mul rfl rfl (by simp only [In]; omega)) ?_ | refine WL.y rfl (Yld.convB tab_ok rfl rfl rfl rfl) ?_ | refine WL.y rfl (Yld.conv tab_ok rfl rfl rfl (by simp only [In]; omega)) ?_ | refine WL.y rfl (Yld.quo rfl rfl (by omega) (by omega) (by simp only [In]; omega)) ?_ | refine WL.y rfl (Yld.rem rfl rfl (by omega) (by omega)) ?_ | refine WL.y rfl (Yld.shl rfl rfl (by omega)) ?_ | refine WL.y rfl (Yld.shr rfl rfl (by omega)) ?_ | refine WL.y rfl (Yld.pure tab_ok rfl) ?_ | refine WL.y rfl (Yld.fld flds_ok rfl rfl rfl) ?_ | refine WL.y rfl (Yld.max2 rfl rfl) ?_ | refine WL.y rfl (Yld.min2 rfl rfl) ?_ | refine WL.y rfl (Yld.pickV rfl rfl rfl) ?_ | refine WL.gno rfl rfl rfl rfl ?_ | refine WL.gyes rfl rfl rfl rfl (Yld.add rfl rfl (by simp only [In]; omega)) ?_ | refine WL.gyes rfl rfl rfl rfl (Yld.sub rfl rfl (by simp only [In]; omega)) ?_ | refine WL.gyes rfl rfl rfl rfl (Yld.mul rfl rfl (by simp only [In]; omega)) ?_ | refine WL.gyes rfl rfl rfl rfl (Yld.convB tab_ok rfl rfl rfl rfl) ?_ | refine WL.gyes rfl rfl rfl rfl (Yld.conv tab_ok rfl rfl rfl (by simp only [In]; omega)) ?_ | refine WL.gyes rfl rfl rfl rfl (Yld.quo rfl rfl (by omega) (by omega) (by simp only [In]; omega)) ?_ | refine WL.gyes rfl rfl rfl rfl (Yld.rem rfl rfl (by omega) (by omega)) ?_ | refine WL.gyes rfl rfl rfl rfl (Yld.shl rfl rfl (by omega)) ?_ | refine WL.gyes rfl rfl rfl rfl (Yld.shr rfl rfl (by omega)) ?_ | refine WL.gyes rfl rfl rfl rfl (Yld.pure tab_ok rfl) ?_ | refine WL.gyes rfl rfl rfl rfl (Yld.fld flds_ok rfl rfl rfl) ?_ | refine WL.gyes rfl rfl rfl rfl (Yld.max2 rfl rfl) ?_ | refine WL.gyes rfl rfl rfl rfl (Yld.min2 rfl rfl) ?_ | refine WL.gyes rfl rfl rfl rfl (Yld.pickV rfl rfl rfl) ?_)
    rw [hq]
    refine WX.round5 (i + 1) (o ++ [(k + a + b) % 1000000000]) A4 c4 ((k + a + b) / 1000000000) ⟨by omega, by simp [hol], hDo.push (by omega), by omega, ?_, hO4, gr_own (gr_trans hg hg3) hO3 hg4 (Nat.le_refl _)⟩ (by omega) (by repeat (first | exact Sub.nil | refine Sub.cons rfl ?_))
    rw [val_push, hol, hv1, hv2, Nat.pow_succ]
    exact plus_step _ _ _ k a b _ _ _ (by omega) hv
  · simp only [decide_eq_false_iff_not] at h
    obtain rfl : i = M + 1 := by omega
    rw [List.take_of_length_le (by omega), List.take_of_length_le (by omega)] at hv
    repeat (first | refine WC.seq ?_ | refine WC.block ?_ | refine WC.region ?_ | refine WL.nil ?_ | refine WX.then_normal ?_ | refine WC.skip ?_ | refine WC.exit ?_ | refine WC.ret ?_ | refine WX.then_exit ?_ | refine WX.then_ret ?_ | refine WX.block_normal ?_ | refine WX.block_ret ?_ | refine WX.block_same ?_ | refine WX.block_other rfl ?_ | refine WC.label ?_ | refine WC.scope ?_ | refine WX.scope_normal ?_ | refine WX.scope_ret ?_ | refine WX.scope_exit ?_ | refine WL.y rfl (Yld.add rfl rfl (by simp only [In]; omega)) ?_ | refine WL.y rfl (Yld.sub rfl rfl (by simp only [In]; omega)) ?_ | refine WL.y rfl (Yld.mul rfl rfl (by simp only [In]; omega)) ?_ | refine WL.y rfl (Yld.convB tab_ok rfl rfl rfl rfl) ?_ | refine WL.y rfl (Yld.conv tab_ok rfl rfl rfl (by simp only [In]; omega)) ?_ | refine WL.y rfl (Yld.quo rfl rfl (by omega) (by omega) (by simp only [In]; omega)) ?_ | refine WL.y rfl (Yld.rem rfl rfl (by omega) (by omega)) ?_ | refine WL.y rfl (Yld.shl rfl rfl (by omega)) ?_ | refine WL.y rfl (Yld.shr rfl rfl (by omega)) ?_ | refine WL.y rfl (Yld.pure tab_ok rfl) ?_ | refine WL.y rfl (Yld.fld flds_ok rfl rfl rfl) ?_ | refine WL.y rfl (Yld.max2 rfl rfl) ?_ | refine WL.y rfl (Yld.min2 rfl rfl) ?_ | refine WL.y rfl (Yld.pickV rfl rfl rfl) ?_ | refine WL.gno rfl rfl rfl rfl ?_ | refine WL.gyes rfl rfl rfl rfl (Yld.add rfl rfl (by simp only [In]; omega)) ?_ | refine WL.gyes rfl rfl rfl rfl (Yld.sub rfl rfl (by simp only [In]; omega)) ?_ | refine WL.gyes rfl rfl rfl rfl (Yld.mul rfl rfl (by simp only [In]; omega)) ?_ | refine WL.gyes rfl rfl rfl rfl (Yld.convB tab_ok rfl rfl rfl rfl) ?_ | refine WL.gyes rfl rfl rfl rfl (Yld.conv tab_ok rfl rfl rfl (by simp only [In]; omega)) ?_ | refine WL.gyes rfl rfl rfl rfl (Yld.quo rfl rfl (by omega) (by omega) (by simp only [In]; omega)) ?_ | refine WL.gyes rfl rfl rfl rfl (Yld.rem rfl rfl (by omega) (by omega)) ?_ | refine WL.gyes rfl rfl rfl rfl (Yld.shl rfl rfl (by omega)) ?_ | refine WL.gyes rfl rfl rfl rfl (Yld.shr rfl rfl (by omega)) ?_ | refine WL.gyes rfl rfl rfl rfl (Yld.pure tab_ok rfl) ?_ | refine WL.gyes rfl rfl rfl rfl (Yld.fld flds_ok rfl rfl rfl) ?_ | refine WL.gyes rfl rfl rfl rfl (Yld.max2 rfl rfl) ?_ | refine WL.gyes rfl rfl rfl rfl (Yld.min2 rfl rfl) ?_ | refine WL.gyes rfl rfl rfl rfl (Yld.pickV rfl rfl rfl) ?_)
    have hk0 : k = 0 := by
      have h1 := val_lt' hDa
      have h2 := val_lt' hDb
      have h3 : 1000000000 ^ la.length ≤ 1000000000 ^ M := Nat.pow_le_pow_right (by omega) (by omega)
      have h4 : 1000000000 ^ lb.length ≤ 1000000000 ^ M := Nat.pow_le_pow_right (by omega) (by omega)
      rw [Nat.pow_succ] at hv
      rcases Nat.lt_or_ge k 1 with h5 | h5
      · omega
      · have : 1 * (1000000000 ^ M * 1000000000) ≤ k * (1000000000 ^ M * 1000000000) := Nat.mul_le_mul_right _ h5
        omega
    subst hk0
    refine WX.ret1 rfl rfl ⟨A', c', o, rfl, hO.rd, hDo, by omega, hol, hg⟩
end Go.Proofs.YtilphcippnfklaaDoor
 