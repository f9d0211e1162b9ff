/- Texts of this claim, joined by a program: GDi, PathA, PathB, PathC, Srt, Lin, See, DiskP, DiskQ, GDl, PathD, PathE, PathF, PathG, PathH, DiskL, DiskF, DeepO. -/
import Derived.Test.YtlonpmajnglmoaaDoorJ2
import Derived.Lib.Replace
import Derived.Lib.Join
import Derived.Lib.SlicesCompact
import Derived.Sort.Walk0
import Derived.Lib.SplitLaws
import Derived.Lib.Strings
/- Printed by a program (wip/vg): what the functions mean, plainly, and their walks. -/
namespace Go.Proofs.YtlonpmajnglmoaaDoor
open Go Go.RowKit
attribute [local irreducible] WL WC WX WQ WK WJ Yld Eff Ef0 Fn
def M_pdisk_Disk_call (d_files : List (List UInt8 × List UInt8 × Bool × List UInt8 × Bool × List (Int × List UInt8))) (d_ops : Int) (d_left : Int) (d_down : Bool) (K : Er → (List (List UInt8 × List UInt8 × Bool × List UInt8 × Bool × List (Int × List UInt8))) → Int → Int → Bool → Prop) : Prop :=
 ((d_down = true → K (Er.e 15) d_files d_ops d_left d_down) ∧
 (d_down = false → (In .i64 (d_ops + (1 : Int))) ∧
 ∃ J1 : Int → Prop, ((((0 : Int) < d_left → (In .i64 (d_left - (1 : Int))) ∧
 (((d_left - (1 : Int)) = (0 : Int) → K (Er.e 15) d_files (d_ops + (1 : Int)) (d_left - (1 : Int)) true) ∧
 (¬ ((d_left - (1 : Int)) = (0 : Int)) → J1 (d_left - (1 : Int))))) ∧
 (¬ ((0 : Int) < d_left) → J1 d_left))) ∧
 (∀ d2 : Int, J1 d2 → K Er.ok d_files (d_ops + (1 : Int)) d2 d_down)))

def M_pdisk_file_settle (f_text : List UInt8) (f_is : Bool) (f_synced : List UInt8) (f_was : Bool) (f_since : List (Int × List UInt8)) (K : (List UInt8) → Bool → (List UInt8) → Bool → (List (Int × List UInt8)) → Prop) : Prop :=
 (f_since.length ≤ maxLen →
 K f_text f_is f_text f_is [])

def M_pdisk_file_rise (f_text : List UInt8) (f_is : Bool) (f_synced : List UInt8) (f_was : Bool) (f_since : List (Int × List UInt8)) (keep : Int) (cut : Int) (K : (List UInt8) → Bool → (List UInt8) → Bool → (List (Int × List UInt8)) → Prop) : Prop :=
 (f_since.length ≤ maxLen →
 Lp3 (fun (t28 : Int) (f0 : List UInt8) (f1 : Bool) kont1 => ((t28 < (f_since.length : Int) → ∃ J1 : (List UInt8) → Bool → Prop, ((0 ≤ t28 ∧ t28 < (f_since.length : Nat)) ∧
 ((keep ≤ t28 → ∃ J2 : (List UInt8) → Bool → Prop, ((In .i64 ((((f_since.getD t28.toNat (0, [])).2).length : Int) - (1 : Int))) ∧
 ((((decide (((f_since.getD t28.toNat (0, [])).1) = (1 : Int))) && (decide ((0 : Int) < (if ((((f_since.getD t28.toNat (0, [])).2).length : Int) - (1 : Int)) < cut then (((f_since.getD t28.toNat (0, [])).2).length : Int) - (1 : Int) else cut)))) = true → (0 ≤ (if ((((f_since.getD t28.toNat (0, [])).2).length : Int) - (1 : Int)) < cut then (((f_since.getD t28.toNat (0, [])).2).length : Int) - (1 : Int) else cut) ∧ (if ((((f_since.getD t28.toNat (0, [])).2).length : Int) - (1 : Int)) < cut then (((f_since.getD t28.toNat (0, [])).2).length : Int) - (1 : Int) else cut) ≤ ((f_since.getD t28.toNat (0, [])).2).length) ∧
 (f0.length + (((f_since.getD t28.toNat (0, [])).2).take (if ((((f_since.getD t28.toNat (0, [])).2).length : Int) - (1 : Int)) < cut then (((f_since.getD t28.toNat (0, [])).2).length : Int) - (1 : Int) else cut).toNat).length ≤ 9223372036854775807) ∧
 J2 (f0 ++ (((f_since.getD t28.toNat (0, [])).2).take (if ((((f_since.getD t28.toNat (0, [])).2).length : Int) - (1 : Int)) < cut then (((f_since.getD t28.toNat (0, [])).2).length : Int) - (1 : Int) else cut).toNat)) true) ∧
 (((decide (((f_since.getD t28.toNat (0, [])).1) = (1 : Int))) && (decide ((0 : Int) < (if ((((f_since.getD t28.toNat (0, [])).2).length : Int) - (1 : Int)) < cut then (((f_since.getD t28.toNat (0, [])).2).length : Int) - (1 : Int) else cut)))) = false → J2 f0 f1))) ∧
 (∀ f03 : List UInt8, ∀ f13 : Bool, J2 f03 f13 → K f03 f13 f_synced f_was f_since)) ∧
 (¬ (keep ≤ t28) → ((((f_since.getD t28.toNat (0, [])).1) = (0 : Int) → J1 ((f_since.getD t28.toNat (0, [])).2) true) ∧
 (¬ (((f_since.getD t28.toNat (0, [])).1) = (0 : Int)) → ((((f_since.getD t28.toNat (0, [])).1) = (1 : Int) → (f0.length + ((f_since.getD t28.toNat (0, [])).2).length ≤ 9223372036854775807) ∧
 J1 (f0 ++ ((f_since.getD t28.toNat (0, [])).2)) true) ∧
 (¬ (((f_since.getD t28.toNat (0, [])).1) = (1 : Int)) → J1 ([] : List UInt8) false))))))) ∧
 (∀ f02 : List UInt8, ∀ f12 : Bool, J1 f02 f12 → (In .i64 (t28 + (1 : Int))) ∧
 kont1 (t28 + (1 : Int)) f02 f12)) ∧
 (¬ (t28 < (f_since.length : Int)) → K f0 f1 f_synced f_was f_since))) (0 : Int) f_synced f_was)

def M_pdisk_Disk_there (d_files : List (List UInt8 × List UInt8 × Bool × List UInt8 × Bool × List (Int × List UInt8))) (d_ops : Int) (d_left : Int) (d_down : Bool) (p : List UInt8) (K : Bool → Prop) : Prop :=
 (p.length ≤ maxLen) ∧
 (((mget d_files p).isSome) = true → (p.length ≤ maxLen)) ∧
 (((mget d_files p).isSome) = true → ((mget d_files p).isSome = true)) ∧
 K (((mget d_files p).isSome) && (((mget d_files p).getD ([], false, [], false, [])).2.1))

def M_pdisk_Disk_known (d_files : List (List UInt8 × List UInt8 × Bool × List UInt8 × Bool × List (Int × List UInt8))) (d_ops : Int) (d_left : Int) (d_down : Bool) (p : List UInt8) (K : (List (List UInt8 × List UInt8 × Bool × List UInt8 × Bool × List (Int × List UInt8))) → Int → Int → Bool → Prop) : Prop :=
 ∃ J1 : (List (List UInt8 × List UInt8 × Bool × List UInt8 × Bool × List (Int × List UInt8))) → Prop, ((p.length ≤ maxLen) ∧
 ((((mget d_files p).isNone) = true → (p.length ≤ maxLen ∧ d_files.length < maxLen) ∧
 J1 (mput d_files p (([] : List UInt8), false, ([] : List UInt8), false, []))) ∧
 (((mget d_files p).isNone) = false → J1 d_files))) ∧
 (∀ d0 : List (List UInt8 × List UInt8 × Bool × List UInt8 × Bool × List (Int × List UInt8)), J1 d0 → (p.length ≤ maxLen) ∧
 K d0 d_ops d_left d_down)

def M_pdisk_Disk_Down (d_files : List (List UInt8 × List UInt8 × Bool × List UInt8 × Bool × List (Int × List UInt8))) (d_ops : Int) (d_left : Int) (d_down : Bool) (K : Bool → Prop) : Prop :=
 K d_down

def M_pdisk_Disk_Arm (d_files : List (List UInt8 × List UInt8 × Bool × List UInt8 × Bool × List (Int × List UInt8))) (d_ops : Int) (d_left : Int) (d_down : Bool) (n : Int) (K : (List (List UInt8 × List UInt8 × Bool × List UInt8 × Bool × List (Int × List UInt8))) → Int → Int → Bool → Prop) : Prop :=
 K d_files d_ops (if n < (0 : Int) then (0 : Int) else n) d_down

def M_pdisk_Disk_Read (d_files : List (List UInt8 × List UInt8 × Bool × List UInt8 × Bool × List (Int × List UInt8))) (d_ops : Int) (d_left : Int) (d_down : Bool) (p : List UInt8) (K : (List UInt8) → Bool → Er → (List (List UInt8 × List UInt8 × Bool × List UInt8 × Bool × List (Int × List UInt8))) → Int → Int → Bool → Prop) : Prop :=
 M_pdisk_Disk_call d_files d_ops d_left d_down (fun (err : Er) (d_ : List (List UInt8 × List UInt8 × Bool × List UInt8 × Bool × List (Int × List UInt8))) (d_2 : Int) (d_3 : Int) (d_4 : Bool) =>
 ∃ J1 : Bool → Prop, ((((!decide (err = Er.ok)) = true → J1 true) ∧
 ((!decide (err = Er.ok)) = false → M_pdisk_Disk_there d_ d_2 d_3 d_4 p (fun (t15 : Bool) =>
 J1 (!t15))))) ∧
 (∀ q1 : Bool, J1 q1 → ((q1 = true → K ([] : List UInt8) false err d_ d_2 d_3 d_4) ∧
 (q1 = false → (p.length ≤ maxLen) ∧
 ((mget d_ p).isSome = true) ∧
 K (((mget d_ p).getD ([], false, [], false, [])).1) true Er.ok d_ d_2 d_3 d_4))))

def M_pdisk_Disk_paths (d_files : List (List UInt8 × List UInt8 × Bool × List UInt8 × Bool × List (Int × List UInt8))) (d_ops : Int) (d_left : Int) (d_down : Bool) (K : (List (List UInt8)) → Prop) : Prop :=
 Lp2 (fun (l : List (List UInt8)) (left : List (List UInt8)) kont1 => ((left = [] → M_slices_Sort_string_string l (fun (ys : List (List UInt8)) =>
 K ys)) ∧
 (∀ (ix : Nat) (key : List UInt8), left[ix]? = some key → ((mget d_files key).isSome = true) ∧
 (((((mget d_files key).getD ([], false, [], false, [])).2.1) = true → ((l.length + (([key] : List (List UInt8))).length) * 16 ≤ 140737488355328) ∧
 kont1 (l ++ ([key] : List (List UInt8))) (left.eraseIdx ix)) ∧
 ((((mget d_files key).getD ([], false, [], false, [])).2.1) = false → kont1 l (left.eraseIdx ix)))))) [] (d_files.map (·.1))

def M_pdisk_Disk_count (d_files : List (List UInt8 × List UInt8 × Bool × List UInt8 × Bool × List (Int × List UInt8))) (d_ops : Int) (d_left : Int) (d_down : Bool) (K : Int → Prop) : Prop :=
 M_pdisk_Disk_paths d_files d_ops d_left d_down (fun (t4 : List (List UInt8)) =>
 K (t4.length : Int))

def M_pdisk_Disk_put (d_files : List (List UInt8 × List UInt8 × Bool × List UInt8 × Bool × List (Int × List UInt8))) (d_ops : Int) (d_left : Int) (d_down : Bool) (p : List UInt8) (text : List UInt8) (c_kind : Int) (c_text : List UInt8) (K : Er → (List (List UInt8 × List UInt8 × Bool × List UInt8 × Bool × List (Int × List UInt8))) → Int → Int → Bool → Prop) : Prop :=
 M_pdisk_Disk_call d_files d_ops d_left d_down (fun (err : Er) (d_ : List (List UInt8 × List UInt8 × Bool × List UInt8 × Bool × List (Int × List UInt8))) (d_2 : Int) (d_3 : Int) (d_4 : Bool) =>
 ((¬ (err = Er.ok) → K err d_ d_2 d_3 d_4) ∧
 (err = Er.ok → ∃ J1 : (List UInt8) → Prop, (∃ J3 : Bool → Prop, ((((decide (c_kind = (1 : Int))) = true → M_pdisk_Disk_there d_ d_2 d_3 d_4 p (fun (t22 : Bool) =>
 J3 t22)) ∧
 ((decide (c_kind = (1 : Int))) = false → J3 false))) ∧
 (∀ q3 : Bool, J3 q3 → ((q3 = true → (p.length ≤ maxLen) ∧
 ((mget d_ p).isSome = true) ∧
 ((((mget d_ p).getD ([], false, [], false, [])).1).length + text.length ≤ 9223372036854775807) ∧
 J1 ((((mget d_ p).getD ([], false, [], false, [])).1) ++ text)) ∧
 (q3 = false → J1 text)))) ∧
 (∀ text2 : List UInt8, J1 text2 → M_path_Valid p (fun (t37 : Bool) =>
 ((((!t37) || (decide ((65536 : Int) < (text2.length : Int)))) = true → K (Er.e 11) d_ d_2 d_3 d_4) ∧
 (((!t37) || (decide ((65536 : Int) < (text2.length : Int)))) = false → M_pdisk_Disk_there d_ d_2 d_3 d_4 p (fun (t48 : Bool) =>
 ∃ J2 : Bool → Prop, ((((!t48) = true → M_pdisk_Disk_count d_ d_2 d_3 d_4 (fun (t52 : Int) =>
 J2 (decide ((2000 : Int) ≤ t52)))) ∧
 ((!t48) = false → J2 false))) ∧
 (∀ q2 : Bool, J2 q2 → ((q2 = true → K (Er.e 9) d_ d_2 d_3 d_4) ∧
 (q2 = false → M_pdisk_Disk_known d_ d_2 d_3 d_4 p (fun (d_5 : List (List UInt8 × List UInt8 × Bool × List UInt8 × Bool × List (Int × List UInt8))) (d_6 : Int) (d_7 : Int) (d_8 : Bool) =>
 ((mget d_5 p).isSome = true) ∧
 (((((mget d_5 p).getD ([], false, [], false, [])).2.2.2.2).length + (([(c_kind, c_text)] : List (Int × List UInt8))).length) * 24 ≤ 140737488355328) ∧
 K Er.ok (mput d_5 p (text2, true, ((mget d_5 p).getD ([], false, [], false, [])).2.2.1, ((mget d_5 p).getD ([], false, [], false, [])).2.2.2.1, (((mget d_5 p).getD ([], false, [], false, [])).2.2.2.2) ++ ([(c_kind, c_text)] : List (Int × List UInt8)))) d_6 d_7 d_8))))))))))))

def M_pdisk_Disk_Write (d_files : List (List UInt8 × List UInt8 × Bool × List UInt8 × Bool × List (Int × List UInt8))) (d_ops : Int) (d_left : Int) (d_down : Bool) (p : List UInt8) (text : List UInt8) (K : Er → (List (List UInt8 × List UInt8 × Bool × List UInt8 × Bool × List (Int × List UInt8))) → Int → Int → Bool → Prop) : Prop :=
 M_pdisk_Disk_put d_files d_ops d_left d_down p text (0 : Int) text (fun (t6 : Er) (d_ : List (List UInt8 × List UInt8 × Bool × List UInt8 × Bool × List (Int × List UInt8))) (d_2 : Int) (d_3 : Int) (d_4 : Bool) =>
 K t6 d_ d_2 d_3 d_4)

def M_pdisk_Disk_Append (d_files : List (List UInt8 × List UInt8 × Bool × List UInt8 × Bool × List (Int × List UInt8))) (d_ops : Int) (d_left : Int) (d_down : Bool) (p : List UInt8) (text : List UInt8) (K : Er → (List (List UInt8 × List UInt8 × Bool × List UInt8 × Bool × List (Int × List UInt8))) → Int → Int → Bool → Prop) : Prop :=
 M_pdisk_Disk_put d_files d_ops d_left d_down p text (1 : Int) text (fun (t6 : Er) (d_ : List (List UInt8 × List UInt8 × Bool × List UInt8 × Bool × List (Int × List UInt8))) (d_2 : Int) (d_3 : Int) (d_4 : Bool) =>
 K t6 d_ d_2 d_3 d_4)

def M_pdisk_Disk_Remove (d_files : List (List UInt8 × List UInt8 × Bool × List UInt8 × Bool × List (Int × List UInt8))) (d_ops : Int) (d_left : Int) (d_down : Bool) (p : List UInt8) (K : Er → (List (List UInt8 × List UInt8 × Bool × List UInt8 × Bool × List (Int × List UInt8))) → Int → Int → Bool → Prop) : Prop :=
 M_pdisk_Disk_call d_files d_ops d_left d_down (fun (err : Er) (d_ : List (List UInt8 × List UInt8 × Bool × List UInt8 × Bool × List (Int × List UInt8))) (d_2 : Int) (d_3 : Int) (d_4 : Bool) =>
 ((¬ (err = Er.ok) → K err d_ d_2 d_3 d_4) ∧
 (err = Er.ok → M_path_Valid p (fun (t13 : Bool) =>
 (((!t13) = true → K (Er.e 11) d_ d_2 d_3 d_4) ∧
 ((!t13) = false → ∃ J1 : (List (List UInt8 × List UInt8 × Bool × List UInt8 × Bool × List (Int × List UInt8))) → Prop, (M_pdisk_Disk_there d_ d_2 d_3 d_4 p (fun (t18 : Bool) =>
 ((t18 = true → (p.length ≤ maxLen) ∧
 ((mget d_ p).isSome = true) ∧
 (((((mget d_ p).getD ([], false, [], false, [])).2.2.2.2).length + (([((2 : Int), ([] : List UInt8))] : List (Int × List UInt8))).length) * 24 ≤ 140737488355328) ∧
 J1 (mput d_ p (([] : List UInt8), false, ((mget d_ p).getD ([], false, [], false, [])).2.2.1, ((mget d_ p).getD ([], false, [], false, [])).2.2.2.1, (((mget d_ p).getD ([], false, [], false, [])).2.2.2.2) ++ ([((2 : Int), ([] : List UInt8))] : List (Int × List UInt8))))) ∧
 (t18 = false → J1 d_)))) ∧
 (∀ d0 : List (List UInt8 × List UInt8 × Bool × List UInt8 × Bool × List (Int × List UInt8)), J1 d0 → K Er.ok d0 d_2 d_3 d_4)))))))

def M_pdisk_Disk_Sync (d_files : List (List UInt8 × List UInt8 × Bool × List UInt8 × Bool × List (Int × List UInt8))) (d_ops : Int) (d_left : Int) (d_down : Bool) (p : List UInt8) (K : Er → (List (List UInt8 × List UInt8 × Bool × List UInt8 × Bool × List (Int × List UInt8))) → Int → Int → Bool → Prop) : Prop :=
 M_pdisk_Disk_call d_files d_ops d_left d_down (fun (err : Er) (d_ : List (List UInt8 × List UInt8 × Bool × List UInt8 × Bool × List (Int × List UInt8))) (d_2 : Int) (d_3 : Int) (d_4 : Bool) =>
 ((¬ (err = Er.ok) → K err d_ d_2 d_3 d_4) ∧
 (err = Er.ok → M_path_Valid p (fun (t13 : Bool) =>
 (((!t13) = true → K (Er.e 11) d_ d_2 d_3 d_4) ∧
 ((!t13) = false → ∃ J1 : (List (List UInt8 × List UInt8 × Bool × List UInt8 × Bool × List (Int × List UInt8))) → Prop, ((p.length ≤ maxLen) ∧
 ((((mget d_ p).isSome) = true → M_pdisk_file_settle (((mget d_ p).getD ([], false, [], false, [])).1) (((mget d_ p).getD ([], false, [], false, [])).2.1) (((mget d_ p).getD ([], false, [], false, [])).2.2.1) (((mget d_ p).getD ([], false, [], false, [])).2.2.2.1) (((mget d_ p).getD ([], false, [], false, [])).2.2.2.2) (fun (pl_ : List UInt8) (pl_2 : Bool) (pl_3 : List UInt8) (pl_4 : Bool) (pl_5 : List (Int × List UInt8)) =>
 J1 (mput d_ p (pl_, pl_2, pl_3, pl_4, pl_5)))) ∧
 (((mget d_ p).isSome) = false → J1 d_))) ∧
 (∀ d0 : List (List UInt8 × List UInt8 × Bool × List UInt8 × Bool × List (Int × List UInt8)), J1 d0 → K Er.ok d0 d_2 d_3 d_4)))))))

def M_pdisk_Disk_Rise (d_files : List (List UInt8 × List UInt8 × Bool × List UInt8 × Bool × List (Int × List UInt8))) (d_ops : Int) (d_left : Int) (d_down : Bool) (keep : Int) (cut : Int) (K : (List (List UInt8 × List UInt8 × Bool × List UInt8 × Bool × List (Int × List UInt8))) → Int → Int → Bool → Prop) : Prop :=
 (((!d_down) = true → K d_files d_ops d_left d_down) ∧
 ((!d_down) = false → M_slices_Sorted_string_maps_Keys_map_string_pdisk_file_string_pdisk_file_1 d_files (fun (t21 : List (List UInt8)) =>
 Lp3 (fun (keep2 : Int) (t23 : Int) (d0 : List (List UInt8 × List UInt8 × Bool × List UInt8 × Bool × List (Int × List UInt8))) kont1 => ((t23 < (t21.length : Int) → (0 ≤ t23 ∧ t23 < (t21.length : Nat)) ∧
 ((t21.getD t23.toNat []).length ≤ maxLen) ∧
 ∃ J1 : Int → (List (List UInt8 × List UInt8 × Bool × List UInt8 × Bool × List (Int × List UInt8))) → Prop, (((mget d0 (t21.getD t23.toNat [])).isSome = true) ∧
 (((0 : Int) < ((((mget d0 (t21.getD t23.toNat [])).getD ([], false, [], false, [])).2.2.2.2).length : Int) → (0 ≤ keep2 ∧ 0 < (4 : Int)) ∧
 M_pdisk_file_rise (((mget d0 (t21.getD t23.toNat [])).getD ([], false, [], false, [])).1) (((mget d0 (t21.getD t23.toNat [])).getD ([], false, [], false, [])).2.1) (((mget d0 (t21.getD t23.toNat [])).getD ([], false, [], false, [])).2.2.1) (((mget d0 (t21.getD t23.toNat [])).getD ([], false, [], false, [])).2.2.2.1) (((mget d0 (t21.getD t23.toNat [])).getD ([], false, [], false, [])).2.2.2.2) (keep2 % (4 : Int)) (if cut < (0 : Int) then (0 : Int) else cut) (fun (pl_6 : List UInt8) (pl_7 : Bool) (pl_8 : List UInt8) (pl_9 : Bool) (pl_10 : List (Int × List UInt8)) =>
 (0 ≤ keep2 ∧ 0 < (4 : Int) ∧ In .i64 keep2) ∧
 J1 (keep2 / (4 : Int)) (mput d0 (t21.getD t23.toNat []) (pl_6, pl_7, pl_8, pl_9, pl_10)))) ∧
 (¬ ((0 : Int) < ((((mget d0 (t21.getD t23.toNat [])).getD ([], false, [], false, [])).2.2.2.2).length : Int)) → J1 keep2 d0))) ∧
 (∀ keep3 : Int, ∀ d02 : List (List UInt8 × List UInt8 × Bool × List UInt8 × Bool × List (Int × List UInt8)), J1 keep3 d02 → ((mget d02 (t21.getD t23.toNat [])).isSome = true) ∧
 M_pdisk_file_settle (((mget d02 (t21.getD t23.toNat [])).getD ([], false, [], false, [])).1) (((mget d02 (t21.getD t23.toNat [])).getD ([], false, [], false, [])).2.1) (((mget d02 (t21.getD t23.toNat [])).getD ([], false, [], false, [])).2.2.1) (((mget d02 (t21.getD t23.toNat [])).getD ([], false, [], false, [])).2.2.2.1) (((mget d02 (t21.getD t23.toNat [])).getD ([], false, [], false, [])).2.2.2.2) (fun (pl_ : List UInt8) (pl_2 : Bool) (pl_3 : List UInt8) (pl_4 : Bool) (pl_5 : List (Int × List UInt8)) =>
 (In .i64 (t23 + (1 : Int))) ∧
 kont1 keep3 (t23 + (1 : Int)) (mput d02 (t21.getD t23.toNat []) (pl_, pl_2, pl_3, pl_4, pl_5))))) ∧
 (¬ (t23 < (t21.length : Int)) → K d0 d_ops (0 : Int) false))) (if keep < (0 : Int) then (0 : Int) else keep) (0 : Int) d_files)))

def M_disk_New (files : List (List UInt8 × List UInt8)) (K0 : Er → Prop) (K : (List (List UInt8 × List UInt8 × Bool × List UInt8 × Bool × List (Int × List UInt8))) → Int → Int → Bool → Er → Prop) : Prop :=
 (files.length ≤ maxLen →
 Lp2 (fun (t12 : Int) (t90 : List (List UInt8 × List UInt8 × Bool × List UInt8 × Bool × List (Int × List UInt8))) kont1 => ((t12 < (files.length : Int) → (0 ≤ t12 ∧ t12 < (files.length : Nat)) ∧
 M_path_Valid ((files.getD t12.toNat ([], [])).1) (fun (t18 : Bool) =>
 ((!t18) = false → (((files.getD t12.toNat ([], [])).1).length ≤ maxLen)) ∧
 (((((!t18) || ((mget t90 ((files.getD t12.toNat ([], [])).1)).isSome)) || (decide ((65536 : Int) < (((files.getD t12.toNat ([], [])).2).length : Int)))) = true → K0 (Er.e 11)) ∧
 ((((!t18) || ((mget t90 ((files.getD t12.toNat ([], [])).1)).isSome)) || (decide ((65536 : Int) < (((files.getD t12.toNat ([], [])).2).length : Int)))) = false → (((files.getD t12.toNat ([], [])).1).length ≤ maxLen ∧ t90.length < maxLen) ∧
 (In .i64 (t12 + (1 : Int))) ∧
 kont1 (t12 + (1 : Int)) (mput t90 ((files.getD t12.toNat ([], [])).1) ((files.getD t12.toNat ([], [])).2, true, (files.getD t12.toNat ([], [])).2, true, [])))))) ∧
 (¬ (t12 < (files.length : Int)) → (((2000 : Int) < (files.length : Int) → K0 (Er.e 9)) ∧
 (¬ ((2000 : Int) < (files.length : Int)) → K t90 (0 : Int) (0 : Int) false Er.ok))))) (0 : Int) ([] : List (List UInt8 × List UInt8 × Bool × List UInt8 × Bool × List (Int × List UInt8))))

set_option maxHeartbeats 8000000 in
theorem W_pdisk_Disk_call {S : List Nat} {B : Nat} {w : World} {g_d : Nat} {g_d_files : Nat} {hs_d_files : List (List UInt8 × PH)} {d_files : List (List UInt8 × List UInt8 × Bool × List UInt8 × Bool × List (Int × List UInt8))} {d_ops : Int} {d_left : Int} {d_down : Bool} {K : Er → (List (List UInt8 × List UInt8 × Bool × List UInt8 × Bool × List (Int × List UInt8))) → Int → Int → Bool → Prop} (hG : GB S B w) (hB : B ≤ w.heap.size) (hP : AllP (fun p => Ge p B) ((some g_d) :: (FP g_d_files hs_d_files none))) (hS15 : 15 ∈ S) (hd_files : PoolO pe128 w g_d_files hs_d_files d_files none) (hd : Bl w g_d 124 [.map (some g_d_files), .int .i64 d_ops, .int .i64 d_left, .bool d_down]) (hdj0_1 : AllP (Dj (some g_d)) (FP g_d_files hs_d_files none)) (H : M_pdisk_Disk_call d_files d_ops d_left d_down K) : Fn Tryd.prog 69 ⟨[.pointer (some ⟨g_d, 0, none⟩)]⟩ w (fun v w' => GrL ((some g_d) :: (FP g_d_files hs_d_files none)) w w' ∧ ∃ (v_r : Value), ∃ (r : Er), ∃ (hs_d_files2 : List (List UInt8 × PH)), ∃ (d_files2 : List (List UInt8 × List UInt8 × Bool × List UInt8 × Bool × List (Int × List UInt8))), ∃ (d_ops2 : Int), ∃ (d_left2 : Int), ∃ (d_down2 : Bool), v = v_r ∧ ErrR S w' v_r r ∧ Bl w' g_d 124 [.map (some g_d_files), .int .i64 d_ops2, .int .i64 d_left2, .bool d_down2] ∧ PoolO pe128 w' g_d_files hs_d_files2 d_files2 none ∧ AllP (InP ((some g_d) :: (FP g_d_files hs_d_files none)) w.heap.size) (FP g_d_files hs_d_files2 none) ∧ AllP (Dj (some g_d)) (FP g_d_files hs_d_files2 none) ∧ K r d_files2 d_ops2 d_left2 d_down2) := by
  unfold M_pdisk_Disk_call at H
  refine Fn.enter (by kernel_rfl) Tryd.func69 rfl Tryd.ntmps69 rfl ?_
  have hNoAt : AllP (NoAt w) ((some g_d) :: (FP g_d_files hs_d_files none)) := (apC (NoAt.bl hd rfl) hd_files.noats)
  refine WC.seq ?_
  refine WC.region ?_
  refine WL.y rfl (Yld.pure tab_ok rfl) ?_
  refine WL.nil (WX.then_normal ?_)
  refine WC.seq ?_
  refine WC.seq ?_
  refine WC.region ?_
  refine WL.y rfl (Yld.pure tab_ok rfl) ?_
  refine WL.y rfl (Yld.pure tab_ok rfl) ?_
  refine WL.y rfl (Yld.pure tab_ok rfl) ?_
  refine WL.y rfl (Yld.bload tab_ok hd rfl rfl rfl) ?_
  refine WL.nil (WX.then_normal ?_)
  refine WC.cond rfl (fun b1 => ?_) (fun b1 => ?_)
  · replace H := H.1 (b1)
    refine WC.seq ?_
    refine WC.region ?_
    obtain ⟨vE1, _, hE1⟩ := GOK.get hG.ok 15 3 hS15 rfl rfl
    refine WL.y rfl (Yld.cell tab_ok (ErrR.cell hE1 rfl) rfl rfl) ?_
    refine WL.y rfl (Yld.pure tab_ok rfl) ?_
    refine WL.nil (WX.then_normal ?_)
    refine WC.ret (WX.then_ret ?_)
    exact WX.ret1 rfl rfl ⟨(GrL.refl _), vE1, (Er.e 15), hs_d_files, d_files, d_ops, d_left, d_down, rfl, hE1, hd, hd_files, (InA.mem (fun _ hp => List.Mem.tail _ (hp))), hdj0_1, H⟩
  · replace H := H.2 (b1)
    refine WC.skip (WX.then_normal ?_)
    refine WC.seq ?_
    refine WC.region ?_
    refine WL.y rfl (Yld.pure tab_ok rfl) ?_
    refine WL.y rfl (Yld.pure tab_ok rfl) ?_
    refine WL.y rfl (Yld.pure tab_ok rfl) ?_
    refine WL.y rfl (Yld.bload tab_ok hd rfl rfl rfl) ?_
    obtain ⟨h1, H⟩ := H
    refine WL.y rfl (Yld.add rfl rfl h1) ?_
    refine WL.y rfl (Yld.pure tab_ok rfl) ?_
    refine WL.y rfl (Yld.pure tab_ok rfl) ?_
    refine WL.store1 one3 rfl rfl rfl hd (by simp) (fun w1 hB2 hg1 => ?_)
    have hB1 : Bl w1 g_d 124 [.map (some g_d_files), .int .i64 (d_ops + (1 : Int)), .int .i64 d_left, .bool d_down] := hB2
    have gr1 : GrL ((some g_d) :: (FP g_d_files hs_d_files none)) w w1 := GrL.mod (GrL.refl _) hg1 (InP.mem (List.Mem.head _))
    have k1 := hd_files.go hg1 hdj0_1
    refine WL.nil (WX.then_normal ?_)
    refine WC.seq ?_
    obtain ⟨J1, H, hJ1⟩ := H
    refine WC.midF (fun L' w' => ∃ (d2 : Int), L' = [] ∧ J1 d2 ∧ GrL ((some g_d) :: (FP g_d_files hs_d_files none)) w w' ∧ PoolO pe128 w' g_d_files hs_d_files d_files none ∧ Bl w' g_d 124 [.map (some g_d_files), .int .i64 (d_ops + (1 : Int)), .int .i64 d2, .bool d_down] ∧ AllP (Dj (some g_d)) (FP g_d_files hs_d_files none) ∧ AllP (InP ((some g_d) :: (FP g_d_files hs_d_files none)) w.heap.size) (FP g_d_files hs_d_files none)) ?_ (fun hQ => ?_)
    · clear H
      rintro _ w2 ⟨d2, rfl, H, gr2, k2, k3, dj1, hi1⟩
      replace H := hJ1 d2 H
      refine WX.then_normal ?_
      refine WC.seq ?_
      refine WC.region ?_
      refine WL.y rfl (Yld.pure tab_ok rfl) ?_
      refine WL.nil (WX.then_normal ?_)
      refine WC.ret ?_
      exact WX.ret1 rfl rfl ⟨gr2, .nilIface, Er.ok, hs_d_files, d_files, d_ops + (1 : Int), d2, d_down, rfl, (ErrR.okR (S := S) (w := w2)), k3, k2, hi1, dj1, H⟩
    · clear hJ1
      refine WC.seq ?_
      refine WC.region ?_
      refine WL.y rfl (Yld.pure tab_ok rfl) ?_
      refine WL.y rfl (Yld.pure tab_ok rfl) ?_
      refine WL.y rfl (Yld.pure tab_ok rfl) ?_
      refine WL.y rfl (Yld.bload tab_ok hB1 rfl rfl rfl) ?_
      refine WL.y rfl (Yld.pure tab_ok rfl) ?_
      refine WL.nil (WX.then_normal ?_)
      refine WC.cond rfl (fun b2 => ?_) (fun b2 => ?_)
      · replace H := H.1 (of_decide_eq_true b2)
        refine WC.seq ?_
        refine WC.region ?_
        refine WL.y rfl (Yld.pure tab_ok rfl) ?_
        refine WL.y rfl (Yld.pure tab_ok rfl) ?_
        refine WL.y rfl (Yld.pure tab_ok rfl) ?_
        refine WL.y rfl (Yld.bload tab_ok hB1 rfl rfl rfl) ?_
        obtain ⟨h2, H⟩ := H
        refine WL.y rfl (Yld.sub rfl rfl h2) ?_
        refine WL.y rfl (Yld.pure tab_ok rfl) ?_
        refine WL.y rfl (Yld.pure tab_ok rfl) ?_
        refine WL.store1 one3 rfl rfl rfl hB1 (by simp) (fun w3 hB4 hg2 => ?_)
        have hB3 : Bl w3 g_d 124 [.map (some g_d_files), .int .i64 (d_ops + (1 : Int)), .int .i64 (d_left - (1 : Int)), .bool d_down] := hB4
        have gr3 : GrL ((some g_d) :: (FP g_d_files hs_d_files none)) w w3 := GrL.mod gr1 hg2 (InP.mem (List.Mem.head _))
        have k4 := k1.go hg2 hdj0_1
        refine WL.nil (WX.then_normal ?_)
        refine WC.seq ?_
        refine WC.region ?_
        refine WL.y rfl (Yld.pure tab_ok rfl) ?_
        refine WL.y rfl (Yld.pure tab_ok rfl) ?_
        refine WL.y rfl (Yld.pure tab_ok rfl) ?_
        refine WL.y rfl (Yld.bload tab_ok hB3 rfl rfl rfl) ?_
        refine WL.y rfl (Yld.pure tab_ok rfl) ?_
        refine WL.nil (WX.then_normal ?_)
        refine WC.cond rfl (fun b3 => ?_) (fun b3 => ?_)
        · replace H := H.1 (of_decide_eq_true b3)
          refine WC.seq ?_
          refine WC.region ?_
          refine WL.y rfl (Yld.pure tab_ok rfl) ?_
          refine WL.y rfl (Yld.pure tab_ok rfl) ?_
          refine WL.y rfl (Yld.pure tab_ok rfl) ?_
          refine WL.store1 one4 rfl rfl rfl hB3 (by simp) (fun w4 hB6 hg3 => ?_)
          have hB5 : Bl w4 g_d 124 [.map (some g_d_files), .int .i64 (d_ops + (1 : Int)), .int .i64 (d_left - (1 : Int)), .bool true] := hB6
          have gr4 : GrL ((some g_d) :: (FP g_d_files hs_d_files none)) w w4 := GrL.mod gr3 hg3 (InP.mem (List.Mem.head _))
          have k5 := k4.go hg3 hdj0_1
          refine WL.nil (WX.then_normal ?_)
          refine WC.seq ?_
          refine WC.region ?_
          obtain ⟨vE2, _, hE2⟩ := GOK.get (hG.goL gr4 hP).ok 15 3 hS15 rfl rfl
          refine WL.y rfl (Yld.cell tab_ok (ErrR.cell hE2 rfl) rfl rfl) ?_
          refine WL.y rfl (Yld.pure tab_ok rfl) ?_
          refine WL.nil (WX.then_normal ?_)
          refine WC.ret (WX.then_ret ?_)
          exact WX.ret1 rfl rfl ⟨gr4, vE2, (Er.e 15), hs_d_files, d_files, d_ops + (1 : Int), d_left - (1 : Int), true, rfl, hE2, hB5, k5, (InA.mem (fun _ hp => List.Mem.tail _ (hp))), hdj0_1, H⟩
        · replace H := H.2 (of_decide_eq_false b3)
          refine WC.skip ?_
          exact WX.weaken (by repeat (first | exact Sub.nil | refine Sub.cons rfl ?_)) (hQ _ _ ⟨d_left - (1 : Int), rfl, H, gr3, k4, hB3, hdj0_1, (InA.mem (fun _ hp => List.Mem.tail _ (hp)))⟩)
      · replace H := H.2 (of_decide_eq_false b2)
        refine WC.skip ?_
        exact WX.weaken (by repeat (first | exact Sub.nil | refine Sub.cons rfl ?_)) (hQ _ _ ⟨d_left, rfl, H, gr1, k1, hB1, hdj0_1, (InA.mem (fun _ hp => List.Mem.tail _ (hp)))⟩)

set_option maxHeartbeats 8000000 in
theorem W_pdisk_file_settle {w : World} {g_f : Nat} {f_text : List UInt8} {f_is : Bool} {f_synced : List UInt8} {f_was : Bool} {f_since : List (Int × List UInt8)} {A_f_since : Option Addr} {c_f_since : Nat} {n_f_since : Nat} {K : (List UInt8) → Bool → (List UInt8) → Bool → (List (Int × List UInt8)) → Prop} (hf_since : OwnK 2 enc136 w 0 136 A_f_since c_f_since f_since) (hn_f_since : n_f_since = f_since.length) (hf : Bl w g_f 128 [vs f_text, .bool f_is, vs f_synced, .bool f_was, .slice A_f_since n_f_since c_f_since]) (hdj0_1 : Dj (some g_f) (blk A_f_since)) (H : M_pdisk_file_settle f_text f_is f_synced f_was f_since K) : Fn Tryd.prog 75 ⟨[.pointer (some ⟨g_f, 0, none⟩)]⟩ w (fun v w' => GrL [(some g_f), (blk A_f_since)] w w' ∧ ∃ (f_text2 : List UInt8), ∃ (f_is2 : Bool), ∃ (f_synced2 : List UInt8), ∃ (f_was2 : Bool), ∃ (f_since2 : List (Int × List UInt8)), ∃ (A_f_since2 : Option Addr), ∃ (c_f_since2 : Nat), v = .tuple #[] ∧ Bl w' g_f 128 [vs f_text2, .bool f_is2, vs f_synced2, .bool f_was2, .slice A_f_since2 f_since2.length c_f_since2] ∧ OwnK 2 enc136 w' 0 136 A_f_since2 c_f_since2 f_since2 ∧ InP [(some g_f), (blk A_f_since)] w.heap.size (blk A_f_since2) ∧ Dj (some g_f) (blk A_f_since2) ∧ K f_text2 f_is2 f_synced2 f_was2 f_since2) := by
  subst hn_f_since
  unfold M_pdisk_file_settle at H
  refine Fn.enter (by kernel_rfl) Tryd.func75 rfl Tryd.ntmps75 rfl ?_
  replace H := H (Nat.le_trans hf_since.rd.cap hf_since.rd.max)
  have hNoAt : AllP (NoAt w) [(some g_f), (blk A_f_since)] := (apC (NoAt.bl hf rfl) (apC (NoAt.ownK hf_since rfl) apN))
  refine WC.chainF (fun k => !(Nat.beq k 13 || Nat.beq k 16 || Nat.beq k 19)) (LD [6, 10] (fun w' => Bl w' g_f 128 [vs f_text, .bool f_is, vs f_synced, .bool f_was, .slice A_f_since f_since.length c_f_since])) mixed (by kernel_rfl) (fun k w' h _ => (bl_eqv h hf)) ?_
  refine WJ.y rfl rfl (fun w' hw' => Yld.pure tab_ok rfl) ?_
  refine WJ.y rfl rfl (fun w' hw' => Yld.pure tab_ok rfl) ?_
  refine WJ.y rfl rfl (fun w' hw' => Yld.pure tab_ok rfl) ?_
  refine WJ.y rfl rfl (fun w' hw' => Yld.pure tab_ok rfl) ?_
  refine WJ.y rfl rfl (fun w' hw' => Yld.pure tab_ok rfl) ?_
  refine WJ.y rfl rfl (fun w' hw' => Yld.pure tab_ok rfl) ?_
  refine WJ.y rfl rfl (fun w' hw' => Yld.bload tab_ok (hw' rfl) rfl rfl rfl) ?_
  refine WJ.y rfl rfl (fun w' hw' => Yld.pure tab_ok rfl) ?_
  refine WJ.y rfl rfl (fun w' hw' => Yld.pure tab_ok rfl) ?_
  refine WJ.y rfl rfl (fun w' hw' => Yld.pure tab_ok rfl) ?_
  refine WJ.y rfl rfl (fun w' hw' => Yld.bload tab_ok (hw' rfl) rfl rfl rfl) ?_
  refine WJ.y rfl rfl (fun w' hw' => Yld.pure tab_ok rfl) ?_
  refine WJ.y rfl rfl (fun w' hw' => Yld.pure tab_ok rfl) ?_
  refine WJ.eff rfl (Ef0.store1 one9 rfl rfl rfl hf (by simp)) (fun w' h => DD.past (by kernel_rfl)) ?_
  rintro w1 ⟨hB2, hg1⟩
  have hB1 : Bl w1 g_f 128 [vs f_text, .bool f_is, vs f_text, .bool f_was, .slice A_f_since f_since.length c_f_since] := hB2
  have gr1 : GrL [(some g_f), (blk A_f_since)] w w1 := GrL.mod (GrL.refl _) hg1 (InP.mem (List.Mem.head _))
  have k1 := hf_since.go hg1 hdj0_1.symm
  refine WJ.y rfl rfl (fun w' hw' => Yld.pure tab_ok rfl) ?_
  refine WJ.y rfl rfl (fun w' hw' => Yld.pure tab_ok rfl) ?_
  refine WJ.eff rfl (Ef0.store1 one4 rfl rfl rfl hB1 (by simp)) (fun w' h => DD.past (by kernel_rfl)) ?_
  rintro w2 ⟨hB4, hg2⟩
  have hB3 : Bl w2 g_f 128 [vs f_text, .bool f_is, vs f_text, .bool f_is, .slice A_f_since f_since.length c_f_since] := hB4
  have gr2 : GrL [(some g_f), (blk A_f_since)] w w2 := GrL.mod gr1 hg2 (InP.mem (List.Mem.head _))
  have k2 := k1.go hg2 hdj0_1.symm
  refine WJ.y rfl rfl (fun w' hw' => Yld.pure tab_ok rfl) ?_
  refine WJ.y rfl rfl (fun w' hw' => Yld.pure tab_ok rfl) ?_
  refine WJ.eff rfl (Ef0.store1 one126 rfl rfl rfl hB3 (by simp)) (fun w' h => DD.past (by kernel_rfl)) ?_
  rintro w3 ⟨hB6, hg3⟩
  have hB5 : Bl w3 g_f 128 [vs f_text, .bool f_is, vs f_text, .bool f_is, .slice none 0 0] := hB6
  have gr3 : GrL [(some g_f), (blk A_f_since)] w w3 := GrL.mod gr2 hg3 (InP.mem (List.Mem.head _))
  refine WJ.nil ?_
  exact WX.end0 rfl ⟨gr3, f_text, f_is, f_text, f_is, [], none, 0, rfl, hB5, ((OwnK.nil enc136_ok w3 w.heap.size 136).base (fun _ _ => Nat.zero_le _)), InP.none, Dj.nr, H⟩

set_option maxHeartbeats 8000000 in
theorem W_pdisk_file_rise {w : World} {g_f : Nat} {f_text : List UInt8} {f_is : Bool} {f_synced : List UInt8} {f_was : Bool} {f_since : List (Int × List UInt8)} {A_f_since : Option Addr} {c_f_since : Nat} {keep : Int} {cut : Int} {n_f_since : Nat} {K : (List UInt8) → Bool → (List UInt8) → Bool → (List (Int × List UInt8)) → Prop} (hf_since : OwnK 2 enc136 w 0 136 A_f_since c_f_since f_since) (hn_f_since : n_f_since = f_since.length) (hf : Bl w g_f 128 [vs f_text, .bool f_is, vs f_synced, .bool f_was, .slice A_f_since n_f_since c_f_since]) (hdj0_1 : Dj (some g_f) (blk A_f_since)) (H : M_pdisk_file_rise f_text f_is f_synced f_was f_since keep cut K) : Fn Tryd.prog 74 ⟨[.pointer (some ⟨g_f, 0, none⟩), .int .i64 keep, .int .i64 cut]⟩ w (fun v w' => GrL [(some g_f), (blk A_f_since)] w w' ∧ ∃ (f_text2 : List UInt8), ∃ (f_is2 : Bool), ∃ (f_synced2 : List UInt8), ∃ (f_was2 : Bool), ∃ (f_since2 : List (Int × List UInt8)), ∃ (A_f_since2 : Option Addr), ∃ (c_f_since2 : Nat), v = .tuple #[] ∧ Bl w' g_f 128 [vs f_text2, .bool f_is2, vs f_synced2, .bool f_was2, .slice A_f_since2 f_since2.length c_f_since2] ∧ OwnK 2 enc136 w' 0 136 A_f_since2 c_f_since2 f_since2 ∧ InP [(some g_f), (blk A_f_since)] w.heap.size (blk A_f_since2) ∧ Dj (some g_f) (blk A_f_since2) ∧ K f_text2 f_is2 f_synced2 f_was2 f_since2) := by
  subst hn_f_since
  unfold M_pdisk_file_rise at H
  refine Fn.enter (by kernel_rfl) Tryd.func74 rfl Tryd.ntmps74 rfl ?_
  replace H := H (Nat.le_trans hf_since.rd.cap hf_since.rd.max)
  have hNoAt : AllP (NoAt w) [(some g_f), (blk A_f_since)] := (apC (NoAt.bl hf rfl) (apC (NoAt.ownK hf_since rfl) apN))
  refine WC.seq ?_
  refine WC.chainF (fun k => !(Nat.beq k 12 || Nat.beq k 15)) (LD [5, 9] (fun w' => Bl w' g_f 128 [vs f_text, .bool f_is, vs f_synced, .bool f_was, .slice A_f_since f_since.length c_f_since])) mixed (by kernel_rfl) (fun k w' h _ => (bl_eqv h hf)) ?_
  refine WJ.y rfl rfl (fun w' hw' => Yld.pure tab_ok rfl) ?_
  refine WJ.y rfl rfl (fun w' hw' => Yld.pure tab_ok rfl) ?_
  refine WJ.y rfl rfl (fun w' hw' => Yld.pure tab_ok rfl) ?_
  refine WJ.y rfl rfl (fun w' hw' => Yld.pure tab_ok rfl) ?_
  refine WJ.y rfl rfl (fun w' hw' => Yld.pure tab_ok rfl) ?_
  refine WJ.y rfl rfl (fun w' hw' => Yld.bload tab_ok (hw' rfl) rfl rfl rfl) ?_
  refine WJ.y rfl rfl (fun w' hw' => Yld.pure tab_ok rfl) ?_
  refine WJ.y rfl rfl (fun w' hw' => Yld.pure tab_ok rfl) ?_
  refine WJ.y rfl rfl (fun w' hw' => Yld.pure tab_ok rfl) ?_
  refine WJ.y rfl rfl (fun w' hw' => Yld.bload tab_ok (hw' rfl) rfl rfl rfl) ?_
  refine WJ.y rfl rfl (fun w' hw' => Yld.pure tab_ok rfl) ?_
  refine WJ.y rfl rfl (fun w' hw' => Yld.pure tab_ok rfl) ?_
  refine WJ.eff rfl (Ef0.store1 one9 rfl rfl rfl hf (by simp)) (fun w' h => DD.past (by kernel_rfl)) ?_
  rintro w1 ⟨hB2, hg1⟩
  have hB1 : Bl w1 g_f 128 [vs f_synced, .bool f_is, vs f_synced, .bool f_was, .slice A_f_since f_since.length c_f_since] := hB2
  have gr1 : GrL [(some g_f), (blk A_f_since)] w w1 := GrL.mod (GrL.refl _) hg1 (InP.mem (List.Mem.head _))
  have k1 := hf_since.go hg1 hdj0_1.symm
  refine WJ.y rfl rfl (fun w' hw' => Yld.pure tab_ok rfl) ?_
  refine WJ.y rfl rfl (fun w' hw' => Yld.pure tab_ok rfl) ?_
  refine WJ.eff rfl (Ef0.store1 one4 rfl rfl rfl hB1 (by simp)) (fun w' h => DD.past (by kernel_rfl)) ?_
  rintro w2 ⟨hB4, hg2⟩
  have hB3 : Bl w2 g_f 128 [vs f_synced, .bool f_was, vs f_synced, .bool f_was, .slice A_f_since f_since.length c_f_since] := hB4
  have gr2 : GrL [(some g_f), (blk A_f_since)] w w2 := GrL.mod gr1 hg2 (InP.mem (List.Mem.head _))
  have k2 := k1.go hg2 hdj0_1.symm
  refine WJ.nil (WX.then_normal ?_)
  refine WC.seq ?_
  refine WC.region ?_
  refine WL.y rfl (Yld.pure tab_ok rfl) ?_
  refine WL.y rfl (Yld.pure tab_ok rfl) ?_
  refine WL.y rfl (Yld.pure tab_ok rfl) ?_
  refine WL.y rfl (Yld.bload tab_ok hB3 rfl rfl rfl) ?_
  refine WL.y rfl (Yld.pure tab_ok rfl) ?_
  refine WL.y rfl (Yld.pure tab_ok rfl) ?_
  refine WL.nil (WX.then_normal ?_)
  refine WC.block ?_
  obtain ⟨I1, mu1, h0_1, HR1⟩ := H
  refine WC.loopF (fun n' L' w' => ∃ (t28 : Int), ∃ (f0 : List UInt8), ∃ (f1 : Bool), n' = mu1 t28 f0 f1 ∧ L' = [(0, .pointer (some ⟨g_f, 0, none⟩)), (1, .int .i64 keep), (2, .int .i64 cut), (26, .slice A_f_since f_since.length c_f_since), (27, .int .i64 (f_since.length : Int)), (28, .int .i64 t28)] ∧ I1 t28 f0 f1 ∧ GrL [(some g_f), (blk A_f_since)] w w' ∧ OwnK 2 enc136 w' 0 136 A_f_since c_f_since f_since ∧ Bl w' g_f 128 [vs f0, .bool f1, vs f_synced, .bool f_was, .slice A_f_since f_since.length c_f_since] ∧ Dj (some g_f) (blk A_f_since)) _ _ ⟨(0 : Int), f_synced, f_was, rfl, rfl, h0_1, gr2, k2, hB3, hdj0_1⟩ (by repeat (first | exact Sub.nil | refine Sub.cons rfl ?_)) ?_
  clear h0_1
  rintro _ _ w3 ⟨t28, f0, f1, rfl, rfl, hI1, gr3, k3, k4, dj1⟩
  have H := HR1 t28 f0 f1 hI1
  refine WC.seq ?_
  refine WC.region ?_
  refine WL.y rfl (Yld.pure tab_ok rfl) ?_
  refine WL.nil (WX.then_normal ?_)
  refine WC.seq ?_
  refine WC.cond rfl (fun b1 => ?_) (fun b1 => ?_)
  · replace H := H.1 (of_decide_eq_true b1)
    refine WC.skip (WX.then_normal ?_)
    refine WC.seq ?_
    obtain ⟨J1, H, hJ1⟩ := H
    refine WC.midF (fun L' w' => ∃ (f02 : List UInt8), ∃ (f12 : Bool), L' = [(0, .pointer (some ⟨g_f, 0, none⟩)), (1, .int .i64 keep), (2, .int .i64 cut), (26, .slice A_f_since f_since.length c_f_since), (27, .int .i64 (f_since.length : Int)), (28, .int .i64 t28)] ∧ J1 f02 f12 ∧ GrL [(some g_f), (blk A_f_since)] w w' ∧ OwnK 2 enc136 w' 0 136 A_f_since c_f_since f_since ∧ Bl w' g_f 128 [vs f02, .bool f12, vs f_synced, .bool f_was, .slice A_f_since f_since.length c_f_since] ∧ Dj (some g_f) (blk A_f_since)) ?_ (fun hQ => ?_)
    · clear H
      rintro _ w4 ⟨f02, f12, rfl, H, gr4, k5, k6, dj2⟩
      replace H := hJ1 f02 f12 H
      refine WX.then_normal ?_
      refine WC.region ?_
      obtain ⟨h1, H⟩ := H
      refine WL.y rfl (Yld.add rfl rfl h1) ?_
      refine WL.y rfl (Yld.pure tab_ok rfl) ?_
      refine WL.nil ?_
      exact WX.roundF _ ⟨t28 + (1 : Int), f02, f12, rfl, rfl, H.1, gr4, k5, k6, dj2⟩ (by repeat (first | exact Sub.nil | refine Sub.cons rfl ?_)) H.2
    · clear hJ1
      refine WC.block ?_
      refine WC.seq ?_
      refine WC.region ?_
      refine WL.y rfl (Yld.pure tab_ok rfl) ?_
      obtain ⟨h2, H⟩ := H
      refine WL.y rfl (Yld.iaddrK tab_ok k3.rd rfl rfl rfl rfl h2.1 h2.2) ?_
      refine WL.y rfl (Yld.iloadK (0, []) tab_ok k3.rd rfl rfl (iltN h2 rfl)) ?_
      refine WL.alloc rfl zero136 (fun g1 w5 hB5 hg3 hl1 => ?_)
      have gr5 := GrL.add0 gr3 hg3
      have k7 := k3.grown hg3
      have k8 := k4.g0 hg3
      refine WL.y rfl (Yld.pure tab_ok rfl) ?_
      refine WL.storeW (vs := [.int .i64 ((f_since.getD t28.toNat (0, [])).1), vs ((f_since.getD t28.toNat (0, [])).2)]) tab_ok rfl rfl rfl (all1c rfl (all1c rfl all1n)) hB5 rfl rfl (fun w6 hB6 hg4 => ?_)
      have gr6 : GrL [(some g_f), (blk A_f_since)] w w6 := GrL.mod gr5 hg4 (InP.ge (Ge.le (Ge.box hl1) (GrL.sizeL gr3)))
      have k9 := k7.go hg4 (Dj.new k3.lt' (Ge.box hl1))
      have k10 := k8.go hg4 (Dj.new k4.lt' (Ge.box hl1))
      refine WL.nil (WX.then_normal ?_)
      refine WC.seq ?_
      refine WC.seq ?_
      refine WC.region ?_
      refine WL.y rfl (Yld.pure tab_ok rfl) ?_
      refine WL.y rfl (Yld.pure tab_ok rfl) ?_
      refine WL.y rfl (Yld.pure tab_ok rfl) ?_
      refine WL.nil (WX.then_normal ?_)
      refine WC.cond rfl (fun b2 => ?_) (fun b2 => ?_)
      · replace H := H.1 (of_decide_eq_true b2)
        refine WC.seq ?_
        obtain ⟨J2, H, hJ2⟩ := H
        refine WC.midF (fun L' w' => ∃ (f03 : List UInt8), ∃ (f13 : Bool), L' = [] ∧ J2 f03 f13 ∧ GrL [(some g_f), (blk A_f_since)] w w' ∧ OwnK 2 enc136 w' 0 136 A_f_since c_f_since f_since ∧ Bl w' g_f 128 [vs f03, .bool f13, vs f_synced, .bool f_was, .slice A_f_since f_since.length c_f_since] ∧ Dj (some g_f) (blk A_f_since)) ?_ (fun hQ1 => ?_)
        · clear H
          rintro _ w7 ⟨f03, f13, rfl, H, gr7, k11, k12, dj3⟩
          replace H := hJ2 f03 f13 H
          refine WX.then_normal ?_
          refine WC.ret (WX.then_ret (WX.block_ret (WX.then_ret (WX.then_ret (WX.block_ret ?_)))))
          exact WX.ret0 rfl ⟨gr7, f03, f13, f_synced, f_was, f_since, A_f_since, c_f_since, rfl, k12, k11, (InP.mem (List.Mem.tail _ (List.Mem.head _))), dj3, H⟩
        · clear hJ2
          refine WC.seq ?_
          refine WC.region ?_
          refine WL.y rfl (Yld.pure tab_ok rfl) ?_
          refine WL.y rfl (Yld.pure tab_ok rfl) ?_
          refine WL.y rfl (Yld.bload tab_ok hB6 rfl rfl rfl) ?_
          refine WL.y rfl (Yld.pure tab_ok rfl) ?_
          obtain ⟨h3, H⟩ := H
          refine WL.y rfl (Yld.sub rfl rfl h3) ?_
          refine WL.y rfl (Yld.min2 rfl rfl) ?_
          refine WL.y rfl (Yld.pure tab_ok rfl) ?_
          refine WL.nil (WX.then_normal ?_)
          refine WC.seq ?_
          refine WC.region ?_
          refine WL.y rfl (Yld.pure tab_ok rfl) ?_
          refine WL.y rfl (Yld.bload tab_ok hB6 rfl rfl rfl) ?_
          refine WL.y rfl (Yld.pure tab_ok rfl) ?_
          refine WL.y rfl (Yld.pure tab_ok rfl) ?_
          refine WL.midF 3 (fun L' w' => ∃ q1 : Bool, L' = [(48, .bool q1), (0, .pointer (some ⟨g_f, 0, none⟩)), (7, .pointer (some ⟨g1, 0, none⟩)), (8, .int .i64 (if ((((f_since.getD t28.toNat (0, [])).2).length : Int) - (1 : Int)) < cut then (((f_since.getD t28.toNat (0, [])).2).length : Int) - (1 : Int) else cut))] ∧ ((decide (((f_since.getD t28.toNat (0, [])).1) = (1 : Int))) && (decide ((0 : Int) < (if ((((f_since.getD t28.toNat (0, [])).2).length : Int) - (1 : Int)) < cut then (((f_since.getD t28.toNat (0, [])).2).length : Int) - (1 : Int) else cut)))) = q1 ∧ w6 = w') ?_ (fun hQ => ?_)
          · rintro _ _ ⟨q1, rfl, rfl, rfl⟩
            refine WL.nil (WX.then_normal ?_)
            refine WC.cond rfl (fun b3 => ?_) (fun b3 => ?_)
            · replace H := H.1 (b3)
              refine WC.chainF (fun k => !(Nat.beq k 13 || Nat.beq k 16)) (LD [5, 7] (fun w' => Bl w' g_f 128 [vs f0, .bool f1, vs f_synced, .bool f_was, .slice A_f_since f_since.length c_f_since] ∧ Bl w' g1 136 [.int .i64 ((f_since.getD t28.toNat (0, [])).1), vs ((f_since.getD t28.toNat (0, [])).2)])) mixed (by kernel_rfl) (fun k w' h _ => ⟨(bl_eqv h k10), (bl_eqv h hB6)⟩) ?_
              refine WJ.y rfl rfl (fun w' hw' => Yld.pure tab_ok rfl) ?_
              refine WJ.y rfl rfl (fun w' hw' => Yld.pure tab_ok rfl) ?_
              refine WJ.y rfl rfl (fun w' hw' => Yld.pure tab_ok rfl) ?_
              refine WJ.y rfl rfl (fun w' hw' => Yld.pure tab_ok rfl) ?_
              refine WJ.y rfl rfl (fun w' hw' => Yld.pure tab_ok rfl) ?_
              refine WJ.y rfl rfl (fun w' hw' => Yld.bload tab_ok (hw' rfl).1 rfl rfl rfl) ?_
              refine WJ.y rfl rfl (fun w' hw' => Yld.pure tab_ok rfl) ?_
              refine WJ.y rfl rfl (fun w' hw' => Yld.bload tab_ok (hw' rfl).2 rfl rfl rfl) ?_
              refine WJ.y rfl rfl (fun w' hw' => Yld.pure tab_ok rfl) ?_
              obtain ⟨h4, H⟩ := H
              refine WJ.y rfl rfl (fun w' hw' => Yld.scut tab_ok rfl rfl rfl rfl (Int.le_refl 0) h4.1 h4.2) ?_
              obtain ⟨h5, H⟩ := H
              refine WJ.y rfl rfl (fun w' hw' => Yld.sadd rfl rfl h5) ?_
              refine WJ.y rfl rfl (fun w' hw' => Yld.pure tab_ok rfl) ?_
              refine WJ.y rfl rfl (fun w' hw' => Yld.pure tab_ok rfl) ?_
              refine WJ.eff rfl (Ef0.store1 one9 rfl rfl rfl k10 (by simp)) (fun w' h => DD.past (by kernel_rfl)) ?_
              rintro w8 ⟨hB8, hg5⟩
              have hB7 : Bl w8 g_f 128 [vs (f0 ++ (((f_since.getD t28.toNat (0, [])).2).take (if ((((f_since.getD t28.toNat (0, [])).2).length : Int) - (1 : Int)) < cut then (((f_since.getD t28.toNat (0, [])).2).length : Int) - (1 : Int) else cut).toNat)), .bool f1, vs f_synced, .bool f_was, .slice A_f_since f_since.length c_f_since] := hB8
              have gr8 : GrL [(some g_f), (blk A_f_since)] w w8 := GrL.mod gr6 hg5 (InP.mem (List.Mem.head _))
              have k13 := k9.go hg5 dj1.symm
              have k14 := hB6.go hg5 ((Dj.new k4.lt' (Ge.box hl1)).symm)
              refine WJ.y rfl rfl (fun w' hw' => Yld.pure tab_ok rfl) ?_
              refine WJ.y rfl rfl (fun w' hw' => Yld.pure tab_ok rfl) ?_
              refine WJ.eff rfl (Ef0.store1 one4 rfl rfl rfl hB7 (by simp)) (fun w' h => DD.past (by kernel_rfl)) ?_
              rintro w9 ⟨hB10, hg6⟩
              have hB9 : Bl w9 g_f 128 [vs (f0 ++ (((f_since.getD t28.toNat (0, [])).2).take (if ((((f_since.getD t28.toNat (0, [])).2).length : Int) - (1 : Int)) < cut then (((f_since.getD t28.toNat (0, [])).2).length : Int) - (1 : Int) else cut).toNat)), .bool true, vs f_synced, .bool f_was, .slice A_f_since f_since.length c_f_since] := hB10
              have gr9 : GrL [(some g_f), (blk A_f_since)] w w9 := GrL.mod gr8 hg6 (InP.mem (List.Mem.head _))
              have k15 := k13.go hg6 dj1.symm
              have k16 := k14.go hg6 ((Dj.new k4.lt' (Ge.box hl1)).symm)
              refine WJ.nil ?_
              exact WX.weaken (by repeat (first | exact Sub.nil | refine Sub.cons rfl ?_)) (hQ1 _ _ ⟨f0 ++ (((f_since.getD t28.toNat (0, [])).2).take (if ((((f_since.getD t28.toNat (0, [])).2).length : Int) - (1 : Int)) < cut then (((f_since.getD t28.toNat (0, [])).2).length : Int) - (1 : Int) else cut).toNat), true, rfl, H, gr9, k15, hB9, dj1⟩)
            · replace H := H.2 (b3)
              refine WC.skip ?_
              exact WX.weaken (by repeat (first | exact Sub.nil | refine Sub.cons rfl ?_)) (hQ1 _ _ ⟨f0, f1, rfl, H, gr6, k9, k10, dj1⟩)
          · clear H
            rcases Bool.eq_false_or_eq_true (decide (((f_since.getD t28.toNat (0, [])).1) = (1 : Int))) with b4 | b4
            · refine WL.gyes rfl rfl (okb b4) rfl (Yld.pure tab_ok rfl) ?_
              refine WL.gyes rfl rfl (okb b4) rfl (Yld.pure tab_ok rfl) ?_
              refine WL.y rfl (Yld.pickT (okb b4) rfl) ?_
              exact WL.weaken (by repeat (first | exact Sub.nil | refine Sub.cons rfl ?_)) (hQ _ _ ⟨decide ((0 : Int) < (if ((((f_since.getD t28.toNat (0, [])).2).length : Int) - (1 : Int)) < cut then (((f_since.getD t28.toNat (0, [])).2).length : Int) - (1 : Int) else cut)), rfl, by rw [b4] <;> rfl, rfl⟩)
            · refine WL.gno rfl rfl (okb b4) rfl ?_
              refine WL.gno rfl rfl (okb b4) rfl ?_
              refine WL.y rfl (Yld.pickF (okb b4) rfl) ?_
              exact WL.weaken (by repeat (first | exact Sub.nil | refine Sub.cons rfl ?_)) (hQ _ _ ⟨false, rfl, by rw [b4] <;> rfl, rfl⟩)
      · replace H := H.2 (of_decide_eq_false b2)
        refine WC.skip (WX.then_normal ?_)
        refine WC.seq ?_
        refine WC.region ?_
        refine WL.y rfl (Yld.pure tab_ok rfl) ?_
        refine WL.y rfl (Yld.bload tab_ok hB6 rfl rfl rfl) ?_
        refine WL.nil (WX.then_normal ?_)
        refine WC.block ?_
        refine WC.seq ?_
        refine WC.region ?_
        refine WL.y rfl (Yld.pure tab_ok rfl) ?_
        refine WL.y rfl (Yld.pure tab_ok rfl) ?_
        refine WL.nil (WX.then_normal ?_)
        refine WC.cond rfl (fun b5 => ?_) (fun b5 => ?_)
        · replace H := H.1 (of_decide_eq_true b5)
          refine WC.region ?_
          refine WL.y rfl (Yld.pure tab_ok rfl) ?_
          refine WL.y rfl (Yld.pure tab_ok rfl) ?_
          refine WL.y rfl (Yld.pure tab_ok rfl) ?_
          refine WL.y rfl (Yld.bload tab_ok hB6 rfl rfl rfl) ?_
          refine WL.y rfl (Yld.pure tab_ok rfl) ?_
          refine WL.y rfl (Yld.pure tab_ok rfl) ?_
          refine WL.store1 one9 rfl rfl rfl k10 (by simp) (fun w10 hB12 hg7 => ?_)
          have hB11 : Bl w10 g_f 128 [vs ((f_since.getD t28.toNat (0, [])).2), .bool f1, vs f_synced, .bool f_was, .slice A_f_since f_since.length c_f_since] := hB12
          have gr10 : GrL [(some g_f), (blk A_f_since)] w w10 := GrL.mod gr6 hg7 (InP.mem (List.Mem.head _))
          have k17 := k9.go hg7 dj1.symm
          refine WL.y rfl (Yld.pure tab_ok rfl) ?_
          refine WL.y rfl (Yld.pure tab_ok rfl) ?_
          refine WL.store1 one4 rfl rfl rfl hB11 (by simp) (fun w11 hB14 hg8 => ?_)
          have hB13 : Bl w11 g_f 128 [vs ((f_since.getD t28.toNat (0, [])).2), .bool true, vs f_synced, .bool f_was, .slice A_f_since f_since.length c_f_since] := hB14
          have gr11 : GrL [(some g_f), (blk A_f_since)] w w11 := GrL.mod gr10 hg8 (InP.mem (List.Mem.head _))
          have k18 := k17.go hg8 dj1.symm
          refine WL.nil (WX.block_normal (WX.block_normal ?_))
          exact WX.weaken (by repeat (first | exact Sub.nil | refine Sub.cons rfl ?_)) (hQ _ _ ⟨(f_since.getD t28.toNat (0, [])).2, true, rfl, H, gr11, k18, hB13, dj1⟩)
        · replace H := H.2 (of_decide_eq_false b5)
          refine WC.seq ?_
          refine WC.region ?_
          refine WL.y rfl (Yld.pure tab_ok rfl) ?_
          refine WL.y rfl (Yld.pure tab_ok rfl) ?_
          refine WL.nil (WX.then_normal ?_)
          refine WC.cond rfl (fun b6 => ?_) (fun b6 => ?_)
          · replace H := H.1 (of_decide_eq_true b6)
            refine WC.chainF (fun k => !(Nat.beq k 11 || Nat.beq k 14)) (LD [5, 7] (fun w' => Bl w' g_f 128 [vs f0, .bool f1, vs f_synced, .bool f_was, .slice A_f_since f_since.length c_f_since] ∧ Bl w' g1 136 [.int .i64 ((f_since.getD t28.toNat (0, [])).1), vs ((f_since.getD t28.toNat (0, [])).2)])) mixed (by kernel_rfl) (fun k w' h _ => ⟨(bl_eqv h k10), (bl_eqv h hB6)⟩) ?_
            refine WJ.y rfl rfl (fun w' hw' => Yld.pure tab_ok rfl) ?_
            refine WJ.y rfl rfl (fun w' hw' => Yld.pure tab_ok rfl) ?_
            refine WJ.y rfl rfl (fun w' hw' => Yld.pure tab_ok rfl) ?_
            refine WJ.y rfl rfl (fun w' hw' => Yld.pure tab_ok rfl) ?_
            refine WJ.y rfl rfl (fun w' hw' => Yld.pure tab_ok rfl) ?_
            refine WJ.y rfl rfl (fun w' hw' => Yld.bload tab_ok (hw' rfl).1 rfl rfl rfl) ?_
            refine WJ.y rfl rfl (fun w' hw' => Yld.pure tab_ok rfl) ?_
            refine WJ.y rfl rfl (fun w' hw' => Yld.bload tab_ok (hw' rfl).2 rfl rfl rfl) ?_
            obtain ⟨h6, H⟩ := H
            refine WJ.y rfl rfl (fun w' hw' => Yld.sadd rfl rfl h6) ?_
            refine WJ.y rfl rfl (fun w' hw' => Yld.pure tab_ok rfl) ?_
            refine WJ.y rfl rfl (fun w' hw' => Yld.pure tab_ok rfl) ?_
            refine WJ.eff rfl (Ef0.store1 one9 rfl rfl rfl k10 (by simp)) (fun w' h => DD.past (by kernel_rfl)) ?_
            rintro w12 ⟨hB16, hg9⟩
            have hB15 : Bl w12 g_f 128 [vs (f0 ++ ((f_since.getD t28.toNat (0, [])).2)), .bool f1, vs f_synced, .bool f_was, .slice A_f_since f_since.length c_f_since] := hB16
            have gr12 : GrL [(some g_f), (blk A_f_since)] w w12 := GrL.mod gr6 hg9 (InP.mem (List.Mem.head _))
            have k19 := k9.go hg9 dj1.symm
            have k20 := hB6.go hg9 ((Dj.new k4.lt' (Ge.box hl1)).symm)
            refine WJ.y rfl rfl (fun w' hw' => Yld.pure tab_ok rfl) ?_
            refine WJ.y rfl rfl (fun w' hw' => Yld.pure tab_ok rfl) ?_
            refine WJ.eff rfl (Ef0.store1 one4 rfl rfl rfl hB15 (by simp)) (fun w' h => DD.past (by kernel_rfl)) ?_
            rintro w13 ⟨hB18, hg10⟩
            have hB17 : Bl w13 g_f 128 [vs (f0 ++ ((f_since.getD t28.toNat (0, [])).2)), .bool true, vs f_synced, .bool f_was, .slice A_f_since f_since.length c_f_since] := hB18
            have gr13 : GrL [(some g_f), (blk A_f_since)] w w13 := GrL.mod gr12 hg10 (InP.mem (List.Mem.head _))
            have k21 := k19.go hg10 dj1.symm
            have k22 := k20.go hg10 ((Dj.new k4.lt' (Ge.box hl1)).symm)
            refine WJ.nil (WX.block_normal (WX.block_normal ?_))
            exact WX.weaken (by repeat (first | exact Sub.nil | refine Sub.cons rfl ?_)) (hQ _ _ ⟨f0 ++ ((f_since.getD t28.toNat (0, [])).2), true, rfl, H, gr13, k21, hB17, dj1⟩)
          · replace H := H.2 (of_decide_eq_false b6)
            refine WC.region ?_
            refine WL.y rfl (Yld.pure tab_ok rfl) ?_
            refine WL.y rfl (Yld.pure tab_ok rfl) ?_
            refine WL.y rfl (Yld.pure tab_ok rfl) ?_
            refine WL.y rfl (Yld.pure tab_ok rfl) ?_
            refine WL.store1 one9 rfl rfl rfl k10 (by simp) (fun w14 hB20 hg11 => ?_)
            have hB19 : Bl w14 g_f 128 [vs ([] : List UInt8), .bool f1, vs f_synced, .bool f_was, .slice A_f_since f_since.length c_f_since] := hB20
            have gr14 : GrL [(some g_f), (blk A_f_since)] w w14 := GrL.mod gr6 hg11 (InP.mem (List.Mem.head _))
            have k23 := k9.go hg11 dj1.symm
            refine WL.y rfl (Yld.pure tab_ok rfl) ?_
            refine WL.y rfl (Yld.pure tab_ok rfl) ?_
            refine WL.store1 one4 rfl rfl rfl hB19 (by simp) (fun w15 hB22 hg12 => ?_)
            have hB21 : Bl w15 g_f 128 [vs ([] : List UInt8), .bool false, vs f_synced, .bool f_was, .slice A_f_since f_since.length c_f_since] := hB22
            have gr15 : GrL [(some g_f), (blk A_f_since)] w w15 := GrL.mod gr14 hg12 (InP.mem (List.Mem.head _))
            have k24 := k23.go hg12 dj1.symm
            refine WL.nil (WX.block_normal (WX.block_normal ?_))
            exact WX.weaken (by repeat (first | exact Sub.nil | refine Sub.cons rfl ?_)) (hQ _ _ ⟨([] : List UInt8), false, rfl, H, gr15, k24, hB21, dj1⟩)
  · replace H := H.2 (of_decide_eq_false b1)
    refine WC.exit (WX.then_exit (WX.then_exit (WX.block_same ?_)))
    exact WX.end0 rfl ⟨gr3, f0, f1, f_synced, f_was, f_since, A_f_since, c_f_since, rfl, k4, k3, (InP.mem (List.Mem.tail _ (List.Mem.head _))), dj1, H⟩

set_option maxHeartbeats 8000000 in
theorem W_pdisk_Disk_there {w : World} {g_d : Nat} {g_d_files : Nat} {hs_d_files : List (List UInt8 × PH)} {d_files : List (List UInt8 × List UInt8 × Bool × List UInt8 × Bool × List (Int × List UInt8))} {d_ops : Int} {d_left : Int} {d_down : Bool} {p : List UInt8} {K : Bool → Prop} (hd_files : PoolO pe128 w g_d_files hs_d_files d_files none) (hd : Bl w g_d 124 [.map (some g_d_files), .int .i64 d_ops, .int .i64 d_left, .bool d_down]) (H : M_pdisk_Disk_there d_files d_ops d_left d_down p K) : Fn Tryd.prog 70 ⟨[.pointer (some ⟨g_d, 0, none⟩), vs p]⟩ w (fun v w' => w = w' ∧ ∃ (r : Bool), v = .bool r ∧ K r) := by
  unfold M_pdisk_Disk_there at H
  refine Fn.enter (by kernel_rfl) Tryd.func70 rfl Tryd.ntmps70 rfl ?_
  refine WC.seq ?_
  refine WC.region ?_
  refine WL.y rfl (Yld.pure tab_ok rfl) ?_
  refine WL.nil (WX.then_normal ?_)
  refine WC.seq ?_
  refine WC.region ?_
  refine WL.y rfl (Yld.pure tab_ok rfl) ?_
  refine WL.y rfl (Yld.pure tab_ok rfl) ?_
  refine WL.y rfl (Yld.pure tab_ok rfl) ?_
  refine WL.y rfl (Yld.bload tab_ok hd rfl rfl rfl) ?_
  refine WL.y rfl (Yld.pure tab_ok rfl) ?_
  obtain ⟨h1, H⟩ := H
  refine WL.y rfl (Yld.plook (keyF_s Tryd.underlying9) Tryd.underlying122 (fun _ => by kernel_rfl) hd_files rfl rfl h1) ?_
  refine WL.y rfl (Yld.pneP Tryd.underlying125 hd_files rfl rfl) ?_
  refine WL.y rfl (Yld.pure tab_ok rfl) ?_
  obtain ⟨h2, H⟩ := H
  obtain ⟨h3, H⟩ := H
  refine WL.midF 10 (fun L' w' => ∃ q1 : Bool, L' = [(22, .bool q1)] ∧ (((mget d_files p).isSome) && (((mget d_files p).getD ([], false, [], false, [])).2.1)) = q1 ∧ w = w') ?_ (fun hQ => ?_)
  · rintro _ _ ⟨q1, rfl, rfl, rfl⟩
    refine WL.y rfl (Yld.pure tab_ok rfl) ?_
    refine WL.nil (WX.then_normal ?_)
    refine WC.ret ?_
    exact WX.ret1 rfl rfl ⟨rfl, ((mget d_files p).isSome) && (((mget d_files p).getD ([], false, [], false, [])).2.1), rfl, H⟩
  · clear H
    rcases Bool.eq_false_or_eq_true ((mget d_files p).isSome) with b1 | b1
    · refine WL.gyes rfl rfl (okb b1) rfl (Yld.pure tab_ok rfl) ?_
      refine WL.gyes rfl rfl (okb b1) rfl (Yld.pure tab_ok rfl) ?_
      refine WL.gyes rfl rfl (okb b1) rfl (Yld.pure tab_ok rfl) ?_
      refine WL.gyes rfl rfl (okb b1) rfl (Yld.bload tab_ok hd rfl rfl rfl) ?_
      refine WL.gyes rfl rfl (okb b1) rfl (Yld.pure tab_ok rfl) ?_
      refine WL.gyes rfl rfl (okb b1) rfl (Yld.plook (keyF_s Tryd.underlying9) Tryd.underlying122 (fun _ => by kernel_rfl) hd_files rfl rfl (h2 b1)) ?_
      refine WL.gyes rfl rfl (okb b1) rfl (Yld.pchk hd_files (h3 b1) rfl) ?_
      refine WL.gyes rfl rfl (okb b1) rfl (Yld.pfa tab_ok hd_files (h3 b1) rfl rfl rfl) ?_
      refine WL.gyes rfl rfl (okb b1) rfl (Yld.pld (z := ([], false, [], false, [])) (v := .bool (((mget d_files p).getD ([], false, [], false, [])).2.1)) tab_ok hd_files (h3 b1) rfl rfl rfl rfl) ?_
      refine WL.y rfl (Yld.pickT (okb b1) rfl) ?_
      exact WL.weaken (by repeat (first | exact Sub.nil | refine Sub.cons rfl ?_)) (hQ _ _ ⟨((mget d_files p).getD ([], false, [], false, [])).2.1, rfl, by rw [b1] <;> rfl, rfl⟩)
    · refine WL.gno rfl rfl (okb b1) rfl ?_
      refine WL.gno rfl rfl (okb b1) rfl ?_
      refine WL.gno rfl rfl (okb b1) rfl ?_
      refine WL.gno rfl rfl (okb b1) rfl ?_
      refine WL.gno rfl rfl (okb b1) rfl ?_
      refine WL.gno rfl rfl (okb b1) rfl ?_
      refine WL.gno rfl rfl (okb b1) rfl ?_
      refine WL.gno rfl rfl (okb b1) rfl ?_
      refine WL.gno rfl rfl (okb b1) rfl ?_
      refine WL.y rfl (Yld.pickF (okb b1) rfl) ?_
      exact WL.weaken (by repeat (first | exact Sub.nil | refine Sub.cons rfl ?_)) (hQ _ _ ⟨false, rfl, by rw [b1] <;> rfl, rfl⟩)

set_option maxHeartbeats 8000000 in
theorem W_pdisk_Disk_known {w : World} {g_d : Nat} {g_d_files : Nat} {hs_d_files : List (List UInt8 × PH)} {d_files : List (List UInt8 × List UInt8 × Bool × List UInt8 × Bool × List (Int × List UInt8))} {d_ops : Int} {d_left : Int} {d_down : Bool} {p : List UInt8} {K : (List (List UInt8 × List UInt8 × Bool × List UInt8 × Bool × List (Int × List UInt8))) → Int → Int → Bool → Prop} (hd_files : PoolO pe128 w g_d_files hs_d_files d_files none) (hd : Bl w g_d 124 [.map (some g_d_files), .int .i64 d_ops, .int .i64 d_left, .bool d_down]) (hdj0_1 : AllP (Dj (some g_d)) (FP g_d_files hs_d_files none)) (H : M_pdisk_Disk_known d_files d_ops d_left d_down p K) : Fn Tryd.prog 113 ⟨[.pointer (some ⟨g_d, 0, none⟩), vs p]⟩ w (fun v w' => GrL ((some g_d) :: (FP g_d_files hs_d_files none)) w w' ∧ ∃ (hs_d_files2 : List (List UInt8 × PH)), ∃ (d_files2 : List (List UInt8 × List UInt8 × Bool × List UInt8 × Bool × List (Int × List UInt8))), ∃ (d_ops2 : Int), ∃ (d_left2 : Int), ∃ (d_down2 : Bool), v = pq hs_d_files2 p ∧ Bl w' g_d 124 [.map (some g_d_files), .int .i64 d_ops2, .int .i64 d_left2, .bool d_down2] ∧ PoolO pe128 w' g_d_files hs_d_files2 d_files2 none ∧ AllP (InP ((some g_d) :: (FP g_d_files hs_d_files none)) w.heap.size) (FP g_d_files hs_d_files2 none) ∧ AllP (Dj (some g_d)) (FP g_d_files hs_d_files2 none) ∧ K d_files2 d_ops2 d_left2 d_down2) := by
  unfold M_pdisk_Disk_known at H
  refine Fn.enter (by kernel_rfl) Tryd.func113 rfl Tryd.ntmps113 rfl ?_
  have hNoAt : AllP (NoAt w) ((some g_d) :: (FP g_d_files hs_d_files none)) := (apC (NoAt.bl hd rfl) hd_files.noats)
  refine WC.seq ?_
  refine WC.region ?_
  refine WL.y rfl (Yld.pure tab_ok rfl) ?_
  refine WL.nil (WX.then_normal ?_)
  refine WC.seq ?_
  obtain ⟨J1, H, hJ1⟩ := H
  refine WC.midF (fun L' w' => ∃ (d0 : List (List UInt8 × List UInt8 × Bool × List UInt8 × Bool × List (Int × List UInt8))), ∃ (hs_d0 : List (List UInt8 × PH)), L' = [(0, .pointer (some ⟨g_d, 0, none⟩)), (1, vs p)] ∧ J1 d0 ∧ GrL ((some g_d) :: (FP g_d_files hs_d_files none)) w w' ∧ Bl w' g_d 124 [.map (some g_d_files), .int .i64 d_ops, .int .i64 d_left, .bool d_down] ∧ PoolO pe128 w' g_d_files hs_d0 d0 none ∧ AllP (Dj (some g_d)) (FP g_d_files hs_d0 none) ∧ AllP (InP ((some g_d) :: (FP g_d_files hs_d_files none)) w.heap.size) (FP g_d_files hs_d0 none)) ?_ (fun hQ => ?_)
  · clear H
    rintro _ w1 ⟨d0, hs_d0, rfl, H, gr1, k1, k2, dj1, hi1⟩
    replace H := hJ1 d0 H
    refine WX.then_normal ?_
    refine WC.seq ?_
    refine WC.region ?_
    refine WL.y rfl (Yld.pure tab_ok rfl) ?_
    refine WL.y rfl (Yld.pure tab_ok rfl) ?_
    refine WL.y rfl (Yld.pure tab_ok rfl) ?_
    refine WL.y rfl (Yld.bload tab_ok k1 rfl rfl rfl) ?_
    refine WL.y rfl (Yld.pure tab_ok rfl) ?_
    obtain ⟨h1, H⟩ := H
    refine WL.y rfl (Yld.plook (keyF_s Tryd.underlying9) Tryd.underlying122 (fun _ => by kernel_rfl) k2 rfl rfl h1) ?_
    refine WL.y rfl (Yld.pure tab_ok rfl) ?_
    refine WL.nil (WX.then_normal ?_)
    refine WC.ret ?_
    exact WX.ret1 rfl rfl ⟨gr1, hs_d0, d0, d_ops, d_left, d_down, rfl, k1, k2, hi1, dj1, H⟩
  · clear hJ1
    refine WC.seq ?_
    refine WC.region ?_
    refine WL.y rfl (Yld.pure tab_ok rfl) ?_
    refine WL.y rfl (Yld.pure tab_ok rfl) ?_
    refine WL.y rfl (Yld.pure tab_ok rfl) ?_
    refine WL.y rfl (Yld.bload tab_ok hd rfl rfl rfl) ?_
    refine WL.y rfl (Yld.pure tab_ok rfl) ?_
    obtain ⟨h2, H⟩ := H
    refine WL.y rfl (Yld.plook (keyF_s Tryd.underlying9) Tryd.underlying122 (fun _ => by kernel_rfl) hd_files rfl rfl h2) ?_
    refine WL.y rfl (Yld.peqP Tryd.underlying125 hd_files rfl rfl) ?_
    refine WL.nil (WX.then_normal ?_)
    refine WC.cond rfl (fun b1 => ?_) (fun b1 => ?_)
    · replace H := H.1 (b1)
      refine WC.region ?_
      refine WL.y rfl (Yld.pure tab_ok rfl) ?_
      refine WL.y rfl (Yld.pure tab_ok rfl) ?_
      refine WL.y rfl (Yld.pure tab_ok rfl) ?_
      refine WL.y rfl (Yld.bload tab_ok hd rfl rfl rfl) ?_
      refine WL.y rfl (Yld.pure tab_ok rfl) ?_
      refine WL.y rfl (Yld.struct (us := [vs ([] : List UInt8), .bool false, vs ([] : List UInt8), .bool false, .slice none 0 0]) zero128 places128 rfl rfl) ?_
      refine WL.box (us := [vs ([] : List UInt8), .bool false, vs ([] : List UInt8), .bool false, .slice none 0 0]) rfl rfl rfl (fun g1 w2 hB1 hg1 hl1 => ?_)
      have gr2 := (GrL.of0 (ps := ((some g_d) :: (FP g_d_files hs_d_files none))) hg1)
      have k3 := hd_files.g0 hg1
      have k4 := hd.g0 hg1
      obtain ⟨h3, H⟩ := H
      have hr1 : pe128.rel w2 (g1, blk none) (([] : List UInt8), false, ([] : List UInt8), false, []) := ⟨_, _, rfl, hB1, ((OwnK.nil enc136_ok w2 w.heap.size 136).base (fun _ _ => Nat.zero_le _)), Dj.nr⟩
      refine WL.ef0 (Ef0.poolPut (keyF_s Tryd.underlying9) Tryd.underlying122 k3 h3.2 rfl rfl h3.1 rfl hr1 (hd_files.new (Ge.box hl1)) apNl) ?_
      rintro w3 ⟨k5, hg2⟩
      have gr3 : GrL ((some g_d) :: (FP g_d_files hs_d_files none)) w w3 := GrL.mod gr2 hg2 (apH (InA.mem (fun _ hp => List.Mem.tail _ (hp))))
      have k6 := k4.go hg2 (apH hdj0_1)
      refine WL.nil ?_
      exact WX.weaken (by repeat (first | exact Sub.nil | refine Sub.cons rfl ?_)) (hQ _ _ ⟨mput d_files p (([] : List UInt8), false, ([] : List UInt8), false, []), mput hs_d_files p (g1, blk none), rfl, H, gr3, k6, k5, (PoolO.putA k3 hdj0_1 (Dj.new hd.lt' (Ge.box hl1)) Dj.nr), (PoolO.putA k3 (InA.mem (fun _ hp => List.Mem.tail _ (hp))) (InP.ge (Ge.le (Ge.box hl1) (Nat.le_refl _))) InP.none)⟩)
    · replace H := H.2 (b1)
      refine WC.skip ?_
      exact WX.weaken (by repeat (first | exact Sub.nil | refine Sub.cons rfl ?_)) (hQ _ _ ⟨d_files, hs_d_files, rfl, H, (GrL.refl _), hd, hd_files, hdj0_1, (InA.mem (fun _ hp => List.Mem.tail _ (hp)))⟩)

set_option maxHeartbeats 8000000 in
theorem W_pdisk_Disk_Down {w : World} {g_d : Nat} {g_d_files : Nat} {hs_d_files : List (List UInt8 × PH)} {d_files : List (List UInt8 × List UInt8 × Bool × List UInt8 × Bool × List (Int × List UInt8))} {d_ops : Int} {d_left : Int} {d_down : Bool} {K : Bool → Prop} (hd_files : PoolO pe128 w g_d_files hs_d_files d_files none) (hd : Bl w g_d 124 [.map (some g_d_files), .int .i64 d_ops, .int .i64 d_left, .bool d_down]) (H : M_pdisk_Disk_Down d_files d_ops d_left d_down K) : Fn Tryd.prog 25 ⟨[.pointer (some ⟨g_d, 0, none⟩)]⟩ w (fun v w' => w = w' ∧ ∃ (r : Bool), v = .bool r ∧ K r) := by
  unfold M_pdisk_Disk_Down at H
  refine Fn.enter (by kernel_rfl) Tryd.func25 rfl Tryd.ntmps25 rfl ?_
  refine WC.seq ?_
  refine WC.region ?_
  refine WL.y rfl (Yld.pure tab_ok rfl) ?_
  refine WL.nil (WX.then_normal ?_)
  refine WC.seq ?_
  refine WC.region ?_
  refine WL.y rfl (Yld.pure tab_ok rfl) ?_
  refine WL.y rfl (Yld.pure tab_ok rfl) ?_
  refine WL.y rfl (Yld.pure tab_ok rfl) ?_
  refine WL.y rfl (Yld.bload tab_ok hd rfl rfl rfl) ?_
  refine WL.y rfl (Yld.pure tab_ok rfl) ?_
  refine WL.nil (WX.then_normal ?_)
  refine WC.ret ?_
  exact WX.ret1 rfl rfl ⟨rfl, d_down, rfl, H⟩

set_option maxHeartbeats 8000000 in
theorem W_pdisk_Disk_Arm {w : World} {g_d : Nat} {g_d_files : Nat} {hs_d_files : List (List UInt8 × PH)} {d_files : List (List UInt8 × List UInt8 × Bool × List UInt8 × Bool × List (Int × List UInt8))} {d_ops : Int} {d_left : Int} {d_down : Bool} {n : Int} {K : (List (List UInt8 × List UInt8 × Bool × List UInt8 × Bool × List (Int × List UInt8))) → Int → Int → Bool → Prop} (hd_files : PoolO pe128 w g_d_files hs_d_files d_files none) (hd : Bl w g_d 124 [.map (some g_d_files), .int .i64 d_ops, .int .i64 d_left, .bool d_down]) (hdj0_1 : AllP (Dj (some g_d)) (FP g_d_files hs_d_files none)) (H : M_pdisk_Disk_Arm d_files d_ops d_left d_down n K) : Fn Tryd.prog 22 ⟨[.pointer (some ⟨g_d, 0, none⟩), .int .i64 n]⟩ w (fun v w' => GrL ((some g_d) :: (FP g_d_files hs_d_files none)) w w' ∧ ∃ (hs_d_files2 : List (List UInt8 × PH)), ∃ (d_files2 : List (List UInt8 × List UInt8 × Bool × List UInt8 × Bool × List (Int × List UInt8))), ∃ (d_ops2 : Int), ∃ (d_left2 : Int), ∃ (d_down2 : Bool), v = .tuple #[] ∧ Bl w' g_d 124 [.map (some g_d_files), .int .i64 d_ops2, .int .i64 d_left2, .bool d_down2] ∧ PoolO pe128 w' g_d_files hs_d_files2 d_files2 none ∧ AllP (InP ((some g_d) :: (FP g_d_files hs_d_files none)) w.heap.size) (FP g_d_files hs_d_files2 none) ∧ AllP (Dj (some g_d)) (FP g_d_files hs_d_files2 none) ∧ K d_files2 d_ops2 d_left2 d_down2) := by
  unfold M_pdisk_Disk_Arm at H
  refine Fn.enter (by kernel_rfl) Tryd.func22 rfl Tryd.ntmps22 rfl ?_
  have hNoAt : AllP (NoAt w) ((some g_d) :: (FP g_d_files hs_d_files none)) := (apC (NoAt.bl hd rfl) hd_files.noats)
  refine WC.region ?_
  refine WL.y rfl (Yld.pure tab_ok rfl) ?_
  refine WL.y rfl (Yld.pure tab_ok rfl) ?_
  refine WL.y rfl (Yld.max2 rfl rfl) ?_
  refine WL.y rfl (Yld.pure tab_ok rfl) ?_
  refine WL.y rfl (Yld.pure tab_ok rfl) ?_
  refine WL.store1 one3 rfl rfl rfl hd (by simp) (fun w1 hB2 hg1 => ?_)
  have hB1 : Bl w1 g_d 124 [.map (some g_d_files), .int .i64 d_ops, .int .i64 (if n < (0 : Int) then (0 : Int) else n), .bool d_down] := hB2
  have gr1 : GrL ((some g_d) :: (FP g_d_files hs_d_files none)) w w1 := GrL.mod (GrL.refl _) hg1 (InP.mem (List.Mem.head _))
  have k1 := hd_files.go hg1 hdj0_1
  refine WL.nil ?_
  exact WX.end0 rfl ⟨gr1, hs_d_files, d_files, d_ops, (if n < (0 : Int) then (0 : Int) else n), d_down, rfl, hB1, k1, (InA.mem (fun _ hp => List.Mem.tail _ (hp))), hdj0_1, H⟩

set_option maxHeartbeats 8000000 in
theorem W_pdisk_Disk_Read {S : List Nat} {B : Nat} {w : World} {g_d : Nat} {g_d_files : Nat} {hs_d_files : List (List UInt8 × PH)} {d_files : List (List UInt8 × List UInt8 × Bool × List UInt8 × Bool × List (Int × List UInt8))} {d_ops : Int} {d_left : Int} {d_down : Bool} {p : List UInt8} {K : (List UInt8) → Bool → Er → (List (List UInt8 × List UInt8 × Bool × List UInt8 × Bool × List (Int × List UInt8))) → Int → Int → Bool → Prop} (hG : GB S B w) (hB : B ≤ w.heap.size) (hP : AllP (fun p => Ge p B) ((some g_d) :: (FP g_d_files hs_d_files none))) (hS15 : 15 ∈ S) (hd_files : PoolO pe128 w g_d_files hs_d_files d_files none) (hd : Bl w g_d 124 [.map (some g_d_files), .int .i64 d_ops, .int .i64 d_left, .bool d_down]) (hdj0_1 : AllP (Dj (some g_d)) (FP g_d_files hs_d_files none)) (H : M_pdisk_Disk_Read d_files d_ops d_left d_down p K) : Fn Tryd.prog 23 ⟨[.pointer (some ⟨g_d, 0, none⟩), vs p]⟩ w (fun v w' => GrL ((some g_d) :: (FP g_d_files hs_d_files none)) w w' ∧ ∃ (r0 : List UInt8), ∃ (r1 : Bool), ∃ (v_r2 : Value), ∃ (r2 : Er), ∃ (hs_d_files2 : List (List UInt8 × PH)), ∃ (d_files2 : List (List UInt8 × List UInt8 × Bool × List UInt8 × Bool × List (Int × List UInt8))), ∃ (d_ops2 : Int), ∃ (d_left2 : Int), ∃ (d_down2 : Bool), v = .tuple #[vs r0, .bool r1, v_r2] ∧ ErrR S w' v_r2 r2 ∧ Bl w' g_d 124 [.map (some g_d_files), .int .i64 d_ops2, .int .i64 d_left2, .bool d_down2] ∧ PoolO pe128 w' g_d_files hs_d_files2 d_files2 none ∧ AllP (InP ((some g_d) :: (FP g_d_files hs_d_files none)) w.heap.size) (FP g_d_files hs_d_files2 none) ∧ AllP (Dj (some g_d)) (FP g_d_files hs_d_files2 none) ∧ K r0 r1 r2 d_files2 d_ops2 d_left2 d_down2) := by
  unfold M_pdisk_Disk_Read at H
  refine Fn.enter (by kernel_rfl) Tryd.func23 rfl Tryd.ntmps23 rfl ?_
  have hNoAt : AllP (NoAt w) ((some g_d) :: (FP g_d_files hs_d_files none)) := (apC (NoAt.bl hd rfl) hd_files.noats)
  refine WC.seq ?_
  refine WC.region ?_
  refine WL.y rfl (Yld.pure tab_ok rfl) ?_
  refine WL.y rfl (Yld.pure tab_ok rfl) ?_
  refine WL.y rfl (Yld.pure tab_ok rfl) ?_
  refine WL.nil (WX.then_normal ?_)
  refine WC.seq ?_
  refine WC.seq ?_
  refine WC.region ?_
  refine WL.y rfl (Yld.pure tab_ok rfl) ?_
  refine WL.call rfl rfl (W_pdisk_Disk_call hG (Nat.le_trans hB (Nat.le_refl _)) (apC (InP.toGe (InP.mem (List.Mem.head _)) hP hB) (InA.toGe (InA.mem (fun _ hp => List.Mem.tail _ (hp))) hP hB)) hS15 hd_files hd hdj0_1 H) ?_
  rintro v_err w1 ⟨hgl1, _, err, hs_d_, d_, d_2, d_3, d_4, rfl, herr, hB1, hM1, hi1, dj1, H⟩
  have gr1 : GrL ((some g_d) :: (FP g_d_files hs_d_files none)) w w1 := GrL.modL (GrL.refl _) hgl1 (apC (InP.mem (List.Mem.head _)) (InA.mem (fun _ hp => List.Mem.tail _ (hp))))
  refine WL.y rfl (Yld.pure tab_ok rfl) ?_
  refine WL.nil (WX.then_normal ?_)
  refine WC.seq ?_
  refine WC.region ?_
  refine WL.y rfl (Yld.pure tab_ok rfl) ?_
  refine WL.y rfl (Yld.errneq Tryd.underlying29 herr rfl) ?_
  refine WL.y rfl (Yld.pure tab_ok rfl) ?_
  obtain ⟨J1, H, hJ1⟩ := H
  refine WL.midF 5 (fun L' w' => ∃ q1 : Bool, L' = [(17, .bool q1), (0, .pointer (some ⟨g_d, 0, none⟩)), (1, vs p), (7, v_err)] ∧ J1 q1 ∧ w1 = w') ?_ (fun hQ => ?_)
  · clear H
    rintro _ _ ⟨q1, rfl, H, rfl⟩
    replace H := hJ1 q1 H
    refine WL.nil (WX.then_normal ?_)
    refine WC.cond rfl (fun b1 => ?_) (fun b1 => ?_)
    · replace H := H.1 (b1)
      refine WC.seq ?_
      refine WC.region ?_
      refine WL.y rfl (Yld.pure tab_ok rfl) ?_
      refine WL.y rfl (Yld.pure tab_ok rfl) ?_
      refine WL.y rfl (Yld.pure tab_ok rfl) ?_
      refine WL.y rfl (Yld.pure tab_ok rfl) ?_
      refine WL.nil (WX.then_normal ?_)
      refine WC.ret (WX.then_ret ?_)
      exact WX.ret3 rfl rfl rfl rfl ⟨gr1, ([] : List UInt8), false, v_err, err, hs_d_, d_, d_2, d_3, d_4, rfl, herr, hB1, hM1, (InA.trans hi1 (apC (InP.mem (List.Mem.head _)) (InA.mem (fun _ hp => List.Mem.tail _ (hp)))) (Nat.le_refl _)), dj1, H⟩
    · replace H := H.2 (b1)
      refine WC.skip (WX.then_normal ?_)
      refine WC.seq ?_
      refine WC.region ?_
      refine WL.y rfl (Yld.pure tab_ok rfl) ?_
      refine WL.y rfl (Yld.pure tab_ok rfl) ?_
      refine WL.y rfl (Yld.pure tab_ok rfl) ?_
      refine WL.y rfl (Yld.bload tab_ok hB1 rfl rfl rfl) ?_
      refine WL.y rfl (Yld.pure tab_ok rfl) ?_
      obtain ⟨h1, H⟩ := H
      refine WL.y rfl (Yld.plook (keyF_s Tryd.underlying9) Tryd.underlying122 (fun _ => by kernel_rfl) hM1 rfl rfl h1) ?_
      obtain ⟨h2, H⟩ := H
      refine WL.y rfl (Yld.pchk hM1 h2 rfl) ?_
      refine WL.y rfl (Yld.pfa tab_ok hM1 h2 rfl rfl rfl) ?_
      refine WL.y rfl (Yld.pld (z := ([], false, [], false, [])) (v := vs (((mget d_ p).getD ([], false, [], false, [])).1)) tab_ok hM1 h2 rfl rfl rfl rfl) ?_
      refine WL.y rfl (Yld.pure tab_ok rfl) ?_
      refine WL.y rfl (Yld.pure tab_ok rfl) ?_
      refine WL.y rfl (Yld.pure tab_ok rfl) ?_
      refine WL.nil (WX.then_normal ?_)
      refine WC.ret ?_
      exact WX.ret3 rfl rfl rfl rfl ⟨gr1, ((mget d_ p).getD ([], false, [], false, [])).1, true, .nilIface, Er.ok, hs_d_, d_, d_2, d_3, d_4, rfl, (ErrR.okR (S := S) (w := w1)), hB1, hM1, (InA.trans hi1 (apC (InP.mem (List.Mem.head _)) (InA.mem (fun _ hp => List.Mem.tail _ (hp)))) (Nat.le_refl _)), dj1, H⟩
  · clear hJ1
    rcases Bool.eq_false_or_eq_true (!decide (err = Er.ok)) with b2 | b2
    · replace H := H.1 b2
      refine WL.gno rfl rfl (okb b2) rfl ?_
      refine WL.gno rfl rfl (okb b2) rfl ?_
      refine WL.gno rfl rfl (okb b2) rfl ?_
      refine WL.gno rfl rfl (okb b2) rfl ?_
      refine WL.y rfl (Yld.pickT (okb b2) rfl) ?_
      exact WL.weaken (by repeat (first | exact Sub.nil | refine Sub.cons rfl ?_)) (hQ _ _ ⟨true, rfl, H, rfl⟩)
    · replace H := H.2 b2
      refine WL.gyes rfl rfl (okb b2) rfl (Yld.pure tab_ok rfl) ?_
      refine WL.gyes rfl rfl (okb b2) rfl (Yld.pure tab_ok rfl) ?_
      refine WL.callw (wants_some rfl rfl (okb b2)) rfl rfl (W_pdisk_Disk_there hM1 hB1 H) ?_
      rintro _ _ ⟨rfl, t15, rfl, H⟩
      refine WL.gyes rfl rfl (okb b2) rfl (Yld.pure tab_ok rfl) ?_
      refine WL.y rfl (Yld.pickF (okb b2) rfl) ?_
      exact WL.weaken (by repeat (first | exact Sub.nil | refine Sub.cons rfl ?_)) (hQ _ _ ⟨!t15, rfl, H, rfl⟩)

set_option maxHeartbeats 8000000 in
theorem W_pdisk_Disk_paths {w : World} {g_d : Nat} {g_d_files : Nat} {hs_d_files : List (List UInt8 × PH)} {d_files : List (List UInt8 × List UInt8 × Bool × List UInt8 × Bool × List (Int × List UInt8))} {d_ops : Int} {d_left : Int} {d_down : Bool} {K : (List (List UInt8)) → Prop} (hd_files : PoolO pe128 w g_d_files hs_d_files d_files none) (hd : Bl w g_d 124 [.map (some g_d_files), .int .i64 d_ops, .int .i64 d_left, .bool d_down]) (H : M_pdisk_Disk_paths d_files d_ops d_left d_down K) : Fn Tryd.prog 77 ⟨[.pointer (some ⟨g_d, 0, none⟩)]⟩ w (fun v w' => w.grownBy w' none ∧ ∃ (r : List (List UInt8)), ∃ (A_r : Option Addr), ∃ (c_r : Nat), v = .slice A_r r.length c_r ∧ Own vs w' w.heap.size 9 A_r c_r r ∧ K r) := by
  unfold M_pdisk_Disk_paths at H
  refine Fn.enter (by kernel_rfl) Tryd.func77 rfl Tryd.ntmps77 rfl ?_
  refine WC.seq ?_
  refine WC.region ?_
  refine WL.y rfl (Yld.pure tab_ok rfl) ?_
  refine WL.nil (WX.then_normal ?_)
  refine WC.seq ?_
  refine WC.region ?_
  refine WL.y rfl (Yld.pure tab_ok rfl) ?_
  refine WL.nil (WX.then_normal ?_)
  refine WC.seq ?_
  refine WC.seq ?_
  refine WC.region ?_
  refine WL.y rfl (Yld.pure tab_ok rfl) ?_
  refine WL.y rfl (Yld.pure tab_ok rfl) ?_
  refine WL.y rfl (Yld.pure tab_ok rfl) ?_
  refine WL.y rfl (Yld.bload tab_ok hd rfl rfl rfl) ?_
  refine WL.putw wants_none rfl (Eff.rangeP hd_files Tryd.underlying122 rfl) ?_
  rintro _ w1 ⟨rfl, k1, hg1⟩
  have gr1 := hg1
  refine WL.nil (WX.then_normal ?_)
  refine WC.block ?_
  obtain ⟨I1, mu1, h0_1, HR1⟩ := H
  refine WC.loopF (fun n' L' w' => ∃ (l : List (List UInt8)), ∃ (A_l : Option Addr), ∃ (c_l : Nat), ∃ (n_l : Nat), ∃ (left : List (List UInt8)), n' = mu1 l left ∧ L' = [(3, .slice A_l n_l c_l), (10, .pointer (some ⟨w.heap.size, 0, none⟩))] ∧ I1 l left ∧ n_l = l.length ∧ w.grownBy w' none ∧ RngP w' g_d_files w.heap.size hs_d_files left ∧ Own vs w' w.heap.size 9 A_l c_l l ∧ Dj (some w.heap.size) (blk A_l)) _ _ ⟨[], none, 0, 0, d_files.map (·.1), rfl, rfl, h0_1, rfl, gr1, k1, (Own.nil vs w1 w.heap.size 9), Dj.nr⟩ (by repeat (first | exact Sub.nil | refine Sub.cons rfl ?_)) ?_
  clear h0_1
  rintro _ _ w2 ⟨l, A_l, c_l, n_l, left, rfl, rfl, hI1, rfl, gr2, k2, k3, dj1⟩
  have H := HR1 l left hI1
  refine WC.seq ?_
  refine WC.region ?_
  refine WL.putw wants_none rfl (Eff.nextP k2 (hd_files.g0 gr2).uq rfl) ?_
  rintro _ w3 (⟨hks1, rfl, k4, hg2⟩ | ⟨ix, key, hq1, rfl, hsm1, k4, hg2, hE1⟩)
  · replace H := H.1 hks1
    have gr3 := gr_trans gr2 hg2
    have k5 := k3.grown hg2
    refine WL.y rfl (Yld.pure tab_ok rfl) ?_
    refine WL.nil (WX.then_normal ?_)
    refine WC.seq ?_
    refine WC.cond rfl (fun h => by cases h) (fun _ => ?_)
    refine WC.exit (WX.then_exit (WX.then_exit (WX.block_same (WX.then_normal ?_))))
    refine WC.seq ?_
    refine WC.region ?_
    refine WL.y rfl (Yld.pure tab_ok rfl) ?_
    refine WL.call rfl rfl (W_slices_Sort_string_string k5 rfl H) ?_
    rintro _ w4 ⟨ys, rfl, hO1, hg3, hl2, H⟩
    have gr4 := gr_mod gr3 hg3 k5.ge'
    refine WL.nil (WX.then_normal ?_)
    refine WC.seq ?_
    refine WC.region ?_
    refine WL.y rfl (Yld.pure tab_ok rfl) ?_
    refine WL.y rfl (Yld.pure tab_ok rfl) ?_
    refine WL.nil (WX.then_normal ?_)
    refine WC.ret ?_
    exact WX.ret1 rfl rfl ⟨gr4, ys, A_l, c_l, (by rw [((rfl : l.length = l.length).trans hl2.symm)]), hO1, H⟩
  · replace H := H.2 ix key hq1
    have gr5 := gr_mod gr2 hg2 (Ge.le (Ge.box (Nat.le_refl _)) (Nat.le_refl _))
    have k6 := k3.go hg2 dj1.symm
    refine WL.y rfl (Yld.pure tab_ok rfl) ?_
    refine WL.nil (WX.then_normal ?_)
    refine WC.seq ?_
    refine WC.cond rfl (fun _ => ?_) (fun h => by cases h)
    refine WC.skip (WX.then_normal ?_)
    refine WC.block ?_
    refine WC.seq ?_
    refine WC.region ?_
    refine WL.y rfl (Yld.entry hE1 rfl) ?_
    refine WL.y rfl (Yld.pure tab_ok rfl) ?_
    refine WL.y rfl (Yld.pure tab_ok rfl) ?_
    refine WL.y rfl (Yld.pure tab_ok rfl) ?_
    refine WL.y rfl (Yld.pure tab_ok rfl) ?_
    refine WL.nil (WX.then_normal ?_)
    refine WC.seq ?_
    refine WC.region ?_
    refine WL.y rfl (Yld.pure tab_ok rfl) ?_
    obtain ⟨h1, H⟩ := H
    refine WL.y rfl (Yld.pchk (hd_files.g0 gr5) h1 rfl) ?_
    refine WL.y rfl (Yld.pfa tab_ok (hd_files.g0 gr5) h1 rfl rfl rfl) ?_
    refine WL.y rfl (Yld.pld (z := ([], false, [], false, [])) (v := .bool (((mget d_files key).getD ([], false, [], false, [])).2.1)) tab_ok (hd_files.g0 gr5) h1 rfl rfl rfl rfl) ?_
    refine WL.nil (WX.then_normal ?_)
    refine WC.cond rfl (fun b1 => ?_) (fun b1 => ?_)
    · replace H := H.1 (b1)
      refine WC.region ?_
      refine WL.y rfl (Yld.pure tab_ok rfl) ?_
      refine WL.y rfl (Yld.pure tab_ok rfl) ?_
      refine WL.lit tab_ok rfl rfl rfl (all1c rfl all1n) rfl (by omega) (fun g1 w5 hB1 hg4 hl3 => ?_)
      have hO2 : Own vs w5 w.heap.size 9 (some ⟨g1, 0, none⟩) 1 ([key] : List (List UInt8)) := Own.ofBl hB1 (Nat.le_trans (size_le gr5) hl3) (by simp [maxLen]) rfl
      have gr6 := gr_trans gr5 hg4
      have k7 := k4.g0 hg4
      have k8 := k6.grown hg4
      obtain ⟨h2, H⟩ := H
      refine WL.append tab_ok rfl rfl One.s k8 rfl rfl hO2.rd rfl rfl h2 (applen h2) (size_le gr6) (fun A_l2 c_l2 w6 hO3 hg5 hk1 => ?_)
      have gr7 := gr_mod gr6 hg5 k8.ge'
      have k9 := k7.go hg5 dj1 (apH (hd_files.inp (InP.ge k8.ge') apN)).symm
      refine WL.y rfl (Yld.pure tab_ok rfl) ?_
      refine WL.nil (WX.block_normal ?_)
      exact WX.roundF _ ⟨l ++ ([key] : List (List UInt8)), A_l2, c_l2, (l ++ ([key] : List (List UInt8))).length, left.eraseIdx ix, rfl, rfl, H.1, rfl, gr7, k9, hO3, (Dj.app dj1.symm k7.lt' hk1).symm⟩ (by repeat (first | exact Sub.nil | refine Sub.cons rfl ?_)) H.2
    · replace H := H.2 (b1)
      refine WC.skip (WX.block_normal ?_)
      exact WX.roundF _ ⟨l, A_l, c_l, l.length, left.eraseIdx ix, rfl, rfl, H.1, rfl, gr5, k4, k6, dj1⟩ (by repeat (first | exact Sub.nil | refine Sub.cons rfl ?_)) H.2

set_option maxHeartbeats 8000000 in
theorem W_pdisk_Disk_count {w : World} {g_d : Nat} {g_d_files : Nat} {hs_d_files : List (List UInt8 × PH)} {d_files : List (List UInt8 × List UInt8 × Bool × List UInt8 × Bool × List (Int × List UInt8))} {d_ops : Int} {d_left : Int} {d_down : Bool} {K : Int → Prop} (hd_files : PoolO pe128 w g_d_files hs_d_files d_files none) (hd : Bl w g_d 124 [.map (some g_d_files), .int .i64 d_ops, .int .i64 d_left, .bool d_down]) (H : M_pdisk_Disk_count d_files d_ops d_left d_down K) : Fn Tryd.prog 112 ⟨[.pointer (some ⟨g_d, 0, none⟩)]⟩ w (fun v w' => w.grownBy w' none ∧ ∃ (r : Int), v = .int .i64 r ∧ K r) := by
  unfold M_pdisk_Disk_count at H
  refine Fn.enter (by kernel_rfl) Tryd.func112 rfl Tryd.ntmps112 rfl ?_
  refine WC.seq ?_
  refine WC.region ?_
  refine WL.y rfl (Yld.pure tab_ok rfl) ?_
  refine WL.nil (WX.then_normal ?_)
  refine WC.seq ?_
  refine WC.region ?_
  refine WL.y rfl (Yld.pure tab_ok rfl) ?_
  refine WL.call rfl rfl (W_pdisk_Disk_paths hd_files hd H) ?_
  rintro _ w1 ⟨hg1, t4, A_t4, c_t4, rfl, ht4, H⟩
  have hb1 := ht4.ge'
  have k1 := ht4.base (fun g hg => Nat.le_trans (Nat.le_refl _) (hb1 g hg))
  have gr1 := hg1
  refine WL.y rfl (Yld.pure tab_ok rfl) ?_
  refine WL.y rfl (Yld.pure tab_ok rfl) ?_
  refine WL.nil (WX.then_normal ?_)
  refine WC.ret ?_
  exact WX.ret1 rfl rfl ⟨gr1, (t4.length : Int), rfl, H⟩

set_option maxHeartbeats 8000000 in
theorem W_pdisk_Disk_put {S : List Nat} {B : Nat} {w : World} {g_d : Nat} {g_d_files : Nat} {hs_d_files : List (List UInt8 × PH)} {d_files : List (List UInt8 × List UInt8 × Bool × List UInt8 × Bool × List (Int × List UInt8))} {d_ops : Int} {d_left : Int} {d_down : Bool} {p : List UInt8} {text : List UInt8} {c_kind : Int} {c_text : List UInt8} {K : Er → (List (List UInt8 × List UInt8 × Bool × List UInt8 × Bool × List (Int × List UInt8))) → Int → Int → Bool → Prop} (hG : GB S B w) (hB : B ≤ w.heap.size) (hP : AllP (fun p => Ge p B) ((some g_d) :: (FP g_d_files hs_d_files none))) (hS9 : 9 ∈ S) (hS11 : 11 ∈ S) (hS15 : 15 ∈ S) (hS100 : 100 ∈ S) (hd_files : PoolO pe128 w g_d_files hs_d_files d_files none) (hd : Bl w g_d 124 [.map (some g_d_files), .int .i64 d_ops, .int .i64 d_left, .bool d_down]) (hdj0_1 : AllP (Dj (some g_d)) (FP g_d_files hs_d_files none)) (H : M_pdisk_Disk_put d_files d_ops d_left d_down p text c_kind c_text K) : Fn Tryd.prog 76 ⟨[.pointer (some ⟨g_d, 0, none⟩), vs p, vs text, .agg ⟨[.int .i64 c_kind, vs c_text]⟩]⟩ w (fun v w' => GrL ((some g_d) :: (FP g_d_files hs_d_files none)) w w' ∧ ∃ (v_r : Value), ∃ (r : Er), ∃ (hs_d_files2 : List (List UInt8 × PH)), ∃ (d_files2 : List (List UInt8 × List UInt8 × Bool × List UInt8 × Bool × List (Int × List UInt8))), ∃ (d_ops2 : Int), ∃ (d_left2 : Int), ∃ (d_down2 : Bool), v = v_r ∧ ErrR S w' v_r r ∧ Bl w' g_d 124 [.map (some g_d_files), .int .i64 d_ops2, .int .i64 d_left2, .bool d_down2] ∧ PoolO pe128 w' g_d_files hs_d_files2 d_files2 none ∧ AllP (InP ((some g_d) :: (FP g_d_files hs_d_files none)) w.heap.size) (FP g_d_files hs_d_files2 none) ∧ AllP (Dj (some g_d)) (FP g_d_files hs_d_files2 none) ∧ K r d_files2 d_ops2 d_left2 d_down2) := by
  unfold M_pdisk_Disk_put at H
  refine Fn.enter (by kernel_rfl) Tryd.func76 rfl Tryd.ntmps76 rfl ?_
  have hNoAt : AllP (NoAt w) ((some g_d) :: (FP g_d_files hs_d_files none)) := (apC (NoAt.bl hd rfl) hd_files.noats)
  refine WC.seq ?_
  refine WC.region ?_
  refine WL.box (us := [.int .i64 c_kind, vs c_text]) rfl rfl rfl (fun g1 w1 hB1 hg1 hl1 => ?_)
  have gr1 := (GrL.of0 (ps := ((some g_d) :: (FP g_d_files hs_d_files none))) hg1)
  have k1 := hd_files.g0 hg1
  have k2 := hd.g0 hg1
  refine WL.y rfl (Yld.pure tab_ok rfl) ?_
  refine WL.nil (WX.then_normal ?_)
  refine WC.seq ?_
  refine WC.seq ?_
  refine WC.region ?_
  refine WL.y rfl (Yld.pure tab_ok rfl) ?_
  refine WL.call rfl rfl (W_pdisk_Disk_call (hG.goL gr1 hP) (Nat.le_trans hB (GrL.sizeL gr1)) (apC (InP.toGe (InP.mem (List.Mem.head _)) hP hB) (InA.toGe (InA.mem (fun _ hp => List.Mem.tail _ (hp))) hP hB)) hS15 k1 k2 hdj0_1 H) ?_
  rintro v_err w2 ⟨hgl1, _, err, hs_d_, d_, d_2, d_3, d_4, rfl, herr, hB2, hM1, hi1, dj1, H⟩
  have gr2 : GrL ((some g_d) :: (FP g_d_files hs_d_files none)) w w2 := GrL.modL gr1 hgl1 (apC (InP.mem (List.Mem.head _)) (InA.mem (fun _ hp => List.Mem.tail _ (hp))))
  have k3 := hB1.goL hgl1 (apC (Dj.new hd.lt' (Ge.box hl1)).symm (hd_files.new (Ge.box hl1)))
  refine WL.y rfl (Yld.pure tab_ok rfl) ?_
  refine WL.nil (WX.then_normal ?_)
  refine WC.seq ?_
  refine WC.region ?_
  refine WL.y rfl (Yld.pure tab_ok rfl) ?_
  refine WL.y rfl (Yld.errneq Tryd.underlying29 herr rfl) ?_
  refine WL.nil (WX.then_normal ?_)
  refine WC.cond rfl (fun b1 => ?_) (fun b1 => ?_)
  · replace H := H.1 (nd_true b1)
    refine WC.seq ?_
    refine WC.region ?_
    refine WL.y rfl (Yld.pure tab_ok rfl) ?_
    refine WL.y rfl (Yld.pure tab_ok rfl) ?_
    refine WL.nil (WX.then_normal ?_)
    refine WC.ret (WX.then_ret ?_)
    exact WX.ret1 rfl rfl ⟨gr2, v_err, err, hs_d_, d_, d_2, d_3, d_4, rfl, herr, hB2, hM1, (InA.trans hi1 (apC (InP.mem (List.Mem.head _)) (InA.mem (fun _ hp => List.Mem.tail _ (hp)))) (GrL.sizeL gr1)), dj1, H⟩
  · replace H := H.2 (nd_false b1)
    refine WC.skip (WX.then_normal ?_)
    refine WC.seq ?_
    obtain ⟨J1, H, hJ1⟩ := H
    refine WC.midF (fun L' w' => ∃ (text2 : List UInt8), L' = [(0, .pointer (some ⟨g_d, 0, none⟩)), (1, vs p), (2, vs text2), (7, .pointer (some ⟨g1, 0, none⟩))] ∧ J1 text2 ∧ w2 = w') ?_ (fun hQ => ?_)
    · clear H
      rintro _ _ ⟨text2, rfl, H, rfl⟩
      replace H := hJ1 text2 H
      refine WX.then_normal ?_
      refine WC.seq ?_
      refine WC.block ?_
      refine WC.seq ?_
      refine WC.region ?_
      refine WL.y rfl (Yld.pure tab_ok rfl) ?_
      refine WL.call rfl rfl (W_path_Valid (hG.goL gr2 hP).ok hS100 H) ?_
      rintro _ w3 ⟨hg2, t37, rfl, H⟩
      have gr3 := GrL.add0 gr2 hg2
      have k4 := hM1.g0 hg2
      have k5 := hB2.g0 hg2
      have k6 := k3.g0 hg2
      refine WL.y rfl (Yld.pure tab_ok rfl) ?_
      refine WL.y rfl (Yld.pure tab_ok rfl) ?_
      refine WL.midF 4 (fun L' w' => ∃ q1 : Bool, L' = [(43, .bool q1), (0, .pointer (some ⟨g_d, 0, none⟩)), (1, vs p), (2, vs text2), (7, .pointer (some ⟨g1, 0, none⟩))] ∧ ((!t37) || (decide ((65536 : Int) < (text2.length : Int)))) = q1 ∧ w3 = w') ?_ (fun hQ => ?_)
      · rintro _ _ ⟨q1, rfl, rfl, rfl⟩
        refine WL.y rfl (Yld.pure tab_ok rfl) ?_
        refine WL.nil (WX.then_normal ?_)
        refine WC.cond rfl (fun b2 => ?_) (fun b2 => ?_)
        · replace H := H.1 (b2)
          refine WC.seq ?_
          refine WC.region ?_
          obtain ⟨vE1, _, hE1⟩ := GOK.get (hG.goL gr3 hP).ok 11 0 hS11 rfl rfl
          refine WL.y rfl (Yld.cell tab_ok (ErrR.cell hE1 rfl) rfl rfl) ?_
          refine WL.y rfl (Yld.pure tab_ok rfl) ?_
          refine WL.nil (WX.then_normal ?_)
          refine WC.ret (WX.block_ret (WX.then_ret ?_))
          exact WX.ret1 rfl rfl ⟨gr3, vE1, (Er.e 11), hs_d_, d_, d_2, d_3, d_4, rfl, hE1, k5, k4, (InA.trans hi1 (apC (InP.mem (List.Mem.head _)) (InA.mem (fun _ hp => List.Mem.tail _ (hp)))) (GrL.sizeL gr1)), dj1, H⟩
        · replace H := H.2 (b2)
          refine WC.seq ?_
          refine WC.region ?_
          refine WL.y rfl (Yld.pure tab_ok rfl) ?_
          refine WL.y rfl (Yld.pure tab_ok rfl) ?_
          refine WL.call rfl rfl (W_pdisk_Disk_there k4 k5 H) ?_
          rintro _ _ ⟨rfl, t48, rfl, H⟩
          refine WL.y rfl (Yld.pure tab_ok rfl) ?_
          refine WL.y rfl (Yld.pure tab_ok rfl) ?_
          obtain ⟨J2, H, hJ2⟩ := H
          refine WL.midF 4 (fun L' w' => ∃ q2 : Bool, L' = [(54, .bool q2), (0, .pointer (some ⟨g_d, 0, none⟩)), (1, vs p), (2, vs text2), (7, .pointer (some ⟨g1, 0, none⟩))] ∧ J2 q2 ∧ GrL ((some g_d) :: (FP g_d_files hs_d_files none)) w w' ∧ PoolO pe128 w' g_d_files hs_d_ d_ none ∧ Bl w' g_d 124 [.map (some g_d_files), .int .i64 d_2, .int .i64 d_3, .bool d_4] ∧ Bl w' g1 136 [.int .i64 c_kind, vs c_text]) ?_ (fun hQ => ?_)
          · clear H
            rintro _ w4 ⟨q2, rfl, H, gr4, k7, k8, k9⟩
            replace H := hJ2 q2 H
            refine WL.y rfl (Yld.pure tab_ok rfl) ?_
            refine WL.nil (WX.then_normal ?_)
            refine WC.cond rfl (fun b3 => ?_) (fun b3 => ?_)
            · replace H := H.1 (b3)
              refine WC.seq ?_
              refine WC.region ?_
              obtain ⟨vE2, _, hE2⟩ := GOK.get (hG.goL gr4 hP).ok 9 1 hS9 rfl rfl
              refine WL.y rfl (Yld.cell tab_ok (ErrR.cell hE2 rfl) rfl rfl) ?_
              refine WL.y rfl (Yld.pure tab_ok rfl) ?_
              refine WL.nil (WX.then_normal ?_)
              refine WC.ret (WX.block_ret (WX.then_ret ?_))
              exact WX.ret1 rfl rfl ⟨gr4, vE2, (Er.e 9), hs_d_, d_, d_2, d_3, d_4, rfl, hE2, k8, k7, (InA.trans hi1 (apC (InP.mem (List.Mem.head _)) (InA.mem (fun _ hp => List.Mem.tail _ (hp)))) (GrL.sizeL gr1)), dj1, H⟩
            · replace H := H.2 (b3)
              refine WC.skip (WX.block_normal (WX.then_normal ?_))
              refine WC.seq ?_
              refine WC.region ?_
              refine WL.y rfl (Yld.pure tab_ok rfl) ?_
              refine WL.y rfl (Yld.pure tab_ok rfl) ?_
              refine WL.call rfl rfl (W_pdisk_Disk_known k7 k8 dj1 H) ?_
              rintro _ w5 ⟨hgl2, hs_d_2, d_5, d_6, d_7, d_8, rfl, hB3, hM2, hi2, dj2, H⟩
              have gr5 : GrL ((some g_d) :: (FP g_d_files hs_d_files none)) w w5 := GrL.modL gr4 hgl2 (apC (InP.mem (List.Mem.head _)) (InA.trans hi1 (apC (InP.mem (List.Mem.head _)) (InA.mem (fun _ hp => List.Mem.tail _ (hp)))) (GrL.sizeL gr1)))
              have k10 := k9.goL hgl2 (apC (Dj.new hd.lt' (Ge.box hl1)).symm (InA.dj hi1 hB1.lt' (apC (Dj.new hd.lt' (Ge.box hl1)).symm (hd_files.new (Ge.box hl1)))))
              refine WL.y rfl (Yld.pure tab_ok rfl) ?_
              refine WL.nil (WX.then_normal ?_)
              refine WC.seq ?_
              refine WC.region ?_
              refine WL.y rfl (Yld.pure tab_ok rfl) ?_
              refine WL.y rfl (Yld.pure tab_ok rfl) ?_
              refine WL.y rfl (Yld.pure tab_ok rfl) ?_
              obtain ⟨h1, H⟩ := H
              refine WL.y rfl (Yld.pchk hM2 h1 rfl) ?_
              refine WL.y rfl (Yld.pfa tab_ok hM2 h1 rfl rfl rfl) ?_
              have hx1 : mget d_5 p = some ((mget d_5 p).getD ([], false, [], false, [])) := getD_some h1
              obtain ⟨b_pl, r1, hm1, hr1, k11, dj4, dj5⟩ := PoolO.open hM2 hx1
              obtain ⟨A_pl, c_pl, r1e, hB4, hO1, dj3⟩ := hr1
              subst r1e
              simp only [pq_some hm1, pqo_some hm1]
              refine WL.store1 one9 rfl rfl rfl hB4 (by simp) (fun w6 hB6 hg3 => ?_)
              have hB5 : Bl w6 b_pl 128 [vs text2, .bool (((mget d_5 p).getD ([], false, [], false, [])).2.1), vs (((mget d_5 p).getD ([], false, [], false, [])).2.2.1), .bool (((mget d_5 p).getD ([], false, [], false, [])).2.2.2.1), .slice A_pl ((((mget d_5 p).getD ([], false, [], false, [])).2.2.2.2).length) c_pl] := hB6
              have gr6 : GrL ((some g_d) :: (FP g_d_files hs_d_files none)) w w6 := GrL.mod gr5 hg3 (PoolO.at1 hM2 hm1 (InA.trans hi2 (apC (InP.mem (List.Mem.head _)) (InA.trans hi1 (apC (InP.mem (List.Mem.head _)) (InA.mem (fun _ hp => List.Mem.tail _ (hp)))) (GrL.sizeL gr1))) (GrL.sizeL gr4)))
              have k12 := k11.go hg3 dj4
              have k13 := hB3.go hg3 (PoolO.at1 hM2 hm1 dj2)
              have k14 := k10.go hg3 (PoolO.at1 hM2 hm1 (InA.dj hi2 k9.lt' (apC (Dj.new hd.lt' (Ge.box hl1)).symm (InA.dj hi1 hB1.lt' (apC (Dj.new hd.lt' (Ge.box hl1)).symm (hd_files.new (Ge.box hl1)))))))
              have k15 := hO1.go hg3 dj3.symm
              refine WL.y rfl (Yld.pure tab_ok rfl) ?_
              refine WL.y rfl (Yld.pure tab_ok rfl) ?_
              refine WL.store1 one4 rfl rfl rfl hB5 (by simp) (fun w7 hB8 hg4 => ?_)
              have hB7 : Bl w7 b_pl 128 [vs text2, .bool true, vs (((mget d_5 p).getD ([], false, [], false, [])).2.2.1), .bool (((mget d_5 p).getD ([], false, [], false, [])).2.2.2.1), .slice A_pl ((((mget d_5 p).getD ([], false, [], false, [])).2.2.2.2).length) c_pl] := hB8
              have gr7 : GrL ((some g_d) :: (FP g_d_files hs_d_files none)) w w7 := GrL.mod gr6 hg4 (PoolO.at1 hM2 hm1 (InA.trans hi2 (apC (InP.mem (List.Mem.head _)) (InA.trans hi1 (apC (InP.mem (List.Mem.head _)) (InA.mem (fun _ hp => List.Mem.tail _ (hp)))) (GrL.sizeL gr1))) (GrL.sizeL gr4)))
              have k16 := k12.go hg4 dj4
              have k17 := k13.go hg4 (PoolO.at1 hM2 hm1 dj2)
              have k18 := k14.go hg4 (PoolO.at1 hM2 hm1 (InA.dj hi2 k9.lt' (apC (Dj.new hd.lt' (Ge.box hl1)).symm (InA.dj hi1 hB1.lt' (apC (Dj.new hd.lt' (Ge.box hl1)).symm (hd_files.new (Ge.box hl1)))))))
              have k19 := k15.go hg4 dj3.symm
              refine WL.nil (WX.then_normal ?_)
              refine WC.seq ?_
              refine WC.chainF (fun k => !(Nat.beq k 6 || Nat.beq k 7 || Nat.beq k 10)) (LD [4, 5] (fun w' => Bl w' b_pl 128 [vs text2, .bool true, vs (((mget d_5 p).getD ([], false, [], false, [])).2.2.1), .bool (((mget d_5 p).getD ([], false, [], false, [])).2.2.2.1), .slice A_pl ((((mget d_5 p).getD ([], false, [], false, [])).2.2.2.2).length) c_pl] ∧ Bl w' g1 136 [.int .i64 c_kind, vs c_text])) mixed (by kernel_rfl) (fun k w' h _ => ⟨(bl_eqv h hB7), (bl_eqv h k18)⟩) ?_
              refine WJ.y rfl rfl (fun w' hw' => Yld.pure tab_ok rfl) ?_
              refine WJ.y rfl rfl (fun w' hw' => Yld.pure tab_ok rfl) ?_
              refine WJ.y rfl rfl (fun w' hw' => Yld.pure tab_ok rfl) ?_
              refine WJ.y rfl rfl (fun w' hw' => Yld.pure tab_ok rfl) ?_
              refine WJ.y rfl rfl (fun w' hw' => Yld.bload tab_ok (hw' rfl).1 rfl rfl rfl) ?_
              refine WJ.y rfl rfl (fun w' hw' => Yld.bagg (vs := [.int .i64 c_kind, vs c_text]) tab_ok (hw' rfl).2 rfl rfl rfl rfl) ?_
              refine WJ.putw rfl (wants_none) rfl (Eff.litK (f := enc136) (xs := ([(c_kind, c_text)] : List (Int × List UInt8))) enc136_ok ow126 rfl rfl rfl) (fun v w' ⟨_, _, h⟩ => DD.keep (⟨(Bl.g0 hB7 (gr_eqv h (Eqv.refl _))), (Bl.g0 k18 (gr_eqv h (Eqv.refl _)))⟩)) ?_
              rintro _ w8 ⟨rfl, hB9, hg5⟩
              obtain ⟨g_t72, hl2⟩ : ∃ g, g = w7.heap.size := ⟨_, rfl⟩
              rw [← hl2] at hB9
              rw [← hl2]
              have hO2 : OwnK 2 enc136 w8 w.heap.size 136 (some ⟨g_t72, 0, none⟩) 1 ([(c_kind, c_text)] : List (Int × List UInt8)) := OwnK.ofBl enc136_ok hB9 (Nat.le_trans (GrL.sizeL gr7) (Nat.le_of_eq hl2.symm)) (by simp [maxLen]) rfl
              have gr8 := GrL.add0 gr7 hg5
              have k20 := k16.g0 hg5
              have k21 := k17.g0 hg5
              have k22 := k18.g0 hg5
              have k23 := k19.grown hg5
              have k24 := hB7.g0 hg5
              obtain ⟨h2, H⟩ := H
              refine WJ.putw rfl (wants_none) rfl (Eff.appendK ow126 k23 rfl rfl hO2.rd rfl rfl h2 (applen h2) (Nat.zero_le _)) (fun v w' ⟨_, _, _, _, h, _⟩ => DD.keep (⟨(Bl.go k24 (gr_eqv h (Eqv.refl _)) dj3), (Bl.go k22 (gr_eqv h (Eqv.refl _)) (PoolO.at2 hM2 hm1 (InA.dj hi2 k9.lt' (apC (Dj.new hd.lt' (Ge.box hl1)).symm (InA.dj hi1 hB1.lt' (apC (Dj.new hd.lt' (Ge.box hl1)).symm (hd_files.new (Ge.box hl1))))))))⟩)) ?_
              rintro _ w9 ⟨A_t73, c_t73, rfl, hO3, hg6, hk1⟩
              have gr9 : GrL ((some g_d) :: (FP g_d_files hs_d_files none)) w w9 := GrL.mod gr8 hg6 (PoolO.at2 hM2 hm1 (InA.trans hi2 (apC (InP.mem (List.Mem.head _)) (InA.trans hi1 (apC (InP.mem (List.Mem.head _)) (InA.mem (fun _ hp => List.Mem.tail _ (hp)))) (GrL.sizeL gr1))) (GrL.sizeL gr4)))
              have k25 := k20.go hg6 dj5
              have k26 := k21.go hg6 (PoolO.at2 hM2 hm1 dj2)
              have k27 := k22.go hg6 (PoolO.at2 hM2 hm1 (InA.dj hi2 k9.lt' (apC (Dj.new hd.lt' (Ge.box hl1)).symm (InA.dj hi1 hB1.lt' (apC (Dj.new hd.lt' (Ge.box hl1)).symm (hd_files.new (Ge.box hl1)))))))
              have k28 := k24.go hg6 dj3
              refine WJ.y rfl rfl (fun w' hw' => Yld.pure tab_ok rfl) ?_
              refine WJ.y rfl rfl (fun w' hw' => Yld.pure tab_ok rfl) ?_
              refine WJ.eff rfl (Ef0.store1 one126 rfl rfl rfl k28 (by simp)) (fun w' h => DD.past (by kernel_rfl)) ?_
              rintro w10 ⟨hB11, hg7⟩
              have hB10 : Bl w10 b_pl 128 [vs text2, .bool true, vs (((mget d_5 p).getD ([], false, [], false, [])).2.2.1), .bool (((mget d_5 p).getD ([], false, [], false, [])).2.2.2.1), .slice A_t73 (((((mget d_5 p).getD ([], false, [], false, [])).2.2.2.2) ++ ([(c_kind, c_text)] : List (Int × List UInt8))).length) c_t73] := hB11
              have gr10 : GrL ((some g_d) :: (FP g_d_files hs_d_files none)) w w10 := GrL.mod gr9 hg7 (PoolO.at1 hM2 hm1 (InA.trans hi2 (apC (InP.mem (List.Mem.head _)) (InA.trans hi1 (apC (InP.mem (List.Mem.head _)) (InA.mem (fun _ hp => List.Mem.tail _ (hp)))) (GrL.sizeL gr1))) (GrL.sizeL gr4)))
              have k29 := k25.go hg7 dj4
              have k30 := k26.go hg7 (PoolO.at1 hM2 hm1 dj2)
              have k31 := k27.go hg7 (PoolO.at1 hM2 hm1 (InA.dj hi2 k9.lt' (apC (Dj.new hd.lt' (Ge.box hl1)).symm (InA.dj hi1 hB1.lt' (apC (Dj.new hd.lt' (Ge.box hl1)).symm (hd_files.new (Ge.box hl1)))))))
              have k32 := hO3.go hg7 (Dj.app dj3.symm k24.lt' hk1)
              refine WJ.nil (WX.then_normal ?_)
              refine WC.seq ?_
              refine WC.region ?_
              refine WL.y rfl (Yld.pure tab_ok rfl) ?_
              refine WL.nil (WX.then_normal ?_)
              refine WC.ret ?_
              have hr2 : pe128.rel w10 (b_pl, blk A_t73) (text2, true, ((mget d_5 p).getD ([], false, [], false, [])).2.2.1, ((mget d_5 p).getD ([], false, [], false, [])).2.2.2.1, (((mget d_5 p).getD ([], false, [], false, [])).2.2.2.2) ++ ([(c_kind, c_text)] : List (Int × List UInt8))) := ⟨_, _, rfl, hB10, k32, (Dj.app dj3.symm k24.lt' hk1).symm⟩
              have k33 := PoolO.close k29 hm1 hr2 dj4 (PoolO.app k20 dj5 hk1)
              exact WX.ret1 rfl rfl ⟨gr10, .nilIface, Er.ok, mput hs_d_2 p (b_pl, blk A_t73), mput d_5 p (text2, true, ((mget d_5 p).getD ([], false, [], false, [])).2.2.1, ((mget d_5 p).getD ([], false, [], false, [])).2.2.2.1, (((mget d_5 p).getD ([], false, [], false, [])).2.2.2.2) ++ ([(c_kind, c_text)] : List (Int × List UInt8))), d_6, d_7, d_8, rfl, (ErrR.okR (S := S) (w := w10)), k30, k33, (PoolO.closeA k29 (PoolO.sub hM2 (InA.trans hi2 (apC (InP.mem (List.Mem.head _)) (InA.trans hi1 (apC (InP.mem (List.Mem.head _)) (InA.mem (fun _ hp => List.Mem.tail _ (hp)))) (GrL.sizeL gr1))) (GrL.sizeL gr4))) (PoolO.at1 hM2 hm1 (InA.trans hi2 (apC (InP.mem (List.Mem.head _)) (InA.trans hi1 (apC (InP.mem (List.Mem.head _)) (InA.mem (fun _ hp => List.Mem.tail _ (hp)))) (GrL.sizeL gr1))) (GrL.sizeL gr4))) (InP.app (PoolO.at2 hM2 hm1 (InA.trans hi2 (apC (InP.mem (List.Mem.head _)) (InA.trans hi1 (apC (InP.mem (List.Mem.head _)) (InA.mem (fun _ hp => List.Mem.tail _ (hp)))) (GrL.sizeL gr1))) (GrL.sizeL gr4))) hk1 (GrL.sizeL gr8))), (PoolO.closeA k29 (PoolO.sub hM2 dj2) (PoolO.at1 hM2 hm1 dj2) (Dj.app (PoolO.at2 hM2 hm1 dj2).symm k21.lt' hk1).symm), H⟩
          · clear hJ2
            rcases Bool.eq_false_or_eq_true (!t48) with b4 | b4
            · replace H := H.1 b4
              refine WL.gyes rfl rfl (okb b4) rfl (Yld.pure tab_ok rfl) ?_
              refine WL.callw (wants_some rfl rfl (okb b4)) rfl rfl (W_pdisk_Disk_count k4 k5 H) ?_
              rintro _ w11 ⟨hg8, t52, rfl, H⟩
              have gr11 := GrL.add0 gr3 hg8
              have k34 := k4.g0 hg8
              have k35 := k5.g0 hg8
              have k36 := k6.g0 hg8
              refine WL.gyes rfl rfl (okb b4) rfl (Yld.pure tab_ok rfl) ?_
              refine WL.y rfl (Yld.pickT (okb b4) rfl) ?_
              exact WL.weaken (by repeat (first | exact Sub.nil | refine Sub.cons rfl ?_)) (hQ _ _ ⟨decide ((2000 : Int) ≤ t52), rfl, H, gr11, k34, k35, k36⟩)
            · replace H := H.2 b4
              refine WL.gno rfl rfl (okb b4) rfl ?_
              refine WL.gno rfl rfl (okb b4) rfl ?_
              refine WL.gno rfl rfl (okb b4) rfl ?_
              refine WL.y rfl (Yld.pickF (okb b4) rfl) ?_
              exact WL.weaken (by repeat (first | exact Sub.nil | refine Sub.cons rfl ?_)) (hQ _ _ ⟨false, rfl, H, gr3, k4, k5, k6⟩)
      · clear H
        rcases Bool.eq_false_or_eq_true (!t37) with b5 | b5
        · refine WL.gno rfl rfl (okb b5) rfl ?_
          refine WL.gno rfl rfl (okb b5) rfl ?_
          refine WL.gno rfl rfl (okb b5) rfl ?_
          refine WL.y rfl (Yld.pickT (okb b5) rfl) ?_
          exact WL.weaken (by repeat (first | exact Sub.nil | refine Sub.cons rfl ?_)) (hQ _ _ ⟨true, rfl, by rw [b5] <;> rfl, rfl⟩)
        · refine WL.gyes rfl rfl (okb b5) rfl (Yld.pure tab_ok rfl) ?_
          refine WL.gyes rfl rfl (okb b5) rfl (Yld.pure tab_ok rfl) ?_
          refine WL.gyes rfl rfl (okb b5) rfl (Yld.pure tab_ok rfl) ?_
          refine WL.y rfl (Yld.pickF (okb b5) rfl) ?_
          exact WL.weaken (by repeat (first | exact Sub.nil | refine Sub.cons rfl ?_)) (hQ _ _ ⟨decide ((65536 : Int) < (text2.length : Int)), rfl, by rw [b5] <;> rfl, rfl⟩)
    · clear hJ1
      refine WC.seq ?_
      refine WC.region ?_
      refine WL.y rfl (Yld.pure tab_ok rfl) ?_
      refine WL.y rfl (Yld.bload tab_ok k3 rfl rfl rfl) ?_
      refine WL.y rfl (Yld.pure tab_ok rfl) ?_
      refine WL.y rfl (Yld.pure tab_ok rfl) ?_
      obtain ⟨J3, H, hJ3⟩ := H
      refine WL.midF 4 (fun L' w' => ∃ q3 : Bool, L' = [(23, .bool q3), (0, .pointer (some ⟨g_d, 0, none⟩)), (1, vs p), (2, vs text), (7, .pointer (some ⟨g1, 0, none⟩))] ∧ J3 q3 ∧ w2 = w') ?_ (fun hQ => ?_)
      · clear H
        rintro _ _ ⟨q3, rfl, H, rfl⟩
        replace H := hJ3 q3 H
        refine WL.nil (WX.then_normal ?_)
        refine WC.cond rfl (fun b6 => ?_) (fun b6 => ?_)
        · replace H := H.1 (b6)
          refine WC.region ?_
          refine WL.y rfl (Yld.pure tab_ok rfl) ?_
          refine WL.y rfl (Yld.pure tab_ok rfl) ?_
          refine WL.y rfl (Yld.pure tab_ok rfl) ?_
          refine WL.y rfl (Yld.bload tab_ok hB2 rfl rfl rfl) ?_
          refine WL.y rfl (Yld.pure tab_ok rfl) ?_
          obtain ⟨h3, H⟩ := H
          refine WL.y rfl (Yld.plook (keyF_s Tryd.underlying9) Tryd.underlying122 (fun _ => by kernel_rfl) hM1 rfl rfl h3) ?_
          obtain ⟨h4, H⟩ := H
          refine WL.y rfl (Yld.pchk hM1 h4 rfl) ?_
          refine WL.y rfl (Yld.pfa tab_ok hM1 h4 rfl rfl rfl) ?_
          refine WL.y rfl (Yld.pld (z := ([], false, [], false, [])) (v := vs (((mget d_ p).getD ([], false, [], false, [])).1)) tab_ok hM1 h4 rfl rfl rfl rfl) ?_
          refine WL.y rfl (Yld.pure tab_ok rfl) ?_
          obtain ⟨h5, H⟩ := H
          refine WL.y rfl (Yld.sadd rfl rfl h5) ?_
          refine WL.y rfl (Yld.pure tab_ok rfl) ?_
          refine WL.nil ?_
          exact WX.weaken (by repeat (first | exact Sub.nil | refine Sub.cons rfl ?_)) (hQ _ _ ⟨(((mget d_ p).getD ([], false, [], false, [])).1) ++ text, rfl, H, rfl⟩)
        · replace H := H.2 (b6)
          refine WC.skip ?_
          exact WX.weaken (by repeat (first | exact Sub.nil | refine Sub.cons rfl ?_)) (hQ _ _ ⟨text, rfl, H, rfl⟩)
      · clear hJ3
        rcases Bool.eq_false_or_eq_true (decide (c_kind = (1 : Int))) with b7 | b7
        · replace H := H.1 b7
          refine WL.gyes rfl rfl (okb b7) rfl (Yld.pure tab_ok rfl) ?_
          refine WL.gyes rfl rfl (okb b7) rfl (Yld.pure tab_ok rfl) ?_
          refine WL.callw (wants_some rfl rfl (okb b7)) rfl rfl (W_pdisk_Disk_there hM1 hB2 H) ?_
          rintro _ _ ⟨rfl, t22, rfl, H⟩
          refine WL.y rfl (Yld.pickT (okb b7) rfl) ?_
          exact WL.weaken (by repeat (first | exact Sub.nil | refine Sub.cons rfl ?_)) (hQ _ _ ⟨t22, rfl, H, rfl⟩)
        · replace H := H.2 b7
          refine WL.gno rfl rfl (okb b7) rfl ?_
          refine WL.gno rfl rfl (okb b7) rfl ?_
          refine WL.gno rfl rfl (okb b7) rfl ?_
          refine WL.y rfl (Yld.pickF (okb b7) rfl) ?_
          exact WL.weaken (by repeat (first | exact Sub.nil | refine Sub.cons rfl ?_)) (hQ _ _ ⟨false, rfl, H, rfl⟩)

set_option maxHeartbeats 8000000 in
theorem W_pdisk_Disk_Write {S : List Nat} {B : Nat} {w : World} {g_d : Nat} {g_d_files : Nat} {hs_d_files : List (List UInt8 × PH)} {d_files : List (List UInt8 × List UInt8 × Bool × List UInt8 × Bool × List (Int × List UInt8))} {d_ops : Int} {d_left : Int} {d_down : Bool} {p : List UInt8} {text : List UInt8} {K : Er → (List (List UInt8 × List UInt8 × Bool × List UInt8 × Bool × List (Int × List UInt8))) → Int → Int → Bool → Prop} (hG : GB S B w) (hB : B ≤ w.heap.size) (hP : AllP (fun p => Ge p B) ((some g_d) :: (FP g_d_files hs_d_files none))) (hS9 : 9 ∈ S) (hS11 : 11 ∈ S) (hS15 : 15 ∈ S) (hS100 : 100 ∈ S) (hd_files : PoolO pe128 w g_d_files hs_d_files d_files none) (hd : Bl w g_d 124 [.map (some g_d_files), .int .i64 d_ops, .int .i64 d_left, .bool d_down]) (hdj0_1 : AllP (Dj (some g_d)) (FP g_d_files hs_d_files none)) (H : M_pdisk_Disk_Write d_files d_ops d_left d_down p text K) : Fn Tryd.prog 28 ⟨[.pointer (some ⟨g_d, 0, none⟩), vs p, vs text]⟩ w (fun v w' => GrL ((some g_d) :: (FP g_d_files hs_d_files none)) w w' ∧ ∃ (v_r : Value), ∃ (r : Er), ∃ (hs_d_files2 : List (List UInt8 × PH)), ∃ (d_files2 : List (List UInt8 × List UInt8 × Bool × List UInt8 × Bool × List (Int × List UInt8))), ∃ (d_ops2 : Int), ∃ (d_left2 : Int), ∃ (d_down2 : Bool), v = v_r ∧ ErrR S w' v_r r ∧ Bl w' g_d 124 [.map (some g_d_files), .int .i64 d_ops2, .int .i64 d_left2, .bool d_down2] ∧ PoolO pe128 w' g_d_files hs_d_files2 d_files2 none ∧ AllP (InP ((some g_d) :: (FP g_d_files hs_d_files none)) w.heap.size) (FP g_d_files hs_d_files2 none) ∧ AllP (Dj (some g_d)) (FP g_d_files hs_d_files2 none) ∧ K r d_files2 d_ops2 d_left2 d_down2) := by
  unfold M_pdisk_Disk_Write at H
  refine Fn.enter (by kernel_rfl) Tryd.func28 rfl Tryd.ntmps28 rfl ?_
  have hNoAt : AllP (NoAt w) ((some g_d) :: (FP g_d_files hs_d_files none)) := (apC (NoAt.bl hd rfl) hd_files.noats)
  refine WC.seq ?_
  refine WC.region ?_
  refine WL.y rfl (Yld.pure tab_ok rfl) ?_
  refine WL.nil (WX.then_normal ?_)
  refine WC.seq ?_
  refine WC.region ?_
  refine WL.y rfl (Yld.pure tab_ok rfl) ?_
  refine WL.y rfl (Yld.pure tab_ok rfl) ?_
  refine WL.y rfl (Yld.pure tab_ok rfl) ?_
  refine WL.y rfl (Yld.pure tab_ok rfl) ?_
  refine WL.y rfl (Yld.struct (us := [.int .i64 (0 : Int), vs text]) zero136 places136 rfl rfl) ?_
  refine WL.call rfl rfl (W_pdisk_Disk_put hG (Nat.le_trans hB (Nat.le_refl _)) (apC (InP.toGe (InP.mem (List.Mem.head _)) hP hB) (InA.toGe (InA.mem (fun _ hp => List.Mem.tail _ (hp))) hP hB)) hS9 hS11 hS15 hS100 hd_files hd hdj0_1 H) ?_
  rintro v_t6 w1 ⟨hgl1, _, t6, hs_d_, d_, d_2, d_3, d_4, rfl, ht6, hB1, hM1, hi1, dj1, H⟩
  have gr1 : GrL ((some g_d) :: (FP g_d_files hs_d_files none)) w w1 := GrL.modL (GrL.refl _) hgl1 (apC (InP.mem (List.Mem.head _)) (InA.mem (fun _ hp => List.Mem.tail _ (hp))))
  refine WL.y rfl (Yld.pure tab_ok rfl) ?_
  refine WL.nil (WX.then_normal ?_)
  refine WC.ret ?_
  exact WX.ret1 rfl rfl ⟨gr1, v_t6, t6, hs_d_, d_, d_2, d_3, d_4, rfl, ht6, hB1, hM1, (InA.trans hi1 (apC (InP.mem (List.Mem.head _)) (InA.mem (fun _ hp => List.Mem.tail _ (hp)))) (Nat.le_refl _)), dj1, H⟩

set_option maxHeartbeats 8000000 in
theorem W_pdisk_Disk_Append {S : List Nat} {B : Nat} {w : World} {g_d : Nat} {g_d_files : Nat} {hs_d_files : List (List UInt8 × PH)} {d_files : List (List UInt8 × List UInt8 × Bool × List UInt8 × Bool × List (Int × List UInt8))} {d_ops : Int} {d_left : Int} {d_down : Bool} {p : List UInt8} {text : List UInt8} {K : Er → (List (List UInt8 × List UInt8 × Bool × List UInt8 × Bool × List (Int × List UInt8))) → Int → Int → Bool → Prop} (hG : GB S B w) (hB : B ≤ w.heap.size) (hP : AllP (fun p => Ge p B) ((some g_d) :: (FP g_d_files hs_d_files none))) (hS9 : 9 ∈ S) (hS11 : 11 ∈ S) (hS15 : 15 ∈ S) (hS100 : 100 ∈ S) (hd_files : PoolO pe128 w g_d_files hs_d_files d_files none) (hd : Bl w g_d 124 [.map (some g_d_files), .int .i64 d_ops, .int .i64 d_left, .bool d_down]) (hdj0_1 : AllP (Dj (some g_d)) (FP g_d_files hs_d_files none)) (H : M_pdisk_Disk_Append d_files d_ops d_left d_down p text K) : Fn Tryd.prog 29 ⟨[.pointer (some ⟨g_d, 0, none⟩), vs p, vs text]⟩ w (fun v w' => GrL ((some g_d) :: (FP g_d_files hs_d_files none)) w w' ∧ ∃ (v_r : Value), ∃ (r : Er), ∃ (hs_d_files2 : List (List UInt8 × PH)), ∃ (d_files2 : List (List UInt8 × List UInt8 × Bool × List UInt8 × Bool × List (Int × List UInt8))), ∃ (d_ops2 : Int), ∃ (d_left2 : Int), ∃ (d_down2 : Bool), v = v_r ∧ ErrR S w' v_r r ∧ Bl w' g_d 124 [.map (some g_d_files), .int .i64 d_ops2, .int .i64 d_left2, .bool d_down2] ∧ PoolO pe128 w' g_d_files hs_d_files2 d_files2 none ∧ AllP (InP ((some g_d) :: (FP g_d_files hs_d_files none)) w.heap.size) (FP g_d_files hs_d_files2 none) ∧ AllP (Dj (some g_d)) (FP g_d_files hs_d_files2 none) ∧ K r d_files2 d_ops2 d_left2 d_down2) := by
  unfold M_pdisk_Disk_Append at H
  refine Fn.enter (by kernel_rfl) Tryd.func29 rfl Tryd.ntmps29 rfl ?_
  have hNoAt : AllP (NoAt w) ((some g_d) :: (FP g_d_files hs_d_files none)) := (apC (NoAt.bl hd rfl) hd_files.noats)
  refine WC.seq ?_
  refine WC.region ?_
  refine WL.y rfl (Yld.pure tab_ok rfl) ?_
  refine WL.nil (WX.then_normal ?_)
  refine WC.seq ?_
  refine WC.region ?_
  refine WL.y rfl (Yld.pure tab_ok rfl) ?_
  refine WL.y rfl (Yld.pure tab_ok rfl) ?_
  refine WL.y rfl (Yld.pure tab_ok rfl) ?_
  refine WL.y rfl (Yld.pure tab_ok rfl) ?_
  refine WL.y rfl (Yld.struct (us := [.int .i64 (1 : Int), vs text]) zero136 places136 rfl rfl) ?_
  refine WL.call rfl rfl (W_pdisk_Disk_put hG (Nat.le_trans hB (Nat.le_refl _)) (apC (InP.toGe (InP.mem (List.Mem.head _)) hP hB) (InA.toGe (InA.mem (fun _ hp => List.Mem.tail _ (hp))) hP hB)) hS9 hS11 hS15 hS100 hd_files hd hdj0_1 H) ?_
  rintro v_t6 w1 ⟨hgl1, _, t6, hs_d_, d_, d_2, d_3, d_4, rfl, ht6, hB1, hM1, hi1, dj1, H⟩
  have gr1 : GrL ((some g_d) :: (FP g_d_files hs_d_files none)) w w1 := GrL.modL (GrL.refl _) hgl1 (apC (InP.mem (List.Mem.head _)) (InA.mem (fun _ hp => List.Mem.tail _ (hp))))
  refine WL.y rfl (Yld.pure tab_ok rfl) ?_
  refine WL.nil (WX.then_normal ?_)
  refine WC.ret ?_
  exact WX.ret1 rfl rfl ⟨gr1, v_t6, t6, hs_d_, d_, d_2, d_3, d_4, rfl, ht6, hB1, hM1, (InA.trans hi1 (apC (InP.mem (List.Mem.head _)) (InA.mem (fun _ hp => List.Mem.tail _ (hp)))) (Nat.le_refl _)), dj1, H⟩

set_option maxHeartbeats 8000000 in
theorem W_pdisk_Disk_Remove {S : List Nat} {B : Nat} {w : World} {g_d : Nat} {g_d_files : Nat} {hs_d_files : List (List UInt8 × PH)} {d_files : List (List UInt8 × List UInt8 × Bool × List UInt8 × Bool × List (Int × List UInt8))} {d_ops : Int} {d_left : Int} {d_down : Bool} {p : List UInt8} {K : Er → (List (List UInt8 × List UInt8 × Bool × List UInt8 × Bool × List (Int × List UInt8))) → Int → Int → Bool → Prop} (hG : GB S B w) (hB : B ≤ w.heap.size) (hP : AllP (fun p => Ge p B) ((some g_d) :: (FP g_d_files hs_d_files none))) (hS11 : 11 ∈ S) (hS15 : 15 ∈ S) (hS100 : 100 ∈ S) (hd_files : PoolO pe128 w g_d_files hs_d_files d_files none) (hd : Bl w g_d 124 [.map (some g_d_files), .int .i64 d_ops, .int .i64 d_left, .bool d_down]) (hdj0_1 : AllP (Dj (some g_d)) (FP g_d_files hs_d_files none)) (H : M_pdisk_Disk_Remove d_files d_ops d_left d_down p K) : Fn Tryd.prog 30 ⟨[.pointer (some ⟨g_d, 0, none⟩), vs p]⟩ w (fun v w' => GrL ((some g_d) :: (FP g_d_files hs_d_files none)) w w' ∧ ∃ (v_r : Value), ∃ (r : Er), ∃ (hs_d_files2 : List (List UInt8 × PH)), ∃ (d_files2 : List (List UInt8 × List UInt8 × Bool × List UInt8 × Bool × List (Int × List UInt8))), ∃ (d_ops2 : Int), ∃ (d_left2 : Int), ∃ (d_down2 : Bool), v = v_r ∧ ErrR S w' v_r r ∧ Bl w' g_d 124 [.map (some g_d_files), .int .i64 d_ops2, .int .i64 d_left2, .bool d_down2] ∧ PoolO pe128 w' g_d_files hs_d_files2 d_files2 none ∧ AllP (InP ((some g_d) :: (FP g_d_files hs_d_files none)) w.heap.size) (FP g_d_files hs_d_files2 none) ∧ AllP (Dj (some g_d)) (FP g_d_files hs_d_files2 none) ∧ K r d_files2 d_ops2 d_left2 d_down2) := by
  unfold M_pdisk_Disk_Remove at H
  refine Fn.enter (by kernel_rfl) Tryd.func30 rfl Tryd.ntmps30 rfl ?_
  have hNoAt : AllP (NoAt w) ((some g_d) :: (FP g_d_files hs_d_files none)) := (apC (NoAt.bl hd rfl) hd_files.noats)
  refine WC.seq ?_
  refine WC.region ?_
  refine WL.y rfl (Yld.pure tab_ok rfl) ?_
  refine WL.nil (WX.then_normal ?_)
  refine WC.seq ?_
  refine WC.seq ?_
  refine WC.region ?_
  refine WL.y rfl (Yld.pure tab_ok rfl) ?_
  refine WL.call rfl rfl (W_pdisk_Disk_call hG (Nat.le_trans hB (Nat.le_refl _)) (apC (InP.toGe (InP.mem (List.Mem.head _)) hP hB) (InA.toGe (InA.mem (fun _ hp => List.Mem.tail _ (hp))) hP hB)) hS15 hd_files hd hdj0_1 H) ?_
  rintro v_err w1 ⟨hgl1, _, err, hs_d_, d_, d_2, d_3, d_4, rfl, herr, hB1, hM1, hi1, dj1, H⟩
  have gr1 : GrL ((some g_d) :: (FP g_d_files hs_d_files none)) w w1 := GrL.modL (GrL.refl _) hgl1 (apC (InP.mem (List.Mem.head _)) (InA.mem (fun _ hp => List.Mem.tail _ (hp))))
  refine WL.y rfl (Yld.pure tab_ok rfl) ?_
  refine WL.nil (WX.then_normal ?_)
  refine WC.seq ?_
  refine WC.region ?_
  refine WL.y rfl (Yld.pure tab_ok rfl) ?_
  refine WL.y rfl (Yld.errneq Tryd.underlying29 herr rfl) ?_
  refine WL.nil (WX.then_normal ?_)
  refine WC.cond rfl (fun b1 => ?_) (fun b1 => ?_)
  · replace H := H.1 (nd_true b1)
    refine WC.seq ?_
    refine WC.region ?_
    refine WL.y rfl (Yld.pure tab_ok rfl) ?_
    refine WL.y rfl (Yld.pure tab_ok rfl) ?_
    refine WL.nil (WX.then_normal ?_)
    refine WC.ret (WX.then_ret ?_)
    exact WX.ret1 rfl rfl ⟨gr1, v_err, err, hs_d_, d_, d_2, d_3, d_4, rfl, herr, hB1, hM1, (InA.trans hi1 (apC (InP.mem (List.Mem.head _)) (InA.mem (fun _ hp => List.Mem.tail _ (hp)))) (Nat.le_refl _)), dj1, H⟩
  · replace H := H.2 (nd_false b1)
    refine WC.skip (WX.then_normal ?_)
    refine WC.seq ?_
    refine WC.seq ?_
    refine WC.region ?_
    refine WL.y rfl (Yld.pure tab_ok rfl) ?_
    refine WL.call rfl rfl (W_path_Valid (hG.goL gr1 hP).ok hS100 H) ?_
    rintro _ w2 ⟨hg1, t13, rfl, H⟩
    have gr2 := GrL.add0 gr1 hg1
    have k1 := hM1.g0 hg1
    have k2 := hB1.g0 hg1
    refine WL.y rfl (Yld.pure tab_ok rfl) ?_
    refine WL.nil (WX.then_normal ?_)
    refine WC.cond rfl (fun b2 => ?_) (fun b2 => ?_)
    · replace H := H.1 (b2)
      refine WC.seq ?_
      refine WC.region ?_
      obtain ⟨vE1, _, hE1⟩ := GOK.get (hG.goL gr2 hP).ok 11 0 hS11 rfl rfl
      refine WL.y rfl (Yld.cell tab_ok (ErrR.cell hE1 rfl) rfl rfl) ?_
      refine WL.y rfl (Yld.pure tab_ok rfl) ?_
      refine WL.nil (WX.then_normal ?_)
      refine WC.ret (WX.then_ret ?_)
      exact WX.ret1 rfl rfl ⟨gr2, vE1, (Er.e 11), hs_d_, d_, d_2, d_3, d_4, rfl, hE1, k2, k1, (InA.trans hi1 (apC (InP.mem (List.Mem.head _)) (InA.mem (fun _ hp => List.Mem.tail _ (hp)))) (Nat.le_refl _)), dj1, H⟩
    · replace H := H.2 (b2)
      refine WC.skip (WX.then_normal ?_)
      refine WC.seq ?_
      obtain ⟨J1, H, hJ1⟩ := H
      refine WC.midF (fun L' w' => ∃ (d0 : List (List UInt8 × List UInt8 × Bool × List UInt8 × Bool × List (Int × List UInt8))), ∃ (hs_d0 : List (List UInt8 × PH)), L' = [] ∧ J1 d0 ∧ GrL ((some g_d) :: (FP g_d_files hs_d_files none)) w w' ∧ Bl w' g_d 124 [.map (some g_d_files), .int .i64 d_2, .int .i64 d_3, .bool d_4] ∧ PoolO pe128 w' g_d_files hs_d0 d0 none ∧ AllP (Dj (some g_d)) (FP g_d_files hs_d0 none) ∧ AllP (InP ((some g_d) :: (FP g_d_files hs_d_files none)) w.heap.size) (FP g_d_files hs_d0 none)) ?_ (fun hQ => ?_)
      · clear H
        rintro _ w3 ⟨d0, hs_d0, rfl, H, gr3, k3, k4, dj2, hi2⟩
        replace H := hJ1 d0 H
        refine WX.then_normal ?_
        refine WC.seq ?_
        refine WC.region ?_
        refine WL.y rfl (Yld.pure tab_ok rfl) ?_
        refine WL.nil (WX.then_normal ?_)
        refine WC.ret ?_
        exact WX.ret1 rfl rfl ⟨gr3, .nilIface, Er.ok, hs_d0, d0, d_2, d_3, d_4, rfl, (ErrR.okR (S := S) (w := w3)), k3, k4, hi2, dj2, H⟩
      · clear hJ1
        refine WC.seq ?_
        refine WC.region ?_
        refine WL.y rfl (Yld.pure tab_ok rfl) ?_
        refine WL.y rfl (Yld.pure tab_ok rfl) ?_
        refine WL.call rfl rfl (W_pdisk_Disk_there k1 k2 H) ?_
        rintro _ _ ⟨rfl, t18, rfl, H⟩
        refine WL.nil (WX.then_normal ?_)
        refine WC.cond rfl (fun b3 => ?_) (fun b3 => ?_)
        · replace H := H.1 (b3)
          refine WC.seq ?_
          refine WC.region ?_
          refine WL.y rfl (Yld.pure tab_ok rfl) ?_
          refine WL.y rfl (Yld.pure tab_ok rfl) ?_
          refine WL.y rfl (Yld.pure tab_ok rfl) ?_
          refine WL.y rfl (Yld.bload tab_ok k2 rfl rfl rfl) ?_
          refine WL.y rfl (Yld.pure tab_ok rfl) ?_
          obtain ⟨h1, H⟩ := H
          refine WL.y rfl (Yld.plook (keyF_s Tryd.underlying9) Tryd.underlying122 (fun _ => by kernel_rfl) k1 rfl rfl h1) ?_
          refine WL.y rfl (Yld.pure tab_ok rfl) ?_
          refine WL.nil (WX.then_normal ?_)
          refine WC.seq ?_
          refine WC.region ?_
          refine WL.y rfl (Yld.pure tab_ok rfl) ?_
          refine WL.y rfl (Yld.pure tab_ok rfl) ?_
          obtain ⟨h2, H⟩ := H
          refine WL.y rfl (Yld.pchk k1 h2 rfl) ?_
          refine WL.y rfl (Yld.pfa tab_ok k1 h2 rfl rfl rfl) ?_
          have hx1 : mget d_ p = some ((mget d_ p).getD ([], false, [], false, [])) := getD_some h2
          obtain ⟨b_pl, r1, hm1, hr1, k5, dj4, dj5⟩ := PoolO.open k1 hx1
          obtain ⟨A_pl, c_pl, r1e, hB2, hO1, dj3⟩ := hr1
          subst r1e
          simp only [pq_some hm1, pqo_some hm1]
          refine WL.store1 one9 rfl rfl rfl hB2 (by simp) (fun w4 hB4 hg2 => ?_)
          have hB3 : Bl w4 b_pl 128 [vs ([] : List UInt8), .bool (((mget d_ p).getD ([], false, [], false, [])).2.1), vs (((mget d_ p).getD ([], false, [], false, [])).2.2.1), .bool (((mget d_ p).getD ([], false, [], false, [])).2.2.2.1), .slice A_pl ((((mget d_ p).getD ([], false, [], false, [])).2.2.2.2).length) c_pl] := hB4
          have gr4 : GrL ((some g_d) :: (FP g_d_files hs_d_files none)) w w4 := GrL.mod gr2 hg2 (PoolO.at1 k1 hm1 (InA.trans hi1 (apC (InP.mem (List.Mem.head _)) (InA.mem (fun _ hp => List.Mem.tail _ (hp)))) (Nat.le_refl _)))
          have k6 := k5.go hg2 dj4
          have k7 := k2.go hg2 (PoolO.at1 k1 hm1 dj1)
          have k8 := hO1.go hg2 dj3.symm
          refine WL.y rfl (Yld.pure tab_ok rfl) ?_
          refine WL.y rfl (Yld.pure tab_ok rfl) ?_
          refine WL.store1 one4 rfl rfl rfl hB3 (by simp) (fun w5 hB6 hg3 => ?_)
          have hB5 : Bl w5 b_pl 128 [vs ([] : List UInt8), .bool false, vs (((mget d_ p).getD ([], false, [], false, [])).2.2.1), .bool (((mget d_ p).getD ([], false, [], false, [])).2.2.2.1), .slice A_pl ((((mget d_ p).getD ([], false, [], false, [])).2.2.2.2).length) c_pl] := hB6
          have gr5 : GrL ((some g_d) :: (FP g_d_files hs_d_files none)) w w5 := GrL.mod gr4 hg3 (PoolO.at1 k1 hm1 (InA.trans hi1 (apC (InP.mem (List.Mem.head _)) (InA.mem (fun _ hp => List.Mem.tail _ (hp)))) (Nat.le_refl _)))
          have k9 := k6.go hg3 dj4
          have k10 := k7.go hg3 (PoolO.at1 k1 hm1 dj1)
          have k11 := k8.go hg3 dj3.symm
          refine WL.nil (WX.then_normal ?_)
          refine WC.region ?_
          refine WL.y rfl (Yld.pure tab_ok rfl) ?_
          refine WL.y rfl (Yld.pure tab_ok rfl) ?_
          refine WL.y rfl (Yld.pure tab_ok rfl) ?_
          refine WL.y rfl (Yld.pure tab_ok rfl) ?_
          refine WL.y rfl (Yld.bload tab_ok hB5 rfl rfl rfl) ?_
          refine WL.y rfl (Yld.struct (us := [.int .i64 (2 : Int), vs ([] : List UInt8)]) zero136 places136 rfl rfl) ?_
          refine WL.litK (f := enc136) ([((2 : Int), ([] : List UInt8))] : List (Int × List UInt8)) enc136_ok rfl ow126 rfl rfl rfl (fun g1 w6 hB7 hg4 hl1 => ?_)
          have hO2 : OwnK 2 enc136 w6 w.heap.size 136 (some ⟨g1, 0, none⟩) 1 ([((2 : Int), ([] : List UInt8))] : List (Int × List UInt8)) := OwnK.ofBl enc136_ok hB7 (Nat.le_trans (GrL.sizeL gr5) hl1) (by simp [maxLen]) rfl
          have gr6 := GrL.add0 gr5 hg4
          have k12 := k9.g0 hg4
          have k13 := k10.g0 hg4
          have k14 := k11.grown hg4
          have k15 := hB5.g0 hg4
          obtain ⟨h3, H⟩ := H
          refine WL.appendK rfl ow126 k14 rfl rfl hO2.rd rfl rfl h3 (applen h3) (Nat.zero_le _) (fun A_t38 c_t38 w7 hO3 hg5 hk1 => ?_)
          have gr7 : GrL ((some g_d) :: (FP g_d_files hs_d_files none)) w w7 := GrL.mod gr6 hg5 (PoolO.at2 k1 hm1 (InA.trans hi1 (apC (InP.mem (List.Mem.head _)) (InA.mem (fun _ hp => List.Mem.tail _ (hp)))) (Nat.le_refl _)))
          have k16 := k12.go hg5 dj5
          have k17 := k13.go hg5 (PoolO.at2 k1 hm1 dj1)
          have k18 := k15.go hg5 dj3
          refine WL.y rfl (Yld.pure tab_ok rfl) ?_
          refine WL.y rfl (Yld.pure tab_ok rfl) ?_
          refine WL.store1 one126 rfl rfl rfl k18 (by simp) (fun w8 hB9 hg6 => ?_)
          have hB8 : Bl w8 b_pl 128 [vs ([] : List UInt8), .bool false, vs (((mget d_ p).getD ([], false, [], false, [])).2.2.1), .bool (((mget d_ p).getD ([], false, [], false, [])).2.2.2.1), .slice A_t38 (((((mget d_ p).getD ([], false, [], false, [])).2.2.2.2) ++ ([((2 : Int), ([] : List UInt8))] : List (Int × List UInt8))).length) c_t38] := hB9
          have gr8 : GrL ((some g_d) :: (FP g_d_files hs_d_files none)) w w8 := GrL.mod gr7 hg6 (PoolO.at1 k1 hm1 (InA.trans hi1 (apC (InP.mem (List.Mem.head _)) (InA.mem (fun _ hp => List.Mem.tail _ (hp)))) (Nat.le_refl _)))
          have k19 := k16.go hg6 dj4
          have k20 := k17.go hg6 (PoolO.at1 k1 hm1 dj1)
          have k21 := hO3.go hg6 (Dj.app dj3.symm k15.lt' hk1)
          refine WL.nil ?_
          have hr2 : pe128.rel w8 (b_pl, blk A_t38) (([] : List UInt8), false, ((mget d_ p).getD ([], false, [], false, [])).2.2.1, ((mget d_ p).getD ([], false, [], false, [])).2.2.2.1, (((mget d_ p).getD ([], false, [], false, [])).2.2.2.2) ++ ([((2 : Int), ([] : List UInt8))] : List (Int × List UInt8))) := ⟨_, _, rfl, hB8, k21, (Dj.app dj3.symm k15.lt' hk1).symm⟩
          have k22 := PoolO.close k19 hm1 hr2 dj4 (PoolO.app k12 dj5 hk1)
          exact WX.weaken (by repeat (first | exact Sub.nil | refine Sub.cons rfl ?_)) (hQ _ _ ⟨mput d_ p (([] : List UInt8), false, ((mget d_ p).getD ([], false, [], false, [])).2.2.1, ((mget d_ p).getD ([], false, [], false, [])).2.2.2.1, (((mget d_ p).getD ([], false, [], false, [])).2.2.2.2) ++ ([((2 : Int), ([] : List UInt8))] : List (Int × List UInt8))), mput hs_d_ p (b_pl, blk A_t38), rfl, H, gr8, k20, k22, (PoolO.closeA k19 (PoolO.sub k1 dj1) (PoolO.at1 k1 hm1 dj1) (Dj.app (PoolO.at2 k1 hm1 dj1).symm k13.lt' hk1).symm), (PoolO.closeA k19 (PoolO.sub k1 (InA.trans hi1 (apC (InP.mem (List.Mem.head _)) (InA.mem (fun _ hp => List.Mem.tail _ (hp)))) (Nat.le_refl _))) (PoolO.at1 k1 hm1 (InA.trans hi1 (apC (InP.mem (List.Mem.head _)) (InA.mem (fun _ hp => List.Mem.tail _ (hp)))) (Nat.le_refl _))) (InP.app (PoolO.at2 k1 hm1 (InA.trans hi1 (apC (InP.mem (List.Mem.head _)) (InA.mem (fun _ hp => List.Mem.tail _ (hp)))) (Nat.le_refl _))) hk1 (GrL.sizeL gr6)))⟩)
        · replace H := H.2 (b3)
          refine WC.skip ?_
          exact WX.weaken (by repeat (first | exact Sub.nil | refine Sub.cons rfl ?_)) (hQ _ _ ⟨d_, hs_d_, rfl, H, gr2, k2, k1, dj1, (InA.trans hi1 (apC (InP.mem (List.Mem.head _)) (InA.mem (fun _ hp => List.Mem.tail _ (hp)))) (Nat.le_refl _))⟩)

set_option maxHeartbeats 8000000 in
theorem W_pdisk_Disk_Sync {S : List Nat} {B : Nat} {w : World} {g_d : Nat} {g_d_files : Nat} {hs_d_files : List (List UInt8 × PH)} {d_files : List (List UInt8 × List UInt8 × Bool × List UInt8 × Bool × List (Int × List UInt8))} {d_ops : Int} {d_left : Int} {d_down : Bool} {p : List UInt8} {K : Er → (List (List UInt8 × List UInt8 × Bool × List UInt8 × Bool × List (Int × List UInt8))) → Int → Int → Bool → Prop} (hG : GB S B w) (hB : B ≤ w.heap.size) (hP : AllP (fun p => Ge p B) ((some g_d) :: (FP g_d_files hs_d_files none))) (hS11 : 11 ∈ S) (hS15 : 15 ∈ S) (hS100 : 100 ∈ S) (hd_files : PoolO pe128 w g_d_files hs_d_files d_files none) (hd : Bl w g_d 124 [.map (some g_d_files), .int .i64 d_ops, .int .i64 d_left, .bool d_down]) (hdj0_1 : AllP (Dj (some g_d)) (FP g_d_files hs_d_files none)) (H : M_pdisk_Disk_Sync d_files d_ops d_left d_down p K) : Fn Tryd.prog 31 ⟨[.pointer (some ⟨g_d, 0, none⟩), vs p]⟩ w (fun v w' => GrL ((some g_d) :: (FP g_d_files hs_d_files none)) w w' ∧ ∃ (v_r : Value), ∃ (r : Er), ∃ (hs_d_files2 : List (List UInt8 × PH)), ∃ (d_files2 : List (List UInt8 × List UInt8 × Bool × List UInt8 × Bool × List (Int × List UInt8))), ∃ (d_ops2 : Int), ∃ (d_left2 : Int), ∃ (d_down2 : Bool), v = v_r ∧ ErrR S w' v_r r ∧ Bl w' g_d 124 [.map (some g_d_files), .int .i64 d_ops2, .int .i64 d_left2, .bool d_down2] ∧ PoolO pe128 w' g_d_files hs_d_files2 d_files2 none ∧ AllP (InP ((some g_d) :: (FP g_d_files hs_d_files none)) w.heap.size) (FP g_d_files hs_d_files2 none) ∧ AllP (Dj (some g_d)) (FP g_d_files hs_d_files2 none) ∧ K r d_files2 d_ops2 d_left2 d_down2) := by
  unfold M_pdisk_Disk_Sync at H
  refine Fn.enter (by kernel_rfl) Tryd.func31 rfl Tryd.ntmps31 rfl ?_
  have hNoAt : AllP (NoAt w) ((some g_d) :: (FP g_d_files hs_d_files none)) := (apC (NoAt.bl hd rfl) hd_files.noats)
  refine WC.seq ?_
  refine WC.region ?_
  refine WL.y rfl (Yld.pure tab_ok rfl) ?_
  refine WL.nil (WX.then_normal ?_)
  refine WC.seq ?_
  refine WC.seq ?_
  refine WC.region ?_
  refine WL.y rfl (Yld.pure tab_ok rfl) ?_
  refine WL.call rfl rfl (W_pdisk_Disk_call hG (Nat.le_trans hB (Nat.le_refl _)) (apC (InP.toGe (InP.mem (List.Mem.head _)) hP hB) (InA.toGe (InA.mem (fun _ hp => List.Mem.tail _ (hp))) hP hB)) hS15 hd_files hd hdj0_1 H) ?_
  rintro v_err w1 ⟨hgl1, _, err, hs_d_, d_, d_2, d_3, d_4, rfl, herr, hB1, hM1, hi1, dj1, H⟩
  have gr1 : GrL ((some g_d) :: (FP g_d_files hs_d_files none)) w w1 := GrL.modL (GrL.refl _) hgl1 (apC (InP.mem (List.Mem.head _)) (InA.mem (fun _ hp => List.Mem.tail _ (hp))))
  refine WL.y rfl (Yld.pure tab_ok rfl) ?_
  refine WL.nil (WX.then_normal ?_)
  refine WC.seq ?_
  refine WC.region ?_
  refine WL.y rfl (Yld.pure tab_ok rfl) ?_
  refine WL.y rfl (Yld.errneq Tryd.underlying29 herr rfl) ?_
  refine WL.nil (WX.then_normal ?_)
  refine WC.cond rfl (fun b1 => ?_) (fun b1 => ?_)
  · replace H := H.1 (nd_true b1)
    refine WC.seq ?_
    refine WC.region ?_
    refine WL.y rfl (Yld.pure tab_ok rfl) ?_
    refine WL.y rfl (Yld.pure tab_ok rfl) ?_
    refine WL.nil (WX.then_normal ?_)
    refine WC.ret (WX.then_ret ?_)
    exact WX.ret1 rfl rfl ⟨gr1, v_err, err, hs_d_, d_, d_2, d_3, d_4, rfl, herr, hB1, hM1, (InA.trans hi1 (apC (InP.mem (List.Mem.head _)) (InA.mem (fun _ hp => List.Mem.tail _ (hp)))) (Nat.le_refl _)), dj1, H⟩
  · replace H := H.2 (nd_false b1)
    refine WC.skip (WX.then_normal ?_)
    refine WC.seq ?_
    refine WC.seq ?_
    refine WC.region ?_
    refine WL.y rfl (Yld.pure tab_ok rfl) ?_
    refine WL.call rfl rfl (W_path_Valid (hG.goL gr1 hP).ok hS100 H) ?_
    rintro _ w2 ⟨hg1, t13, rfl, H⟩
    have gr2 := GrL.add0 gr1 hg1
    have k1 := hM1.g0 hg1
    have k2 := hB1.g0 hg1
    refine WL.y rfl (Yld.pure tab_ok rfl) ?_
    refine WL.nil (WX.then_normal ?_)
    refine WC.cond rfl (fun b2 => ?_) (fun b2 => ?_)
    · replace H := H.1 (b2)
      refine WC.seq ?_
      refine WC.region ?_
      obtain ⟨vE1, _, hE1⟩ := GOK.get (hG.goL gr2 hP).ok 11 0 hS11 rfl rfl
      refine WL.y rfl (Yld.cell tab_ok (ErrR.cell hE1 rfl) rfl rfl) ?_
      refine WL.y rfl (Yld.pure tab_ok rfl) ?_
      refine WL.nil (WX.then_normal ?_)
      refine WC.ret (WX.then_ret ?_)
      exact WX.ret1 rfl rfl ⟨gr2, vE1, (Er.e 11), hs_d_, d_, d_2, d_3, d_4, rfl, hE1, k2, k1, (InA.trans hi1 (apC (InP.mem (List.Mem.head _)) (InA.mem (fun _ hp => List.Mem.tail _ (hp)))) (Nat.le_refl _)), dj1, H⟩
    · replace H := H.2 (b2)
      refine WC.skip (WX.then_normal ?_)
      refine WC.seq ?_
      obtain ⟨J1, H, hJ1⟩ := H
      refine WC.midF (fun L' w' => ∃ (d0 : List (List UInt8 × List UInt8 × Bool × List UInt8 × Bool × List (Int × List UInt8))), ∃ (hs_d0 : List (List UInt8 × PH)), L' = [] ∧ J1 d0 ∧ GrL ((some g_d) :: (FP g_d_files hs_d_files none)) w w' ∧ Bl w' g_d 124 [.map (some g_d_files), .int .i64 d_2, .int .i64 d_3, .bool d_4] ∧ PoolO pe128 w' g_d_files hs_d0 d0 none ∧ AllP (Dj (some g_d)) (FP g_d_files hs_d0 none) ∧ AllP (InP ((some g_d) :: (FP g_d_files hs_d_files none)) w.heap.size) (FP g_d_files hs_d0 none)) ?_ (fun hQ => ?_)
      · clear H
        rintro _ w3 ⟨d0, hs_d0, rfl, H, gr3, k3, k4, dj2, hi2⟩
        replace H := hJ1 d0 H
        refine WX.then_normal ?_
        refine WC.seq ?_
        refine WC.region ?_
        refine WL.y rfl (Yld.pure tab_ok rfl) ?_
        refine WL.nil (WX.then_normal ?_)
        refine WC.ret ?_
        exact WX.ret1 rfl rfl ⟨gr3, .nilIface, Er.ok, hs_d0, d0, d_2, d_3, d_4, rfl, (ErrR.okR (S := S) (w := w3)), k3, k4, hi2, dj2, H⟩
      · clear hJ1
        refine WC.seq ?_
        refine WC.region ?_
        refine WL.y rfl (Yld.pure tab_ok rfl) ?_
        refine WL.y rfl (Yld.pure tab_ok rfl) ?_
        refine WL.y rfl (Yld.pure tab_ok rfl) ?_
        refine WL.y rfl (Yld.bload tab_ok k2 rfl rfl rfl) ?_
        refine WL.y rfl (Yld.pure tab_ok rfl) ?_
        obtain ⟨h1, H⟩ := H
        refine WL.y rfl (Yld.plook (keyF_s Tryd.underlying9) Tryd.underlying122 (fun _ => by kernel_rfl) k1 rfl rfl h1) ?_
        refine WL.y rfl (Yld.pure tab_ok rfl) ?_
        refine WL.nil (WX.then_normal ?_)
        refine WC.seq ?_
        refine WC.region ?_
        refine WL.y rfl (Yld.pure tab_ok rfl) ?_
        refine WL.y rfl (Yld.pneP Tryd.underlying125 k1 rfl rfl) ?_
        refine WL.nil (WX.then_normal ?_)
        refine WC.cond rfl (fun b3 => ?_) (fun b3 => ?_)
        · replace H := H.1 (b3)
          refine WC.region ?_
          refine WL.y rfl (Yld.pure tab_ok rfl) ?_
          have hx1 : mget d_ p = some ((mget d_ p).getD ([], false, [], false, [])) := getD_some b3
          obtain ⟨b_pl, r1, hm1, hr1, k5, dj4, dj5⟩ := PoolO.open k1 hx1
          obtain ⟨A_pl, c_pl, r1e, hB2, hO1, dj3⟩ := hr1
          subst r1e
          simp only [pq_some hm1, pqo_some hm1]
          refine WL.call rfl rfl (W_pdisk_file_settle hO1 rfl hB2 dj3 H) ?_
          rintro _ w4 ⟨hgl2, pl_, pl_2, pl_3, pl_4, pl_5, A_pl_, c_pl_, rfl, hB3, hO2, hi3, dj6, H⟩
          have hi4 : InP ((some g_d) :: (FP g_d_files hs_d_files none)) w.heap.size (blk A_pl_) := InP.trans hi3 (apC (PoolO.at1 k1 hm1 (InA.trans hi1 (apC (InP.mem (List.Mem.head _)) (InA.mem (fun _ hp => List.Mem.tail _ (hp)))) (Nat.le_refl _))) (apC (PoolO.at2 k1 hm1 (InA.trans hi1 (apC (InP.mem (List.Mem.head _)) (InA.mem (fun _ hp => List.Mem.tail _ (hp)))) (Nat.le_refl _))) apN)) (GrL.sizeL gr2)
          have gr4 : GrL ((some g_d) :: (FP g_d_files hs_d_files none)) w w4 := GrL.modL gr2 hgl2 (apC (PoolO.at1 k1 hm1 (InA.trans hi1 (apC (InP.mem (List.Mem.head _)) (InA.mem (fun _ hp => List.Mem.tail _ (hp)))) (Nat.le_refl _))) (apC (PoolO.at2 k1 hm1 (InA.trans hi1 (apC (InP.mem (List.Mem.head _)) (InA.mem (fun _ hp => List.Mem.tail _ (hp)))) (Nat.le_refl _))) apN))
          have k6 := k5.goL hgl2 (apC dj4 (apC dj5 apN))
          have k7 := k2.goL hgl2 (apC (PoolO.at1 k1 hm1 dj1) (apC (PoolO.at2 k1 hm1 dj1) apN))
          refine WL.nil ?_
          have hr2 : pe128.rel w4 (b_pl, blk A_pl_) (pl_, pl_2, pl_3, pl_4, pl_5) := ⟨_, _, rfl, hB3, hO2, dj6⟩
          have k8 := PoolO.close k6 hm1 hr2 dj4 (k5.inp hi3 (apC dj4 (apC dj5 apN)))
          exact WX.weaken (by repeat (first | exact Sub.nil | refine Sub.cons rfl ?_)) (hQ _ _ ⟨mput d_ p (pl_, pl_2, pl_3, pl_4, pl_5), mput hs_d_ p (b_pl, blk A_pl_), rfl, H, gr4, k7, k8, (PoolO.closeA k6 (PoolO.sub k1 dj1) (PoolO.at1 k1 hm1 dj1) (InP.dj hi3 k2.lt' (apC (PoolO.at1 k1 hm1 dj1) (apC (PoolO.at2 k1 hm1 dj1) apN))).symm), (PoolO.closeA k6 (PoolO.sub k1 (InA.trans hi1 (apC (InP.mem (List.Mem.head _)) (InA.mem (fun _ hp => List.Mem.tail _ (hp)))) (Nat.le_refl _))) (PoolO.at1 k1 hm1 (InA.trans hi1 (apC (InP.mem (List.Mem.head _)) (InA.mem (fun _ hp => List.Mem.tail _ (hp)))) (Nat.le_refl _))) hi4)⟩)
        · replace H := H.2 (b3)
          refine WC.skip ?_
          exact WX.weaken (by repeat (first | exact Sub.nil | refine Sub.cons rfl ?_)) (hQ _ _ ⟨d_, hs_d_, rfl, H, gr2, k2, k1, dj1, (InA.trans hi1 (apC (InP.mem (List.Mem.head _)) (InA.mem (fun _ hp => List.Mem.tail _ (hp)))) (Nat.le_refl _))⟩)

set_option maxHeartbeats 8000000 in
theorem W_pdisk_Disk_Rise {w : World} {g_d : Nat} {g_d_files : Nat} {hs_d_files : List (List UInt8 × PH)} {d_files : List (List UInt8 × List UInt8 × Bool × List UInt8 × Bool × List (Int × List UInt8))} {d_ops : Int} {d_left : Int} {d_down : Bool} {keep : Int} {cut : Int} {K : (List (List UInt8 × List UInt8 × Bool × List UInt8 × Bool × List (Int × List UInt8))) → Int → Int → Bool → Prop} (hd_files : PoolO pe128 w g_d_files hs_d_files d_files none) (hd : Bl w g_d 124 [.map (some g_d_files), .int .i64 d_ops, .int .i64 d_left, .bool d_down]) (hdj0_1 : AllP (Dj (some g_d)) (FP g_d_files hs_d_files none)) (H : M_pdisk_Disk_Rise d_files d_ops d_left d_down keep cut K) : Fn Tryd.prog 27 ⟨[.pointer (some ⟨g_d, 0, none⟩), .int .i64 keep, .int .i64 cut]⟩ w (fun v w' => GrL ((some g_d) :: (FP g_d_files hs_d_files none)) w w' ∧ ∃ (hs_d_files2 : List (List UInt8 × PH)), ∃ (d_files2 : List (List UInt8 × List UInt8 × Bool × List UInt8 × Bool × List (Int × List UInt8))), ∃ (d_ops2 : Int), ∃ (d_left2 : Int), ∃ (d_down2 : Bool), v = .tuple #[] ∧ Bl w' g_d 124 [.map (some g_d_files), .int .i64 d_ops2, .int .i64 d_left2, .bool d_down2] ∧ PoolO pe128 w' g_d_files hs_d_files2 d_files2 none ∧ AllP (InP ((some g_d) :: (FP g_d_files hs_d_files none)) w.heap.size) (FP g_d_files hs_d_files2 none) ∧ AllP (Dj (some g_d)) (FP g_d_files hs_d_files2 none) ∧ K d_files2 d_ops2 d_left2 d_down2) := by
  unfold M_pdisk_Disk_Rise at H
  refine Fn.enter (by kernel_rfl) Tryd.func27 rfl Tryd.ntmps27 rfl ?_
  have hNoAt : AllP (NoAt w) ((some g_d) :: (FP g_d_files hs_d_files none)) := (apC (NoAt.bl hd rfl) hd_files.noats)
  refine WC.seq ?_
  refine WC.seq ?_
  refine WC.region ?_
  refine WL.y rfl (Yld.pure tab_ok rfl) ?_
  refine WL.y rfl (Yld.pure tab_ok rfl) ?_
  refine WL.y rfl (Yld.pure tab_ok rfl) ?_
  refine WL.y rfl (Yld.bload tab_ok hd rfl rfl rfl) ?_
  refine WL.y rfl (Yld.pure tab_ok rfl) ?_
  refine WL.nil (WX.then_normal ?_)
  refine WC.cond rfl (fun b1 => ?_) (fun b1 => ?_)
  · replace H := H.1 (b1)
    refine WC.ret (WX.then_ret ?_)
    exact WX.ret0 rfl ⟨(GrL.refl _), hs_d_files, d_files, d_ops, d_left, d_down, rfl, hd, hd_files, (InA.mem (fun _ hp => List.Mem.tail _ (hp))), hdj0_1, H⟩
  · replace H := H.2 (b1)
    refine WC.skip (WX.then_normal ?_)
    refine WC.seq ?_
    refine WC.region ?_
    refine WL.y rfl (Yld.pure tab_ok rfl) ?_
    refine WL.y rfl (Yld.max2 rfl rfl) ?_
    refine WL.y rfl (Yld.pure tab_ok rfl) ?_
    refine WL.nil (WX.then_normal ?_)
    refine WC.seq ?_
    refine WC.seq ?_
    refine WC.region ?_
    refine WL.y rfl (Yld.pure tab_ok rfl) ?_
    refine WL.y rfl (Yld.pure tab_ok rfl) ?_
    refine WL.y rfl (Yld.pure tab_ok rfl) ?_
    refine WL.y rfl (Yld.bload tab_ok hd rfl rfl rfl) ?_
    refine WL.call rfl rfl keysBox_fn ?_
    rintro _ w1 ⟨g1, rfl, hB1, hg1, hl1⟩
    have gr1 := (GrL.of0 (ps := ((some g_d) :: (FP g_d_files hs_d_files none))) hg1)
    have k1 := hd_files.g0 hg1
    have k2 := hd.g0 hg1
    refine WL.call rfl rfl (W_slices_Sorted_string_maps_Keys_map_string_pdisk_file_string_pdisk_file_1 k1 hB1 H) ?_
    rintro _ w2 ⟨hg2, t21, A_t21, c_t21, rfl, ht21, H⟩
    have hb1 := ht21.ge'
    have k3 := ht21.base (fun g hg => Nat.le_trans (GrL.sizeL gr1) (hb1 g hg))
    have gr2 := GrL.add0 gr1 hg2
    have k4 := k1.g0 hg2
    have k5 := k2.g0 hg2
    refine WL.y rfl (Yld.pure tab_ok rfl) ?_
    refine WL.y rfl (Yld.pure tab_ok rfl) ?_
    refine WL.nil (WX.then_normal ?_)
    refine WC.block ?_
    obtain ⟨I1, mu1, h0_1, HR1⟩ := H
    refine WC.loopF (fun n' L' w' => ∃ (keep2 : Int), ∃ (t23 : Int), ∃ (d0 : List (List UInt8 × List UInt8 × Bool × List UInt8 × Bool × List (Int × List UInt8))), ∃ (hs_d0 : List (List UInt8 × PH)), n' = mu1 keep2 t23 d0 ∧ L' = [(0, .pointer (some ⟨g_d, 0, none⟩)), (1, .int .i64 keep2), (2, .int .i64 cut), (21, .slice A_t21 t21.length c_t21), (22, .int .i64 (t21.length : Int)), (23, .int .i64 t23)] ∧ I1 keep2 t23 d0 ∧ GrL ((some g_d) :: (FP g_d_files hs_d_files none)) w w' ∧ Bl w' g_d 124 [.map (some g_d_files), .int .i64 d_ops, .int .i64 d_left, .bool d_down] ∧ Own vs w' w.heap.size 9 A_t21 c_t21 t21 ∧ PoolO pe128 w' g_d_files hs_d0 d0 none ∧ Dj (some g_d) (blk A_t21) ∧ AllP (Dj (some g_d)) (FP g_d_files hs_d0 none) ∧ AllP (Dj (blk A_t21)) (FP g_d_files hs_d0 none) ∧ AllP (InP ((some g_d) :: (FP g_d_files hs_d_files none)) w.heap.size) (FP g_d_files hs_d0 none)) _ _ ⟨(if keep < (0 : Int) then (0 : Int) else keep), (0 : Int), d_files, hs_d_files, rfl, rfl, h0_1, gr2, k5, k3, k4, (Dj.new k2.lt' hb1), hdj0_1, (k1.new hb1), (InA.mem (fun _ hp => List.Mem.tail _ (hp)))⟩ (by repeat (first | exact Sub.nil | refine Sub.cons rfl ?_)) ?_
    clear h0_1
    rintro _ _ w3 ⟨keep2, t23, d0, hs_d0, rfl, rfl, hI1, gr3, k6, k7, k8, dj1, dj2, dj3, hi1⟩
    have H := HR1 keep2 t23 d0 hI1
    refine WC.seq ?_
    refine WC.region ?_
    refine WL.y rfl (Yld.pure tab_ok rfl) ?_
    refine WL.nil (WX.then_normal ?_)
    refine WC.seq ?_
    refine WC.cond rfl (fun b2 => ?_) (fun b2 => ?_)
    · replace H := H.1 (of_decide_eq_true b2)
      refine WC.skip (WX.then_normal ?_)
      refine WC.seq ?_
      refine WC.block ?_
      refine WC.seq ?_
      refine WC.region ?_
      obtain ⟨h1, H⟩ := H
      refine WL.y rfl (Yld.iaddrW tab_ok k7.rd rfl rfl rfl rfl h1.1 h1.2) ?_
      refine WL.y rfl (Yld.iload [] tab_ok k7.rd rfl rfl (iltN h1 rfl)) ?_
      refine WL.y rfl (Yld.pure tab_ok rfl) ?_
      refine WL.nil (WX.then_normal ?_)
      refine WC.seq ?_
      refine WC.region ?_
      refine WL.y rfl (Yld.pure tab_ok rfl) ?_
      refine WL.y rfl (Yld.pure tab_ok rfl) ?_
      refine WL.y rfl (Yld.pure tab_ok rfl) ?_
      refine WL.y rfl (Yld.bload tab_ok k6 rfl rfl rfl) ?_
      refine WL.y rfl (Yld.pure tab_ok rfl) ?_
      obtain ⟨h2, H⟩ := H
      refine WL.y rfl (Yld.plook (keyF_s Tryd.underlying9) Tryd.underlying122 (fun _ => by kernel_rfl) k8 rfl rfl h2) ?_
      refine WL.y rfl (Yld.pure tab_ok rfl) ?_
      refine WL.nil (WX.then_normal ?_)
      refine WC.seq ?_
      obtain ⟨J1, H, hJ1⟩ := H
      refine WC.midF (fun L' w' => ∃ (keep3 : Int), ∃ (d02 : List (List UInt8 × List UInt8 × Bool × List UInt8 × Bool × List (Int × List UInt8))), ∃ (hs_d02 : List (List UInt8 × PH)), L' = [(0, .pointer (some ⟨g_d, 0, none⟩)), (1, .int .i64 keep3), (2, .int .i64 cut), (8, pq hs_d02 (t21.getD t23.toNat [])), (21, .slice A_t21 t21.length c_t21), (22, .int .i64 (t21.length : Int)), (23, .int .i64 t23)] ∧ J1 keep3 d02 ∧ GrL ((some g_d) :: (FP g_d_files hs_d_files none)) w w' ∧ Bl w' g_d 124 [.map (some g_d_files), .int .i64 d_ops, .int .i64 d_left, .bool d_down] ∧ Own vs w' w.heap.size 9 A_t21 c_t21 t21 ∧ PoolO pe128 w' g_d_files hs_d02 d02 none ∧ Dj (some g_d) (blk A_t21) ∧ AllP (Dj (some g_d)) (FP g_d_files hs_d02 none) ∧ AllP (Dj (blk A_t21)) (FP g_d_files hs_d02 none) ∧ AllP (InP ((some g_d) :: (FP g_d_files hs_d_files none)) w.heap.size) (FP g_d_files hs_d02 none)) ?_ (fun hQ => ?_)
      · clear H
        rintro _ w4 ⟨keep3, d02, hs_d02, rfl, H, gr4, k9, k10, k11, dj4, dj5, dj6, hi2⟩
        replace H := hJ1 keep3 d02 H
        refine WX.then_normal ?_
        refine WC.region ?_
        refine WL.y rfl (Yld.pure tab_ok rfl) ?_
        obtain ⟨h3, H⟩ := H
        have hx1 : mget d02 (t21.getD t23.toNat []) = some ((mget d02 (t21.getD t23.toNat [])).getD ([], false, [], false, [])) := getD_some h3
        obtain ⟨b_pl, r1, hm1, hr1, k12, dj8, dj9⟩ := PoolO.open k11 hx1
        obtain ⟨A_pl, c_pl, r1e, hB2, hO1, dj7⟩ := hr1
        subst r1e
        simp only [pq_some hm1, pqo_some hm1]
        refine WL.call rfl rfl (W_pdisk_file_settle hO1 rfl hB2 dj7 H) ?_
        rintro _ w5 ⟨hgl1, pl_, pl_2, pl_3, pl_4, pl_5, A_pl_, c_pl_, rfl, hB3, hO2, hi3, dj10, H⟩
        have hi4 : InP ((some g_d) :: (FP g_d_files hs_d_files none)) w.heap.size (blk A_pl_) := InP.trans hi3 (apC (PoolO.at1 k11 hm1 hi2) (apC (PoolO.at2 k11 hm1 hi2) apN)) (GrL.sizeL gr4)
        have gr5 : GrL ((some g_d) :: (FP g_d_files hs_d_files none)) w w5 := GrL.modL gr4 hgl1 (apC (PoolO.at1 k11 hm1 hi2) (apC (PoolO.at2 k11 hm1 hi2) apN))
        have k13 := k9.goL hgl1 (apC (PoolO.at1 k11 hm1 dj5) (apC (PoolO.at2 k11 hm1 dj5) apN))
        have k14 := k10.goL hgl1 (apC (PoolO.at1 k11 hm1 dj6) (apC (PoolO.at2 k11 hm1 dj6) apN))
        have k15 := k12.goL hgl1 (apC dj8 (apC dj9 apN))
        refine WL.nil (WX.block_normal (WX.then_normal ?_))
        refine WC.region ?_
        obtain ⟨h4, H⟩ := H
        refine WL.y rfl (Yld.add rfl rfl h4) ?_
        refine WL.y rfl (Yld.pure tab_ok rfl) ?_
        refine WL.nil ?_
        have hr2 : pe128.rel w5 (b_pl, blk A_pl_) (pl_, pl_2, pl_3, pl_4, pl_5) := ⟨_, _, rfl, hB3, hO2, dj10⟩
        have k16 := PoolO.close k15 hm1 hr2 dj8 (k12.inp hi3 (apC dj8 (apC dj9 apN)))
        exact WX.roundF _ ⟨keep3, t23 + (1 : Int), mput d02 (t21.getD t23.toNat []) (pl_, pl_2, pl_3, pl_4, pl_5), mput hs_d02 (t21.getD t23.toNat []) (b_pl, blk A_pl_), rfl, rfl, H.1, gr5, k13, k14, k16, dj4, (PoolO.closeA k15 (PoolO.sub k11 dj5) (PoolO.at1 k11 hm1 dj5) (InP.dj hi3 k9.lt' (apC (PoolO.at1 k11 hm1 dj5) (apC (PoolO.at2 k11 hm1 dj5) apN))).symm), (PoolO.closeA k15 (PoolO.sub k11 dj6) (PoolO.at1 k11 hm1 dj6) (InP.dj hi3 k10.lt' (apC (PoolO.at1 k11 hm1 dj6) (apC (PoolO.at2 k11 hm1 dj6) apN))).symm), (PoolO.closeA k15 (PoolO.sub k11 hi2) (PoolO.at1 k11 hm1 hi2) hi4)⟩ (by repeat (first | exact Sub.nil | refine Sub.cons rfl ?_)) H.2
      · clear hJ1
        refine WC.seq ?_
        refine WC.region ?_
        refine WL.y rfl (Yld.pure tab_ok rfl) ?_
        obtain ⟨h5, H⟩ := H
        refine WL.y rfl (Yld.pchk k8 h5 rfl) ?_
        refine WL.y rfl (Yld.pfa tab_ok k8 h5 rfl rfl rfl) ?_
        have hx2 : mget d0 (t21.getD t23.toNat []) = some ((mget d0 (t21.getD t23.toNat [])).getD ([], false, [], false, [])) := getD_some h5
        obtain ⟨b_pl2, r2, hm2, hr3, k17, dj12, dj13⟩ := PoolO.open k8 hx2
        obtain ⟨A_pl2, c_pl2, r2e, hB4, hO3, dj11⟩ := hr3
        subst r2e
        simp only [pq_some hm2, pqo_some hm2]
        refine WL.y rfl (Yld.bload tab_ok hB4 rfl rfl rfl) ?_
        refine WL.y rfl (Yld.pure tab_ok rfl) ?_
        refine WL.y rfl (Yld.pure tab_ok rfl) ?_
        refine WL.nil (WX.then_normal ?_)
        refine WC.cond rfl (fun b3 => ?_) (fun b3 => ?_)
        · replace H := H.1 (of_decide_eq_true b3)
          refine WC.seq ?_
          refine WC.region ?_
          refine WL.y rfl (Yld.pure tab_ok rfl) ?_
          refine WL.y rfl (Yld.pure tab_ok rfl) ?_
          obtain ⟨h6, H⟩ := H
          refine WL.y rfl (Yld.rem rfl rfl h6.1 h6.2) ?_
          refine WL.y rfl (Yld.pure tab_ok rfl) ?_
          refine WL.y rfl (Yld.max2 rfl rfl) ?_
          refine WL.call rfl rfl (W_pdisk_file_rise hO3 rfl hB4 dj11 H) ?_
          rintro _ w6 ⟨hgl2, pl_6, pl_7, pl_8, pl_9, pl_10, A_pl_2, c_pl_2, rfl, hB5, hO4, hi5, dj14, H⟩
          have hi6 : InP ((some g_d) :: (FP g_d_files hs_d_files none)) w.heap.size (blk A_pl_2) := InP.trans hi5 (apC (PoolO.at1 k8 hm2 hi1) (apC (PoolO.at2 k8 hm2 hi1) apN)) (GrL.sizeL gr3)
          have gr6 : GrL ((some g_d) :: (FP g_d_files hs_d_files none)) w w6 := GrL.modL gr3 hgl2 (apC (PoolO.at1 k8 hm2 hi1) (apC (PoolO.at2 k8 hm2 hi1) apN))
          have k18 := k6.goL hgl2 (apC (PoolO.at1 k8 hm2 dj2) (apC (PoolO.at2 k8 hm2 dj2) apN))
          have k19 := k7.goL hgl2 (apC (PoolO.at1 k8 hm2 dj3) (apC (PoolO.at2 k8 hm2 dj3) apN))
          have k20 := k17.goL hgl2 (apC dj12 (apC dj13 apN))
          refine WL.nil (WX.then_normal ?_)
          refine WC.region ?_
          refine WL.y rfl (Yld.pure tab_ok rfl) ?_
          obtain ⟨h7, H⟩ := H
          refine WL.y rfl (Yld.quo rfl rfl h7.1 h7.2.1 h7.2.2) ?_
          refine WL.y rfl (Yld.pure tab_ok rfl) ?_
          refine WL.nil ?_
          have hr4 : pe128.rel w6 (b_pl2, blk A_pl_2) (pl_6, pl_7, pl_8, pl_9, pl_10) := ⟨_, _, rfl, hB5, hO4, dj14⟩
          have k21 := PoolO.close k20 hm2 hr4 dj12 (k17.inp hi5 (apC dj12 (apC dj13 apN)))
          have hm3 : mget (mput hs_d0 (t21.getD t23.toNat []) (b_pl2, blk A_pl_2)) (t21.getD t23.toNat []) = some (b_pl2, blk A_pl_2) := mget_same _ _ _
          simp only [← pq_some hm3]
          exact WX.weaken (by repeat (first | exact Sub.nil | refine Sub.cons rfl ?_)) (hQ _ _ ⟨keep2 / (4 : Int), mput d0 (t21.getD t23.toNat []) (pl_6, pl_7, pl_8, pl_9, pl_10), mput hs_d0 (t21.getD t23.toNat []) (b_pl2, blk A_pl_2), rfl, H, gr6, k18, k19, k21, dj1, (PoolO.closeA k20 (PoolO.sub k8 dj2) (PoolO.at1 k8 hm2 dj2) (InP.dj hi5 k6.lt' (apC (PoolO.at1 k8 hm2 dj2) (apC (PoolO.at2 k8 hm2 dj2) apN))).symm), (PoolO.closeA k20 (PoolO.sub k8 dj3) (PoolO.at1 k8 hm2 dj3) (InP.dj hi5 k7.lt' (apC (PoolO.at1 k8 hm2 dj3) (apC (PoolO.at2 k8 hm2 dj3) apN))).symm), (PoolO.closeA k20 (PoolO.sub k8 hi1) (PoolO.at1 k8 hm2 hi1) hi6)⟩)
        · replace H := H.2 (of_decide_eq_false b3)
          refine WC.skip ?_
          have hr5 : pe128.rel w3 (b_pl2, blk A_pl2) ((mget d0 (t21.getD t23.toNat [])).getD ([], false, [], false, [])) := ⟨_, _, rfl, hB4, hO3, dj11⟩
          have k22 := PoolO.back k17 hm2 hx2 hr5 dj12 dj13
          simp only [← pq_some hm2]
          exact WX.weaken (by repeat (first | exact Sub.nil | refine Sub.cons rfl ?_)) (hQ _ _ ⟨keep2, d0, hs_d0, rfl, H, gr3, k6, k7, k22, dj1, (PoolO.backA k17 hm2 (PoolO.sub k8 dj2) (PoolO.at1 k8 hm2 dj2) (PoolO.at2 k8 hm2 dj2)), (PoolO.backA k17 hm2 (PoolO.sub k8 dj3) (PoolO.at1 k8 hm2 dj3) (PoolO.at2 k8 hm2 dj3)), (PoolO.backA k17 hm2 (PoolO.sub k8 hi1) (PoolO.at1 k8 hm2 hi1) (PoolO.at2 k8 hm2 hi1))⟩)
    · replace H := H.2 (of_decide_eq_false b2)
      refine WC.exit (WX.then_exit (WX.then_exit (WX.block_same (WX.then_normal ?_))))
      refine WC.region ?_
      refine WL.y rfl (Yld.pure tab_ok rfl) ?_
      refine WL.y rfl (Yld.pure tab_ok rfl) ?_
      refine WL.y rfl (Yld.pure tab_ok rfl) ?_
      refine WL.y rfl (Yld.pure tab_ok rfl) ?_
      refine WL.store1 one4 rfl rfl rfl k6 (by simp) (fun w7 hB7 hg3 => ?_)
      have hB6 : Bl w7 g_d 124 [.map (some g_d_files), .int .i64 d_ops, .int .i64 d_left, .bool false] := hB7
      have gr7 : GrL ((some g_d) :: (FP g_d_files hs_d_files none)) w w7 := GrL.mod gr3 hg3 (InP.mem (List.Mem.head _))
      have k23 := k8.go hg3 dj2
      refine WL.y rfl (Yld.pure tab_ok rfl) ?_
      refine WL.y rfl (Yld.pure tab_ok rfl) ?_
      refine WL.store1 one3 rfl rfl rfl hB6 (by simp) (fun w8 hB9 hg4 => ?_)
      have hB8 : Bl w8 g_d 124 [.map (some g_d_files), .int .i64 d_ops, .int .i64 (0 : Int), .bool false] := hB9
      have gr8 : GrL ((some g_d) :: (FP g_d_files hs_d_files none)) w w8 := GrL.mod gr7 hg4 (InP.mem (List.Mem.head _))
      have k24 := k23.go hg4 dj2
      refine WL.nil ?_
      exact WX.end0 rfl ⟨gr8, hs_d0, d0, d_ops, (0 : Int), false, rfl, hB8, k24, hi1, dj2, H⟩

set_option maxHeartbeats 8000000 in
theorem W_disk_New {S : List Nat} {w : World} {files : List (List UInt8 × List UInt8)} {A_files : Option Addr} {c_files : Nat} {n_files : Nat} {K0 : Er → Prop} {K : (List (List UInt8 × List UInt8 × Bool × List UInt8 × Bool × List (Int × List UInt8))) → Int → Int → Bool → Er → Prop} (hG : GOK S w) (hS9 : 9 ∈ S) (hS11 : 11 ∈ S) (hS100 : 100 ∈ S) (hfiles : RdK 2 enc43 w A_files c_files files) (hn_files : n_files = files.length) (H : M_disk_New files K0 K) : Fn Tryd.prog 21 ⟨[.slice A_files n_files c_files]⟩ w (fun v w' => w.grownBy w' none ∧ ((∃ (v_r12 : Value), ∃ (r12 : Er), v = .tuple #[.pointer none, v_r12] ∧ ErrR S w' v_r12 r12 ∧ K0 r12) ∨ (∃ (g_r0 : Nat), ∃ (g_r0_files : Nat), ∃ (hs_r0_files : List (List UInt8 × PH)), ∃ (r0_files : List (List UInt8 × List UInt8 × Bool × List UInt8 × Bool × List (Int × List UInt8))), ∃ (r0_ops : Int), ∃ (r0_left : Int), ∃ (r0_down : Bool), ∃ (v_r1 : Value), ∃ (r1 : Er), v = .tuple #[.pointer (some ⟨g_r0, 0, none⟩), v_r1] ∧ ErrR S w' v_r1 r1 ∧ PoolO pe128 w' g_r0_files hs_r0_files r0_files none ∧ AllP (fun p => Ge p w.heap.size) (FP g_r0_files hs_r0_files none) ∧ Bl w' g_r0 124 [.map (some g_r0_files), .int .i64 r0_ops, .int .i64 r0_left, .bool r0_down] ∧ Ge (some g_r0) w.heap.size ∧ AllP (Dj (some g_r0)) (FP g_r0_files hs_r0_files none) ∧ K r0_files r0_ops r0_left r0_down r1))) := by
  subst hn_files
  unfold M_disk_New at H
  refine Fn.enter (by kernel_rfl) Tryd.func21 rfl Tryd.ntmps21 rfl ?_
  replace H := H (Nat.le_trans hfiles.cap hfiles.max)
  refine WC.seq ?_
  refine WC.region ?_
  refine WL.y rfl (Yld.pure tab_ok rfl) ?_
  refine WL.y rfl (Yld.pure tab_ok rfl) ?_
  refine WL.nil (WX.then_normal ?_)
  refine WC.seq ?_
  refine WC.region ?_
  refine WL.putw wants_none rfl (Eff.makeMap vs okS (vP : Option PH → Value)) ?_
  rintro _ w1 ⟨rfl, hB1, hg1⟩
  have k1 : PoolO pe128 w1 w.heap.size [] [] none := PoolO.empty _ hB1
  have gr1 := hg1
  refine WL.y rfl (Yld.struct (us := [.map (some w.heap.size), .int .i64 (0 : Int), .int .i64 (0 : Int), .bool false]) zero124 places124 rfl rfl) ?_
  refine WL.box (us := [.map (some w.heap.size), .int .i64 (0 : Int), .int .i64 (0 : Int), .bool false]) rfl rfl rfl (fun g1 w2 hB2 hg2 hl2 => ?_)
  have gr2 := gr_trans gr1 hg2
  have k2 := k1.g0 hg2
  refine WL.y rfl (Yld.pure tab_ok rfl) ?_
  refine WL.nil (WX.then_normal ?_)
  refine WC.seq ?_
  refine WC.seq ?_
  refine WC.region ?_
  refine WL.y rfl (Yld.pure tab_ok rfl) ?_
  refine WL.y rfl (Yld.pure tab_ok rfl) ?_
  refine WL.y rfl (Yld.pure tab_ok rfl) ?_
  refine WL.nil (WX.then_normal ?_)
  refine WC.block ?_
  obtain ⟨I1, mu1, h0_1, HR1⟩ := H
  refine WC.loopF (fun n' L' w' => ∃ (t12 : Int), ∃ (t90 : List (List UInt8 × List UInt8 × Bool × List UInt8 × Bool × List (Int × List UInt8))), ∃ (hs_t90 : List (List UInt8 × PH)), n' = mu1 t12 t90 ∧ L' = [(0, .slice A_files files.length c_files), (4, .pointer (some ⟨g1, 0, none⟩)), (10, .slice A_files files.length c_files), (11, .int .i64 (files.length : Int)), (12, .int .i64 t12)] ∧ I1 t12 t90 ∧ w.grownBy w' none ∧ Bl w' g1 124 [.map (some w.heap.size), .int .i64 (0 : Int), .int .i64 (0 : Int), .bool false] ∧ PoolO pe128 w' w.heap.size hs_t90 t90 none ∧ AllP (Dj (some g1)) (FP w.heap.size hs_t90 none) ∧ AllP (fun p => Ge p w.heap.size) (FP w.heap.size hs_t90 none)) _ _ ⟨(0 : Int), ([] : List (List UInt8 × List UInt8 × Bool × List UInt8 × Bool × List (Int × List UInt8))), ([] : List (List UInt8 × PH)), rfl, rfl, h0_1, gr2, hB2, k2, (k1.new (Ge.box hl2)), (FP.nil (Ge.le (Ge.box (Nat.le_refl _)) (Nat.le_refl _)))⟩ (by repeat (first | exact Sub.nil | refine Sub.cons rfl ?_)) ?_
  clear h0_1
  rintro _ _ w3 ⟨t12, t90, hs_t90, rfl, rfl, hI1, gr3, k3, k4, dj1, hi1⟩
  have H := HR1 t12 t90 hI1
  refine WC.seq ?_
  refine WC.region ?_
  refine WL.y rfl (Yld.pure tab_ok rfl) ?_
  refine WL.nil (WX.then_normal ?_)
  refine WC.seq ?_
  refine WC.cond rfl (fun b1 => ?_) (fun b1 => ?_)
  · replace H := H.1 (of_decide_eq_true b1)
    refine WC.skip (WX.then_normal ?_)
    refine WC.seq ?_
    refine WC.block ?_
    refine WC.seq ?_
    refine WC.region ?_
    obtain ⟨h1, H⟩ := H
    refine WL.y rfl (Yld.iaddrK tab_ok (hfiles.grown gr3) rfl rfl rfl rfl h1.1 h1.2) ?_
    refine WL.y rfl (Yld.iloadK ([], []) tab_ok (hfiles.grown gr3) rfl rfl (iltN h1 rfl)) ?_
    refine WL.alloc rfl zero43 (fun g2 w4 hB3 hg3 hl3 => ?_)
    have gr4 := gr_trans gr3 hg3
    have k5 := k3.g0 hg3
    have k6 := k4.g0 hg3
    refine WL.storeW (vs := [vs ((files.getD t12.toNat ([], [])).1), vs ((files.getD t12.toNat ([], [])).2)]) tab_ok rfl rfl rfl (all1c rfl (all1c rfl all1n)) hB3 rfl rfl (fun w5 hB4 hg4 => ?_)
    have gr5 := gr_mod gr4 hg4 (Ge.le (Ge.box hl3) (size_le gr3))
    have k7 := k5.go hg4 (Dj.new k3.lt' (Ge.box hl3))
    have k8 := k6.go hg4 (k4.new (Ge.box hl3))
    refine WL.nil (WX.then_normal ?_)
    refine WC.seq ?_
    refine WC.seq ?_
    refine WC.chainF (fun k => !(Nat.beq k 2)) (LD [1, 8, 10, 11, 16] (fun w' => Bl w' g2 43 [vs ((files.getD t12.toNat ([], [])).1), vs ((files.getD t12.toNat ([], [])).2)] ∧ Bl w' g1 124 [.map (some w.heap.size), .int .i64 (0 : Int), .int .i64 (0 : Int), .bool false] ∧ PoolO pe128 w' w.heap.size hs_t90 t90 none)) mixed (by kernel_rfl) (fun k w' h _ => ⟨(bl_eqv h hB4), (bl_eqv h k7), (PoolO.eqv h k8)⟩) ?_
    refine WJ.y rfl rfl (fun w' hw' => Yld.pure tab_ok rfl) ?_
    refine WJ.y rfl rfl (fun w' hw' => Yld.bload tab_ok (hw' rfl).1 rfl rfl rfl) ?_
    refine WJ.call rfl (wants_none) rfl rfl (W_path_Valid (hG.grown gr5) hS100 H) (fun v w' h w2 e => DD.keep (⟨(Bl.g0 hB4 (gr_eqv h.1 e)), (Bl.g0 k7 (gr_eqv h.1 e)), (PoolO.g0 k8 (gr_eqv h.1 e))⟩)) ?_
    rintro _ w6 ⟨hg5, t18, rfl, H⟩
    have gr6 := gr_trans gr5 hg5
    have k9 := k7.g0 hg5
    have k10 := k8.g0 hg5
    have k11 := hB4.g0 hg5
    refine WJ.y rfl rfl (fun w' hw' => Yld.pure tab_ok rfl) ?_
    refine WJ.y rfl rfl (fun w' hw' => Yld.pure tab_ok rfl) ?_
    obtain ⟨h2, H⟩ := H
    refine WJ.midF 9 (fun L' w' => ∃ q1 : Bool, L' = [(29, .bool q1), (0, .slice A_files files.length c_files), (4, .pointer (some ⟨g1, 0, none⟩)), (6, .pointer (some ⟨g2, 0, none⟩)), (10, .slice A_files files.length c_files), (11, .int .i64 (files.length : Int)), (12, .int .i64 t12)] ∧ ((!t18) || ((mget t90 ((files.getD t12.toNat ([], [])).1)).isSome)) = q1 ∧ w6 = w') ?_ (fun hQ => ?_)
    · rintro _ _ ⟨q1, rfl, rfl, rfl⟩
      refine WJ.y rfl rfl (fun w' hw' => Yld.pure tab_ok rfl) ?_
      refine WJ.midF 5 (fun L' w' => ∃ q2 : Bool, L' = [(35, .bool q2), (0, .slice A_files files.length c_files), (4, .pointer (some ⟨g1, 0, none⟩)), (6, .pointer (some ⟨g2, 0, none⟩)), (10, .slice A_files files.length c_files), (11, .int .i64 (files.length : Int)), (12, .int .i64 t12)] ∧ (((!t18) || ((mget t90 ((files.getD t12.toNat ([], [])).1)).isSome)) || (decide ((65536 : Int) < (((files.getD t12.toNat ([], [])).2).length : Int)))) = q2 ∧ w6 = w') ?_ (fun hQ => ?_)
      · rintro _ _ ⟨q2, rfl, rfl, rfl⟩
        refine WJ.nil (WX.then_normal ?_)
        refine WC.cond rfl (fun b2 => ?_) (fun b2 => ?_)
        · replace H := H.1 (b2)
          refine WC.seq ?_
          refine WC.quiet mixed (by kernel_rfl) ?_
          obtain ⟨vE1, _, hE1⟩ := GOK.get (hG.grown gr6) 11 0 hS11 rfl rfl
          refine WQ.y rfl (Yld.cell tab_ok (ErrR.cell hE1 rfl) rfl rfl) ?_
          refine WQ.y rfl (Yld.pure tab_ok rfl) ?_
          refine WQ.y rfl (Yld.pure tab_ok rfl) ?_
          refine WQ.nil (WX.then_normal ?_)
          refine WC.ret (WX.then_ret (WX.block_ret (WX.then_ret (WX.then_ret (WX.block_ret (WX.then_ret ?_))))))
          exact WX.ret2 rfl rfl rfl ⟨gr6, Or.inl ⟨vE1, (Er.e 11), rfl, hE1, H⟩⟩
        · replace H := H.2 (b2)
          refine WC.skip (WX.then_normal ?_)
          refine WC.chainF (fun k => !(Nat.beq k 11 || Nat.beq k 12)) (LD [3, 5, 7, 9] (fun w' => Bl w' g1 124 [.map (some w.heap.size), .int .i64 (0 : Int), .int .i64 (0 : Int), .bool false] ∧ Bl w' g2 43 [vs ((files.getD t12.toNat ([], [])).1), vs ((files.getD t12.toNat ([], [])).2)])) mixed (by kernel_rfl) (fun k w' h _ => ⟨(bl_eqv h k9), (bl_eqv h k11)⟩) ?_
          refine WJ.y rfl rfl (fun w' hw' => Yld.pure tab_ok rfl) ?_
          refine WJ.y rfl rfl (fun w' hw' => Yld.pure tab_ok rfl) ?_
          refine WJ.y rfl rfl (fun w' hw' => Yld.pure tab_ok rfl) ?_
          refine WJ.y rfl rfl (fun w' hw' => Yld.bload tab_ok (hw' rfl).1 rfl rfl rfl) ?_
          refine WJ.y rfl rfl (fun w' hw' => Yld.pure tab_ok rfl) ?_
          refine WJ.y rfl rfl (fun w' hw' => Yld.bload tab_ok (hw' rfl).2 rfl rfl rfl) ?_
          refine WJ.y rfl rfl (fun w' hw' => Yld.pure tab_ok rfl) ?_
          refine WJ.y rfl rfl (fun w' hw' => Yld.bload tab_ok (hw' rfl).2 rfl rfl rfl) ?_
          refine WJ.y rfl rfl (fun w' hw' => Yld.pure tab_ok rfl) ?_
          refine WJ.y rfl rfl (fun w' hw' => Yld.bload tab_ok (hw' rfl).2 rfl rfl rfl) ?_
          refine WJ.y rfl rfl (fun w' hw' => Yld.struct (us := [vs ((files.getD t12.toNat ([], [])).2), .bool true, vs ((files.getD t12.toNat ([], [])).2), .bool true, .slice none 0 0]) zero128 places128 rfl rfl) ?_
          refine WJ.putw rfl wants_none rfl (Eff.box (us := [vs ((files.getD t12.toNat ([], [])).2), .bool true, vs ((files.getD t12.toNat ([], [])).2), .bool true, .slice none 0 0]) rfl rfl) (fun v w' h => DD.keep (⟨(Bl.g0 k9 (gr_eqv h.2.2 (Eqv.refl _))), (Bl.g0 k11 (gr_eqv h.2.2 (Eqv.refl _)))⟩)) ?_
          rintro _ w7 ⟨rfl, hB5, hg6⟩
          have gr7 := gr_trans gr6 hg6
          have k12 := k9.g0 hg6
          have k13 := k10.g0 hg6
          have k14 := k11.g0 hg6
          obtain ⟨h3, H⟩ := H
          have hr1 : pe128.rel w7 (w6.heap.size, blk none) ((files.getD t12.toNat ([], [])).2, true, (files.getD t12.toNat ([], [])).2, true, []) := ⟨_, _, rfl, hB5, ((OwnK.nil enc136_ok w7 w.heap.size 136).base (fun _ _ => Nat.zero_le _)), Dj.nr⟩
          refine WJ.eff rfl (Ef0.poolPut (keyF_s Tryd.underlying9) Tryd.underlying122 k13 h3.2 rfl rfl h3.1 rfl hr1 (k10.new (Ge.box (Nat.le_refl _))) apNl) (fun w' h => DD.past (by kernel_rfl)) ?_
          rintro w8 ⟨k15, hg7⟩
          have gr8 := gr_mod gr7 hg7 (apH hi1)
          have k16 := k12.go hg7 (apH dj1)
          have k17 := k14.go hg7 (apH (k4.new (Ge.box hl3)))
          refine WJ.nil (WX.block_normal (WX.then_normal ?_))
          refine WC.region ?_
          obtain ⟨h4, H⟩ := H
          refine WL.y rfl (Yld.add rfl rfl h4) ?_
          refine WL.y rfl (Yld.pure tab_ok rfl) ?_
          refine WL.nil ?_
          exact WX.roundF _ ⟨t12 + (1 : Int), mput t90 ((files.getD t12.toNat ([], [])).1) ((files.getD t12.toNat ([], [])).2, true, (files.getD t12.toNat ([], [])).2, true, []), mput hs_t90 ((files.getD t12.toNat ([], [])).1) (w6.heap.size, blk none), rfl, rfl, H.1, gr8, k16, k15, (PoolO.putA k13 dj1 (Dj.new k9.lt' (Ge.box (Nat.le_refl _))) Dj.nr), (PoolO.putA k13 hi1 (Ge.le (Ge.box (Nat.le_refl _)) (size_le gr6)) Ge.none)⟩ (by repeat (first | exact Sub.nil | refine Sub.cons rfl ?_)) H.2
      · clear H
        rcases Bool.eq_false_or_eq_true ((!t18) || ((mget t90 ((files.getD t12.toNat ([], [])).1)).isSome)) with b3 | b3
        · refine WJ.no rfl rfl (okb b3) rfl ?_
          refine WJ.no rfl rfl (okb b3) rfl ?_
          refine WJ.no rfl rfl (okb b3) rfl ?_
          refine WJ.no rfl rfl (okb b3) rfl ?_
          refine WJ.y rfl rfl (fun w' hw' => Yld.pickT (okb b3) rfl) ?_
          exact WJ.weaken (by repeat (first | exact Sub.nil | refine Sub.cons rfl ?_)) (hQ _ _ ⟨true, rfl, by rw [b3] <;> rfl, rfl⟩)
        · refine WJ.yw rfl (wants_some rfl rfl (okb b3)) rfl (fun w' hw' => Yld.pure tab_ok rfl) ?_
          refine WJ.yw rfl (wants_some rfl rfl (okb b3)) rfl (fun w' hw' => Yld.bload tab_ok (hw' rfl).1 rfl rfl rfl) ?_
          refine WJ.yw rfl (wants_some rfl rfl (okb b3)) rfl (fun w' hw' => Yld.pure tab_ok rfl) ?_
          refine WJ.yw rfl (wants_some rfl rfl (okb b3)) rfl (fun w' hw' => Yld.pure tab_ok rfl) ?_
          refine WJ.y rfl rfl (fun w' hw' => Yld.pickF (okb b3) rfl) ?_
          exact WJ.weaken (by repeat (first | exact Sub.nil | refine Sub.cons rfl ?_)) (hQ _ _ ⟨decide ((65536 : Int) < (((files.getD t12.toNat ([], [])).2).length : Int)), rfl, by rw [b3] <;> rfl, rfl⟩)
    · clear H
      rcases Bool.eq_false_or_eq_true (!t18) with b4 | b4
      · refine WJ.no rfl rfl (okb b4) rfl ?_
        refine WJ.no rfl rfl (okb b4) rfl ?_
        refine WJ.no rfl rfl (okb b4) rfl ?_
        refine WJ.no rfl rfl (okb b4) rfl ?_
        refine WJ.no rfl rfl (okb b4) rfl ?_
        refine WJ.no rfl rfl (okb b4) rfl ?_
        refine WJ.no rfl rfl (okb b4) rfl ?_
        refine WJ.no rfl rfl (okb b4) rfl ?_
        refine WJ.y rfl rfl (fun w' hw' => Yld.pickT (okb b4) rfl) ?_
        exact WJ.weaken (by repeat (first | exact Sub.nil | refine Sub.cons rfl ?_)) (hQ _ _ ⟨true, rfl, by rw [b4] <;> rfl, rfl⟩)
      · refine WJ.yw rfl (wants_some rfl rfl (okb b4)) rfl (fun w' hw' => Yld.pure tab_ok rfl) ?_
        refine WJ.yw rfl (wants_some rfl rfl (okb b4)) rfl (fun w' hw' => Yld.pure tab_ok rfl) ?_
        refine WJ.yw rfl (wants_some rfl rfl (okb b4)) rfl (fun w' hw' => Yld.pure tab_ok rfl) ?_
        refine WJ.yw rfl (wants_some rfl rfl (okb b4)) rfl (fun w' hw' => Yld.bload tab_ok (hw' rfl).2.1 rfl rfl rfl) ?_
        refine WJ.yw rfl (wants_some rfl rfl (okb b4)) rfl (fun w' hw' => Yld.pure tab_ok rfl) ?_
        refine WJ.yw rfl (wants_some rfl rfl (okb b4)) rfl (fun w' hw' => Yld.bload tab_ok (hw' rfl).1 rfl rfl rfl) ?_
        refine WJ.yw rfl (wants_some rfl rfl (okb b4)) rfl (fun w' hw' => Yld.plook (keyF_s Tryd.underlying9) Tryd.underlying122 (fun _ => by kernel_rfl) (hw' rfl).2.2 rfl rfl (h2 b4)) ?_
        refine WJ.yw rfl (wants_some rfl rfl (okb b4)) rfl (fun w' hw' => Yld.pneP Tryd.underlying125 k10 rfl rfl) ?_
        refine WJ.y rfl rfl (fun w' hw' => Yld.pickF (okb b4) rfl) ?_
        exact WJ.weaken (by repeat (first | exact Sub.nil | refine Sub.cons rfl ?_)) (hQ _ _ ⟨(mget t90 ((files.getD t12.toNat ([], [])).1)).isSome, rfl, by rw [b4] <;> rfl, rfl⟩)
  · replace H := H.2 (of_decide_eq_false b1)
    refine WC.exit (WX.then_exit (WX.then_exit (WX.block_same (WX.then_normal ?_))))
    refine WC.seq ?_
    refine WC.seq ?_
    refine WC.region ?_
    refine WL.y rfl (Yld.pure tab_ok rfl) ?_
    refine WL.y rfl (Yld.pure tab_ok rfl) ?_
    refine WL.y rfl (Yld.pure tab_ok rfl) ?_
    refine WL.nil (WX.then_normal ?_)
    refine WC.cond rfl (fun b5 => ?_) (fun b5 => ?_)
    · replace H := H.1 (of_decide_eq_true b5)
      refine WC.seq ?_
      refine WC.quiet mixed (by kernel_rfl) ?_
      obtain ⟨vE2, _, hE2⟩ := GOK.get (hG.grown gr3) 9 1 hS9 rfl rfl
      refine WQ.y rfl (Yld.cell tab_ok (ErrR.cell hE2 rfl) rfl rfl) ?_
      refine WQ.y rfl (Yld.pure tab_ok rfl) ?_
      refine WQ.y rfl (Yld.pure tab_ok rfl) ?_
      refine WQ.nil (WX.then_normal ?_)
      refine WC.ret (WX.then_ret ?_)
      exact WX.ret2 rfl rfl rfl ⟨gr3, Or.inl ⟨vE2, (Er.e 9), rfl, hE2, H⟩⟩
    · replace H := H.2 (of_decide_eq_false b5)
      refine WC.skip (WX.then_normal ?_)
      refine WC.seq ?_
      refine WC.region ?_
      refine WL.y rfl (Yld.pure tab_ok rfl) ?_
      refine WL.y rfl (Yld.pure tab_ok rfl) ?_
      refine WL.y rfl (Yld.pure tab_ok rfl) ?_
      refine WL.nil (WX.then_normal ?_)
      refine WC.ret ?_
      exact WX.ret2 rfl rfl rfl ⟨gr3, Or.inr ⟨g1, w.heap.size, hs_t90, t90, (0 : Int), (0 : Int), false, .nilIface, Er.ok, rfl, (ErrR.okR (S := S) (w := w3)), k4, hi1, k3, (Ge.le (Ge.box hl2) (size_le gr1)), dj1, H⟩⟩

end Go.Proofs.YtlonpmajnglmoaaDoor

 /- Paths, plainly: cut at slashes, fair parts, what is valid. -/
namespace Go.Proofs.YtlonpmajnglmoaaDoor
open Go Go.RowKit
def cuts : List UInt8 → List (List UInt8)
  | [] => [[]]
  | c :: s => if c = 47 then [] :: cuts s else match cuts s with
    | [] => [[c]]
    | h :: t => (c :: h) :: t
theorem cuts_ne (s : List UInt8) : cuts s ≠ [] := by
  cases s with
  | nil => simp [cuts]
  | cons c s =>
    unfold cuts
    split
    · simp
    · split <;> simp
theorem split_cuts : ∀ s : List UInt8, Lib.split s [47] = cuts s
  | [] => by simp [Lib.split, Lib.count_miss, Lib.index, Lib.splitK, cuts]
  | c :: s => by
    have ih := split_cuts s
    unfold Lib.split at ih ⊢
    by_cases hc : c = 47
    · subst hc
      have hix : Lib.index (47 :: s) [47] = 0 := by rw [Lib.index]; simp [List.isPrefixOf]
      rw [Lib.count_cons_eq, Nat.add_comm, Lib.splitK, if_neg (by rw [hix]; decide), hix]
      simp only [cuts, if_true]
      rw [← ih]
      simp
    · have hp : ([47] : List UInt8).isPrefixOf (c :: s) = false := by simp [List.isPrefixOf, Ne.symm hc]
      have hix : Lib.index (c :: s) [47] = if Lib.index s [47] == -1 then -1 else Lib.index s [47] + 1 := by rw [Lib.index, hp]; simp
      rw [Lib.count_cons_ne c 47 s hc]
      simp only [cuts, if_neg hc]
      rw [← ih]
      cases hk : Lib.count s [47] with
      | zero => simp [Lib.splitK]
      | succ k =>
        have hne : Lib.index s [47] ≠ -1 := fun e => by rw [Lib.count_miss e] at hk; cases hk
        have hge := Lib.index_ge s [47]
        obtain ⟨j, hj⟩ : ∃ j : Nat, Lib.index s [47] = j := ⟨(Lib.index s [47]).toNat, by omega⟩
        have hix' : Lib.index (c :: s) [47] = ((j + 1 : Nat) : Int) := by rw [hix, if_neg (fun e => hne (beq_iff_eq.1 e)), hj]; omega
        rw [Lib.splitK, Lib.splitK, if_neg (fun e => hne (beq_iff_eq.1 e)), if_neg (by rw [hix']; simp; omega), hix', hj]
        simp
theorem splitL_cuts (s : List UInt8) : splitL [47] s = cuts s := split_cuts s
theorem cuts_length (s : List UInt8) : (cuts s).length ≤ s.length + 1 := by
  induction s with
  | nil => simp [cuts]
  | cons c s ih =>
    unfold cuts
    split
    · simp; omega
    · split
      · simp
      · rename_i h t e; rw [e] at ih; simp at ih ⊢; omega
theorem split_M {s : List UInt8} {K : List (List UInt8) → Prop} (hs : s.length ≤ 4000000000) (h : K (cuts s)) : M_strings_Split s [47] K :=
  ⟨by omega, by simp, by rw [splitL_cuts]; exact h⟩
/-- a byte that may be in a part -/
def letB (c : UInt8) : Bool := (((decide (48 ≤ c.toNat) && decide (c.toNat ≤ 57)) || (decide (65 ≤ c.toNat) && decide (c.toNat ≤ 90))) || (decide (97 ≤ c.toNat) && decide (c.toNat ≤ 122))) || ([33, 35, 37, 43, 44, 45, 46, 61, 64, 95, 126] : List UInt8).contains c
theorem indexByte_contains (l : List UInt8) (c : UInt8) : decide (0 ≤ Lib.indexByte l c) = l.contains c := by
  induction l with
  | nil => simp [Lib.indexByte]
  | cons b l ih =>
    unfold Lib.indexByte
    by_cases h : b = c
    · subst h; simp
    · have hge := Lib.indexByte_ge l c
      rw [if_neg (by simpa using h)]
      have hc : (b :: l).contains c = l.contains c := by simp [Ne.symm h]
      rw [hc, ← ih]
      by_cases h1 : Lib.indexByte l c = -1
      · rw [if_pos (by simpa using h1), h1]
      · rw [if_neg (by simpa using h1), decide_eq_decide]; omega
theorem letter_M {c : UInt8} {K : Bool → Prop} (h : K (letB c)) : M_path_letter (c.toNat : Int) K := by
  have e : ((((decide ((48 : Int) ≤ (c.toNat : Int))) && (decide ((c.toNat : Int) ≤ (57 : Int)))) || ((decide ((65 : Int) ≤ (c.toNat : Int))) && (decide ((c.toNat : Int) ≤ (90 : Int))))) || ((decide ((97 : Int) ≤ (c.toNat : Int))) && (decide ((c.toNat : Int) ≤ (122 : Int))))) = (((decide (48 ≤ c.toNat) && decide (c.toNat ≤ 57)) || (decide (65 ≤ c.toNat) && decide (c.toNat ≤ 90))) || (decide (97 ≤ c.toNat) && decide (c.toNat ≤ 122))) := by
    have d : ∀ a b : Nat, decide ((a : Int) ≤ (b : Int)) = decide (a ≤ b) := fun a b => by rw [decide_eq_decide]; omega
    have d1 : decide ((48 : Int) ≤ (c.toNat : Int)) = decide (48 ≤ c.toNat) := d 48 c.toNat
    have d2 : decide ((c.toNat : Int) ≤ (57 : Int)) = decide (c.toNat ≤ 57) := d c.toNat 57
    have d3 : decide ((65 : Int) ≤ (c.toNat : Int)) = decide (65 ≤ c.toNat) := d 65 c.toNat
    have d4 : decide ((c.toNat : Int) ≤ (90 : Int)) = decide (c.toNat ≤ 90) := d c.toNat 90
    have d5 : decide ((97 : Int) ≤ (c.toNat : Int)) = decide (97 ≤ c.toNat) := d 97 c.toNat
    have d6 : decide ((c.toNat : Int) ≤ (122 : Int)) = decide (c.toNat ≤ 122) := d c.toNat 122
    rw [d1, d2, d3, d4, d5, d6]
  unfold M_path_letter
  rw [e]
  unfold letB at h
  refine ⟨fun h1 => ?_, fun h1 => ?_⟩
  · rw [h1] at h; exact h
  · rw [h1, Bool.false_or] at h
    unfold M_strings_IndexByte
    rw [show ((c.toNat : Int).toNat.toUInt8) = c by simp]
    show K (decide (0 ≤ Lib.indexByte _ _))
    rw [indexByte_contains]
    exact h
def dotsB (s : List UInt8) : Bool := (decide (s = []) || decide (s = [46])) || decide (s = [46, 46])
def fairB (s : List UInt8) : Bool := s.all letB && !dotsB s
theorem take_all_succ {p : UInt8 → Bool} {s : List UInt8} {k : Nat} (h : (s.take k).all p = true) (hk : k < s.length) (hp : p (s.getD k 0) = true) : (s.take (k + 1)).all p = true := by
  rw [List.take_succ_eq_append_getElem hk, List.all_append, h]
  simpa [List.getD, hk] using hp
theorem fair_M {s : List UInt8} {K : Bool → Prop} (hs : s.length ≤ 4000000000) (h : K (fairB s)) : M_path_fair s K := by
  unfold M_path_fair
  refine ⟨fun i => ∃ k : Nat, i = k ∧ k ≤ s.length ∧ (s.take k).all letB = true, fun i => (s.length - i.toNat), ⟨0, rfl, by omega, by simp⟩, ?_⟩
  rintro _ ⟨k, rfl, hk, hall⟩
  refine ⟨fun hlt => ⟨by omega, letter_M ?_⟩, fun hge => ?_⟩
  · have hk' : k < s.length := by omega
    rw [Int.toNat_natCast]
    cases hl : letB (s.getD k 0) with
    | false =>
      refine ⟨fun _ => ?_, fun h1 => by simp at h1⟩
      have : s.all letB = false := by
        rw [List.all_eq_false]
        exact ⟨s.getD k 0, by simp [List.getD, hk'], by rw [hl]; simp⟩
      unfold fairB at h
      rw [this] at h
      exact h
    | true => exact ⟨fun h1 => by simp at h1, fun _ => ⟨by simp only [In]; omega, ⟨k + 1, by omega, by omega, take_all_succ hall hk' hl⟩, by dsimp only; omega⟩⟩
  · obtain rfl : k = s.length := by omega
    rw [List.take_length] at hall
    unfold fairB at h
    rw [hall, Bool.true_and] at h
    exact h
def validB (p : List UInt8) : Bool := decide (p.length ≤ 200) && (cuts p).all fairB
theorem cuts_part {s x : List UInt8} (h : x ∈ cuts s) : x.length ≤ s.length := by
  induction s generalizing x with
  | nil => simp [cuts] at h; subst h; simp
  | cons c s ih =>
    unfold cuts at h
    split at h
    · rcases List.mem_cons.1 h with rfl | h
      · simp
      · have := ih h; simp; omega
    · split at h
      · rename_i e; exact absurd e (cuts_ne s)
      · rename_i y t e
        rcases List.mem_cons.1 h with rfl | h
        · have := ih (x := y) (by rw [e]; simp); simp; omega
        · have := ih (x := x) (by rw [e]; simp [h]); simp; omega
theorem getD_mem {α : Type} {l : List α} {k : Nat} {d : α} (h : k < l.length) : l.getD k d ∈ l := by
  simp [List.getD, h]
theorem valid_M {p : List UInt8} {K : Bool → Prop} (hp : p.length ≤ 4000000000) (h : K (validB p)) : M_path_Valid p K := by
  unfold M_path_Valid
  unfold validB at h
  refine ⟨fun h1 => ?_, fun h1 => split_M hp ?_⟩
  · rw [decide_eq_false (by omega : ¬ p.length ≤ 200)] at h; exact h
  rw [decide_eq_true (by omega : p.length ≤ 200), Bool.true_and] at h
  refine ⟨fun i => ∃ k : Nat, i = k ∧ k ≤ (cuts p).length ∧ ((cuts p).take k).all fairB = true, fun i => ((cuts p).length - i.toNat), ⟨0, rfl, by omega, by simp⟩, ?_⟩
  have hcl := cuts_length p
  rintro _ ⟨k, rfl, hk, hall⟩
  refine ⟨fun hlt => ⟨by omega, ?_⟩, fun hge => ?_⟩
  · have hk' : k < (cuts p).length := by omega
    rw [Int.toNat_natCast]
    have hm : (cuts p).getD k [] ∈ cuts p := getD_mem hk'
    have hx := cuts_part hm
    refine fair_M (by omega) ?_
    cases hl : fairB ((cuts p).getD k []) with
    | false =>
      refine ⟨fun _ => ?_, fun h1 => by simp at h1⟩
      have : (cuts p).all fairB = false := by
        rw [List.all_eq_false]
        exact ⟨_, hm, by rw [hl]; simp⟩
      rw [this] at h
      exact h
    | true =>
      refine ⟨fun h1 => by simp at h1, fun _ => ⟨by simp only [In]; omega, ⟨k + 1, by omega, by omega, ?_⟩, by dsimp only; omega⟩⟩
      rw [List.take_succ_eq_append_getElem hk', List.all_append, hall]
      simpa [List.getD, hk'] using hl
  · obtain rfl : k = (cuts p).length := by omega
    rw [List.take_length] at hall
    rw [hall] at h
    exact h
end Go.Proofs.YtlonpmajnglmoaaDoor


 /- Patterns, plainly: one table for bytes and for parts. -/
namespace Go.Proofs.YtlonpmajnglmoaaDoor
open Go Go.RowKit
section
variable (star : Nat → Bool) (eq : Nat → Nat → Bool) (i j : Nat)
end
def bt (p : List UInt8) (i : Nat) : UInt8 := p.getD i 0
def RowIs (d : Nat → Bool) (n k : Nat) (xs : List Bool) : Prop := xs.length = n + 1 ∧ ∀ j, j < k → xs.getD j false = d j
theorem getD_set {xs : List Bool} {a j : Nat} {v : Bool} (h : a < xs.length) : (xs.set a v).getD j false = if j = a then v else xs.getD j false := by
  by_cases e : j = a
  · subst e; simp [List.getD, h]
  · simp [List.getD, List.getElem?_set, Ne.symm e, e]
theorem RowIs.next {d : Nat → Bool} {n k : Nat} {xs : List Bool} {v : Bool} (h : RowIs d n k xs) (hk : k ≤ n) (hv : v = d k) : RowIs d n (k + 1) (xs.set k v) :=
  ⟨by rw [List.length_set]; exact h.1, fun j hj => by
    rw [getD_set (by rw [h.1]; omega)]
    split
    · rename_i e; rw [e]; exact hv
    · exact h.2 j (by omega)⟩
end Go.Proofs.YtlonpmajnglmoaaDoor


 /- Paths, plainly: clean, match. -/
namespace Go.Proofs.YtlonpmajnglmoaaDoor
open Go Go.RowKit
/-- Clean's loop -/
def cl (l : List (List UInt8)) : List (List UInt8) → Option (List (List UInt8))
  | [] => some l
  | x :: r => if decide (x = []) || decide (x = [46]) then cl l r else if decide (x = [46, 46]) && decide (0 < l.length) then cl (l.take (l.length - 1)) r else if fairB x then cl (l ++ [x]) r else none
end Go.Proofs.YtlonpmajnglmoaaDoor


 /- Texts in order, each once: plain, no program. -/
namespace Go.Proofs.YtlonpmajnglmoaaDoor
open Go
abbrev Bs := List UInt8
def sortB (l : List Bs) : List Bs := l.mergeSort fun x y => decide (x ≤ y)
theorem sortB_le (l : List Bs) : (sortB l).Pairwise (· ≤ ·) := by
  have h := List.pairwise_mergeSort (le := fun (x y : Bs) => decide (x ≤ y)) (fun a b c h k => by
    simp only [decide_eq_true_eq] at h k ⊢
    exact List.le_trans h k) (fun a b => by
    simp only [Bool.or_eq_true, decide_eq_true_eq]
    exact List.le_total a b) l
  exact h.imp fun h => by simpa using h
theorem sortB_mem (l : List Bs) (x : Bs) : x ∈ sortB l ↔ x ∈ l := (List.mergeSort_perm l _).mem_iff
end Go.Proofs.YtlonpmajnglmoaaDoor


 /- Lines, plainly; sorting, plainly. -/
namespace Go.Proofs.YtlonpmajnglmoaaDoor
open Go Go.RowKit
/-! sorting -/
theorem sorted_uniq : ∀ {a b : List Bs}, a.Pairwise (· ≤ ·) → b.Pairwise (· ≤ ·) → a.Perm b → a = b
  | [], b, _, _, h => h.nil_eq.symm ▸ rfl
  | x :: a, [], _, _, h => absurd h.eq_nil (by simp)
  | x :: a, y :: b, ha, hb, h => by
    have ha' := List.pairwise_cons.1 ha
    have hb' := List.pairwise_cons.1 hb
    have h1 : y ≤ x := by
      rcases List.mem_cons.1 (h.mem_iff.1 (List.mem_cons_self (a := x) (l := a))) with e | e
      · rw [e]; exact List.le_refl _
      · exact hb'.1 x e
    have h2 : x ≤ y := by
      rcases List.mem_cons.1 (h.mem_iff.2 (List.mem_cons_self (a := y) (l := b))) with e | e
      · rw [e]; exact List.le_refl _
      · exact ha'.1 y e
    obtain rfl : x = y := List.le_antisymm h2 h1
    rw [sorted_uniq ha'.2 hb'.2 h.cons_inv]
theorem sortB_perm (l : List Bs) : (sortB l).Perm l := List.mergeSort_perm l _
theorem sortB_of {a l : List Bs} (h : a.Pairwise (· ≤ ·)) (k : a.Perm l) : a = sortB l := sorted_uniq h (sortB_le l) (k.trans (sortB_perm l).symm)
theorem sortB_congr {a b : List Bs} (h : a.Perm b) : sortB a = sortB b := sortB_of (sortB_le a) ((sortB_perm a).trans h)
end Go.Proofs.YtlonpmajnglmoaaDoor


 /- smithysee.Is, plainly. -/
namespace Go.Proofs.YtlonpmajnglmoaaDoor
open Go Go.RowKit
def isB : Er → Int → Bool
  | .ok, c => decide (0 = c)
  | .e n, c => decide (101 + (n : Int) = c)
  | .at_ _ _, _ => false
theorem is_M {e : Er} {code : Int} {K : Bool → Prop} (h : K (isB e code)) : M_smithysee_Is e code K := by
  unfold M_smithysee_Is M_smithyref_Bare M_smithysee_Same M_smithysee_Fault M_smithyref_None M_smithyref_SameFault M_smithysee_placed M_smithysee_sentinel M_smithyref_Bare M_smithyref_Placed M_smithyref_None
  cases e with
  | ok => refine ⟨fun _ => ?_, fun h2 => absurd rfl h2⟩; exact (congrArg K (show isB .ok code = _ by simp [isB])).mp h
  | e n => refine ⟨fun h2 => (by cases h2), fun _ => ⟨fun p m h2 => (by cases h2), fun _ => ?_⟩⟩; exact (congrArg K (show isB (.e n) code = _ by rw [Bool.eq_iff_iff]; simp [isB, sentV]; exact decide_eq_true_iff.symm)).mp h
  | at_ p n =>
    refine ⟨fun h2 => (by cases h2), fun _ => ⟨fun p' m h2 => ?_, fun h2 => absurd rfl (h2 p n)⟩⟩
    cases h2
    refine ⟨fun h2 => (by simp at h2), fun _ => ⟨fun h2 => (by simp only [sentV] at h2; omega), fun _ => ?_⟩⟩
    exact (congrArg K (show isB (.at_ p n) code = _ by simp [isB])).mp h
end Go.Proofs.YtlonpmajnglmoaaDoor


 /- A disk, plainly: what its calls come to. -/
namespace Go.Proofs.YtlonpmajnglmoaaDoor
open Go Go.RowKit
abbrev DF := List (List UInt8 × Fil)
def fz : Fil := ([], false, [], false, [])
/-- a file's record, or the empty one -/
def fil (fs : DF) (p : List UInt8) : Fil := (mget fs p).getD fz
theorem fil_put (fs : DF) (p q : List UInt8) (x : Fil) : fil (mput fs p x) q = if p = q then x else fil fs q := by
  unfold fil
  rw [mget_mput]
  split <;> rfl
theorem mput_mput {κ ν : Type} [DecidableEq κ] (k : κ) (v v' : ν) : ∀ m : List (κ × ν), mput (mput m k v) k v' = mput m k v'
  | [] => by simp [mput]
  | p :: m => by
    by_cases h : p.1 = k
    · simp [mput, h]
    · simp [mput, h, mput_mput k v v' m]
theorem eraseIdx_perm {α : Type} : ∀ (l : List α) (i : Nat) (h : i < l.length), l.Perm (l[i] :: l.eraseIdx i)
  | [], _, h => by simp at h
  | x :: l, 0, _ => List.Perm.refl _
  | x :: l, i + 1, h => ((eraseIdx_perm l i (by simpa using h)).cons x).trans (List.Perm.swap _ _ _)
def thereB (fs : DF) (p : List UInt8) : Bool := (fil fs p).2.1
theorem there_eq (fs : DF) (p : List UInt8) : ((mget fs p).isSome && ((mget fs p).getD fz).2.1) = thereB fs p := by
  unfold thereB fil
  cases mget fs p <;> rfl
theorem there_some {fs : DF} {p : List UInt8} (h : thereB fs p = true) : (mget fs p).isSome = true := by
  unfold thereB fil at h
  cases e : mget fs p with
  | none => rw [e] at h; cases h
  | some x => rfl
/-- a call is counted: the error, and what the counters are then -/
def dcall (ops left : Int) (down : Bool) : Er × Int × Int × Bool :=
  if down then (.e 15, ops, left, true) else if 0 < left then (if left = 1 then (.e 15, ops + 1, 0, true) else (.ok, ops + 1, left - 1, false)) else (.ok, ops + 1, left, false)
theorem call_M {fs : DF} {ops left : Int} {down : Bool} {K : Er → DF → Int → Int → Bool → Prop} (h0 : 0 ≤ ops) (h1 : ops ≤ 1000000000) (hl : left ≤ 1000000000) (h : K (dcall ops left down).1 fs (dcall ops left down).2.1 (dcall ops left down).2.2.1 (dcall ops left down).2.2.2) : M_pdisk_Disk_call fs ops left down K := by
  refine ⟨fun hd => ?_, fun hd => ⟨by simp only [In]; omega, fun d => d = (if 0 < left then left - 1 else left) ∧ ¬ (0 < left ∧ left = 1), ⟨fun hp => ⟨by simp only [In]; omega, fun h1' => ?_, fun hne => ?_⟩, fun hp => ?_⟩, fun d2 ⟨e, hn⟩ => ?_⟩⟩
  · subst hd; simpa [dcall] using h
  · have e : left = 1 := by omega
    subst hd; subst e; simpa [dcall] using h
  · exact ⟨by rw [if_pos hp], by omega⟩
  · exact ⟨by rw [if_neg hp], by omega⟩
  · subst hd
    subst e
    unfold dcall at h
    by_cases hp : 0 < left
    · have hne : left ≠ 1 := by omega
      simpa [hp, hne] using h
    · simpa [hp] using h
theorem dthere_M {fs : DF} {ops left : Int} {down : Bool} {p : List UInt8} {K : Bool → Prop} (hp : p.length ≤ maxLen) (h : K (thereB fs p)) : M_pdisk_Disk_there fs ops left down p K := by
  refine ⟨hp, fun _ => hp, fun h => h, ?_⟩
  rw [show (([], false, [], false, []) : Fil) = fz from rfl, there_eq]
  exact h
theorem known_M {fs : DF} {ops left : Int} {down : Bool} {p : List UInt8} {K : DF → Int → Int → Bool → Prop} (hp : p.length ≤ maxLen) (hf : fs.length < maxLen) (h : ∀ fs', (∀ x, mput fs' p x = mput fs p x) → (mget fs' p).isSome = true → fil fs' p = fil fs p → K fs' ops left down) : M_pdisk_Disk_known fs ops left down p K := by
  refine ⟨fun f => (∀ x, mput f p x = mput fs p x) ∧ (mget f p).isSome = true ∧ fil f p = fil fs p, ⟨hp, fun hn => ⟨⟨hp, hf⟩, fun x => mput_mput _ _ _ _, ?_, ?_⟩, fun hn => ⟨fun _ => rfl, isSome_of hn, rfl⟩⟩, fun d ⟨h1, h2, h3⟩ => ⟨hp, h d h1 h2 h3⟩⟩
  · rw [mget_same]; rfl
  · rw [fil_put, if_pos rfl]
    unfold fil
    rw [Option.isNone_iff_eq_none.1 hn]; rfl
/-- the paths of the files that are there -/
def pathsP (fs : DF) : List (List UInt8) := sortB ((fs.map (·.1)).filter fun k => thereB fs k)
theorem paths_M {fs : DF} {ops left : Int} {down : Bool} {K : List (List UInt8) → Prop} (hf : fs.length ≤ 1000000) (h : K (pathsP fs)) : M_pdisk_Disk_paths fs ops left down K := by
  refine ⟨fun l todo => (l ++ todo.filter fun k => thereB fs k).Perm ((fs.map (·.1)).filter fun k => thereB fs k) ∧ l.length + todo.length ≤ fs.length ∧ ∀ k ∈ todo, k ∈ fs.map (·.1), fun _ todo => todo.length, ⟨by simp, by simp, fun k hk => hk⟩, fun l todo ⟨a0, a1, a2⟩ => ⟨fun he => ?_, fun ix key hq => ?_⟩⟩
  · subst he
    refine ⟨by simp only [List.length_nil] at a1; omega, ?_⟩
    have := sortB_congr (by simpa using a0 : l.Perm _)
    unfold sortB at this
    rw [this]
    exact h
  · obtain ⟨hi, rfl⟩ := List.getElem?_eq_some_iff.1 hq
    have hmem := a2 _ (List.getElem_mem hi)
    have hp : todo.Perm (todo[ix] :: todo.eraseIdx ix) := eraseIdx_perm todo ix hi
    have hlen : (todo.eraseIdx ix).length + 1 = todo.length := by rw [List.length_eraseIdx_of_lt hi]; omega
    have hsome : (mget fs todo[ix]).isSome = true := by
      obtain ⟨p, hp, e⟩ := List.mem_map.1 hmem
      cases hm : mget fs todo[ix] with
      | some x => rfl
      | none => exact absurd e (mget_none.1 hm p hp)
    refine ⟨hsome, fun ht => ⟨by simp; omega, ⟨?_, by simp; omega, fun k hk => a2 k (List.mem_of_mem_eraseIdx hk)⟩, by (try dsimp only); omega⟩, fun ht => ⟨⟨?_, by omega, fun k hk => a2 k (List.mem_of_mem_eraseIdx hk)⟩, by (try dsimp only); omega⟩⟩
    · have ht' : thereB fs todo[ix] = true := ht
      refine List.Perm.trans ?_ a0
      rw [List.append_assoc]
      refine List.Perm.append_left l ?_
      refine List.Perm.trans ?_ (hp.filter _).symm
      rw [List.filter_cons, if_pos ht']
      rfl
    · have ht' : thereB fs todo[ix] = false := ht
      refine List.Perm.trans (List.Perm.append_left l ?_) a0
      refine List.Perm.trans ?_ (hp.filter _).symm
      rw [List.filter_cons, if_neg (by rw [ht']; simp)]
theorem count_M {fs : DF} {ops left : Int} {down : Bool} {K : Int → Prop} (hf : fs.length ≤ 1000000) (h : K ((pathsP fs).length : Int)) : M_pdisk_Disk_count fs ops left down K := paths_M hf h
theorem pathsP_len (fs : DF) : (pathsP fs).length ≤ fs.length := by
  unfold pathsP sortB
  rw [List.length_mergeSort]
  exact Nat.le_trans (List.length_filter_le _ _) (by simp)
theorem dread_M {fs : DF} {ops left : Int} {down : Bool} {p : List UInt8} {K : List UInt8 → Bool → Er → DF → Int → Int → Bool → Prop} (hp : p.length ≤ maxLen) (h0 : 0 ≤ ops) (h1 : ops ≤ 1000000000) (hl : left ≤ 1000000000)
    (h : ∀ o l d, (∀ e, dcall ops left down = (e, o, l, d) → e ≠ .ok → K [] false e fs o l d) ∧ (dcall ops left down = (.ok, o, l, d) → thereB fs p = true → K (fil fs p).1 true .ok fs o l d) ∧ (dcall ops left down = (.ok, o, l, d) → thereB fs p = false → K [] false .ok fs o l d)) : M_pdisk_Disk_Read fs ops left down p K := by
  refine call_M h0 h1 hl ?_
  rcases hc : dcall ops left down with ⟨e, o, l, d⟩
  obtain ⟨k1, k2, k3⟩ := h o l d
  by_cases he : e = .ok
  · subst he
    refine ⟨fun b => b = !thereB fs p, ⟨fun hn => by simp at hn, fun _ => dthere_M hp rfl⟩, fun q hq => ⟨fun ht => k3 hc (by rw [hq] at ht; simpa using ht), fun hf => ?_⟩⟩
    have ht : thereB fs p = true := by rw [hq] at hf; simpa using hf
    exact ⟨hp, there_some ht, k2 hc ht⟩
  · refine ⟨fun b => b = true, ⟨fun _ => rfl, fun hn => absurd (by simpa using hn) he⟩, fun q hq => ⟨fun _ => k1 e hc he, fun hf => (by rw [hq] at hf; cases hf)⟩⟩
/-- what laying a text comes to, when the power is there -/
def dlay (fs : DF) (p text : List UInt8) (kind : Int) : Er × DF :=
  let t := if kind = 1 ∧ thereB fs p = true then (fil fs p).1 ++ text else text
  if validB p = false ∨ 65536 < t.length then (.e 11, fs)
  else if thereB fs p = false ∧ 2000 ≤ (pathsP fs).length then (.e 9, fs)
  else (.ok, mput fs p (t, true, (fil fs p).2.2.1, (fil fs p).2.2.2.1, (fil fs p).2.2.2.2 ++ [(kind, text)]))
theorem put_M {fs : DF} {ops left : Int} {down : Bool} {p text : List UInt8} {kind : Int} {K : Er → DF → Int → Int → Bool → Prop} (hp : p.length ≤ 1000000) (h0 : 0 ≤ ops) (h1 : ops ≤ 1000000000) (hl : left ≤ 1000000000) (hf : fs.length ≤ 1000000) (ht : text.length ≤ 1000000) (hx : (fil fs p).1.length ≤ 1000000) (hs : (fil fs p).2.2.2.2.length ≤ 1000000)
    (h : ∀ o l d, (∀ e, dcall ops left down = (e, o, l, d) → e ≠ .ok → K e fs o l d) ∧ (dcall ops left down = (.ok, o, l, d) → K (dlay fs p text kind).1 (dlay fs p text kind).2 o l d)) : M_pdisk_Disk_put fs ops left down p text kind text K := by
  refine call_M h0 h1 hl ?_
  rcases hc : dcall ops left down with ⟨e, o, l, d⟩
  obtain ⟨k1, k2⟩ := h o l d
  refine ⟨fun hne => k1 e hc hne, fun he => ?_⟩
  dsimp only at he
  subst he
  have k2 := k2 hc
  have hpm : p.length ≤ maxLen := by unfold maxLen; omega
  refine ⟨fun t => t = (if kind = 1 ∧ thereB fs p = true then (fil fs p).1 ++ text else text), ⟨fun b => b = (decide (kind = 1) && thereB fs p), ⟨fun hk => dthere_M hpm (by rw [hk]; rfl), fun hk => by rw [hk]; rfl⟩, fun q hq => ⟨fun hq1 => ?_, fun hq0 => ?_⟩⟩, fun t hte => ?_⟩
  · rw [hq, Bool.and_eq_true, decide_eq_true_eq] at hq1
    refine ⟨hpm, there_some hq1.2, ?_, ?_⟩
    · show (fil fs p).1.length + _ ≤ _; omega
    · rw [if_pos hq1]; rfl
  · rw [hq] at hq0
    have : ¬ (kind = 1 ∧ thereB fs p = true) := fun ⟨a, b⟩ => by rw [b, decide_eq_true a] at hq0; cases hq0
    rw [if_neg this]
  · have htl : t.length ≤ 2000000 := by
      rw [hte]; split
      · rw [List.length_append]; omega
      · omega
    unfold dlay at k2
    simp only [← hte] at k2
    refine valid_M (by omega) ⟨fun hb => ?_, fun hb => dthere_M hpm ?_⟩
    · rw [Bool.or_eq_true, Bool.not_eq_true', decide_eq_true_eq] at hb
      have : validB p = false ∨ 65536 < t.length := hb.imp id fun h => by omega
      rw [if_pos this] at k2
      exact k2
    · rw [Bool.or_eq_false_iff, Bool.not_eq_false', decide_eq_false_iff_not] at hb
      have : ¬ (validB p = false ∨ 65536 < t.length) := fun h => h.elim (fun h => by rw [hb.1] at h; cases h) (fun h => by omega)
      rw [if_neg this] at k2
      refine ⟨fun b => b = (!thereB fs p && decide (2000 ≤ (pathsP fs).length)), ⟨fun hn => count_M hf ?_, fun hn => by rw [hn]; rfl⟩, fun q hq => ⟨fun hq1 => ?_, fun hq0 => ?_⟩⟩
      · rw [hn, Bool.true_and]
        apply Bool.eq_iff_iff.2
        simp only [decide_eq_true_eq]; omega
      · rw [hq, Bool.and_eq_true, Bool.not_eq_true', decide_eq_true_eq] at hq1
        rw [if_pos hq1] at k2
        exact k2
      · rw [hq] at hq0
        have : ¬ (thereB fs p = false ∧ 2000 ≤ (pathsP fs).length) := fun ⟨a, b⟩ => by rw [a, decide_eq_true b] at hq0; cases hq0
        rw [if_neg this] at k2
        refine known_M hpm (by unfold maxLen; omega) fun fs' g1 g2 g3 => ⟨g2, ?_, ?_⟩
        · have : ((mget fs' p).getD ([], false, [], false, [])).2.2.2.2 = (fil fs p).2.2.2.2 := by rw [← g3]; rfl
          rw [this]; simp; omega
        · have e : (mget fs' p).getD ([], false, [], false, []) = fil fs p := g3
          rw [e, g1]
          exact k2
def dremove (fs : DF) (p : List UInt8) : Er × DF :=
  if validB p = false then (.e 11, fs) else (.ok, if thereB fs p = true then mput fs p ([], false, (fil fs p).2.2.1, (fil fs p).2.2.2.1, (fil fs p).2.2.2.2 ++ [(2, [])]) else fs)
theorem remove_M {fs : DF} {ops left : Int} {down : Bool} {p : List UInt8} {K : Er → DF → Int → Int → Bool → Prop} (hp : p.length ≤ 1000000) (h0 : 0 ≤ ops) (h1 : ops ≤ 1000000000) (hl : left ≤ 1000000000) (hs : (fil fs p).2.2.2.2.length ≤ 1000000)
    (h : ∀ o l d, (∀ e, dcall ops left down = (e, o, l, d) → e ≠ .ok → K e fs o l d) ∧ (dcall ops left down = (.ok, o, l, d) → K (dremove fs p).1 (dremove fs p).2 o l d)) : M_pdisk_Disk_Remove fs ops left down p K := by
  refine call_M h0 h1 hl ?_
  rcases hc : dcall ops left down with ⟨e, o, l, d⟩
  obtain ⟨k1, k2⟩ := h o l d
  refine ⟨fun hne => k1 e hc hne, fun he => ?_⟩
  dsimp only at he
  subst he
  have k2 := k2 hc
  have hpm : p.length ≤ maxLen := by unfold maxLen; omega
  unfold dremove at k2
  refine valid_M (by omega) ⟨fun hb => ?_, fun hb => ?_⟩
  · have : validB p = false := by simpa using hb
    rw [if_pos this] at k2
    exact k2
  · have : ¬ validB p = false := by simpa using hb
    rw [if_neg this] at k2
    refine ⟨fun f => f = (if thereB fs p = true then mput fs p ([], false, (fil fs p).2.2.1, (fil fs p).2.2.2.1, (fil fs p).2.2.2.2 ++ [(2, [])]) else fs), dthere_M hpm ⟨fun ht => ⟨hpm, there_some ht, ?_, by rw [if_pos ht]; rfl⟩, fun ht => by rw [if_neg (by rw [ht]; simp)]⟩, fun f hf => by rw [hf]; exact k2⟩
    show ((fil fs p).2.2.2.2.length + _) * 24 ≤ _
    simp; omega
def dsync (fs : DF) (p : List UInt8) : Er × DF :=
  if validB p = false then (.e 11, fs) else (.ok, if (mget fs p).isSome = true then mput fs p ((fil fs p).1, (fil fs p).2.1, (fil fs p).1, (fil fs p).2.1, []) else fs)
theorem sync_M {fs : DF} {ops left : Int} {down : Bool} {p : List UInt8} {K : Er → DF → Int → Int → Bool → Prop} (hp : p.length ≤ 1000000) (h0 : 0 ≤ ops) (h1 : ops ≤ 1000000000) (hl : left ≤ 1000000000)
    (h : ∀ o l d, (∀ e, dcall ops left down = (e, o, l, d) → e ≠ .ok → K e fs o l d) ∧ (dcall ops left down = (.ok, o, l, d) → K (dsync fs p).1 (dsync fs p).2 o l d)) : M_pdisk_Disk_Sync fs ops left down p K := by
  refine call_M h0 h1 hl ?_
  rcases hc : dcall ops left down with ⟨e, o, l, d⟩
  obtain ⟨k1, k2⟩ := h o l d
  refine ⟨fun hne => k1 e hc hne, fun he => ?_⟩
  dsimp only at he
  subst he
  have k2 := k2 hc
  have hpm : p.length ≤ maxLen := by unfold maxLen; omega
  unfold dsync at k2
  refine valid_M (by omega) ⟨fun hb => ?_, fun hb => ?_⟩
  · have : validB p = false := by simpa using hb
    rw [if_pos this] at k2
    exact k2
  · have : ¬ validB p = false := by simpa using hb
    rw [if_neg this] at k2
    exact ⟨fun f => f = (if (mget fs p).isSome = true then mput fs p ((fil fs p).1, (fil fs p).2.1, (fil fs p).1, (fil fs p).2.1, []) else fs), ⟨hpm, fun ht => fun _ => by rw [if_pos ht]; rfl, fun ht => by rw [if_neg (by rw [ht]; simp)]⟩, fun f hf => by rw [hf]; exact k2⟩
end Go.Proofs.YtlonpmajnglmoaaDoor


 /- A disk, plainly: the fall of the power, what rises behind it. -/
namespace Go.Proofs.YtlonpmajnglmoaaDoor
open Go Go.RowKit
section
variable {fs : DF} {ops : Int} {p text : List UInt8} {kind : Int}
theorem put0_M {K : Er → DF → Int → Int → Bool → Prop} (hp : p.length ≤ 1000000) (h0 : 0 ≤ ops) (h1 : ops ≤ 1000000000) (hf : fs.length ≤ 1000000) (ht : text.length ≤ 1000000) (hx : (fil fs p).1.length ≤ 1000000) (hs : (fil fs p).2.2.2.2.length ≤ 1000000) (h : K (dlay fs p text kind).1 (dlay fs p text kind).2 (ops + 1) 0 false) : M_pdisk_Disk_put fs ops 0 false p text kind text K :=
  put_M hp h0 h1 (by omega) hf ht hx hs fun o l d => ⟨fun e he hne => by
    simp only [dcall, Bool.false_eq_true, if_false, Int.lt_irrefl, Prod.mk.injEq] at he
    exact absurd he.1.symm hne, fun he => by
    simp only [dcall, Bool.false_eq_true, if_false, Int.lt_irrefl, Prod.mk.injEq, true_and] at he
    obtain ⟨rfl, rfl, rfl⟩ := he
    exact h⟩
theorem remove0_M {K : Er → DF → Int → Int → Bool → Prop} (hp : p.length ≤ 1000000) (h0 : 0 ≤ ops) (h1 : ops ≤ 1000000000) (hs : (fil fs p).2.2.2.2.length ≤ 1000000) (h : K (dremove fs p).1 (dremove fs p).2 (ops + 1) 0 false) : M_pdisk_Disk_Remove fs ops 0 false p K :=
  remove_M hp h0 h1 (by omega) hs fun o l d => ⟨fun e he hne => by
    simp only [dcall, Bool.false_eq_true, if_false, Int.lt_irrefl, Prod.mk.injEq] at he
    exact absurd he.1.symm hne, fun he => by
    simp only [dcall, Bool.false_eq_true, if_false, Int.lt_irrefl, Prod.mk.injEq, true_and] at he
    obtain ⟨rfl, rfl, rfl⟩ := he
    exact h⟩
theorem sync0_M {K : Er → DF → Int → Int → Bool → Prop} (hp : p.length ≤ 1000000) (h0 : 0 ≤ ops) (h1 : ops ≤ 1000000000) (h : K (dsync fs p).1 (dsync fs p).2 (ops + 1) 0 false) : M_pdisk_Disk_Sync fs ops 0 false p K :=
  sync_M hp h0 h1 (by omega) fun o l d => ⟨fun e he hne => by
    simp only [dcall, Bool.false_eq_true, if_false, Int.lt_irrefl, Prod.mk.injEq] at he
    exact absurd he.1.symm hne, fun he => by
    simp only [dcall, Bool.false_eq_true, if_false, Int.lt_irrefl, Prod.mk.injEq, true_and] at he
    obtain ⟨rfl, rfl, rfl⟩ := he
    exact h⟩
/-- what a read tells, when the power is there -/
def dtext (fs : DF) (p : List UInt8) : List UInt8 := if thereB fs p = true then (fil fs p).1 else []
theorem dreadC_M {left : Int} {down : Bool} {K : List UInt8 → Bool → Er → DF → Int → Int → Bool → Prop} (hp : p.length ≤ maxLen) (h0 : 0 ≤ ops) (h1 : ops ≤ 1000000000) (hl : left ≤ 1000000000)
    (h : K (if (dcall ops left down).1 = .ok then dtext fs p else []) (decide ((dcall ops left down).1 = .ok) && thereB fs p) (dcall ops left down).1 fs (dcall ops left down).2.1 (dcall ops left down).2.2.1 (dcall ops left down).2.2.2) : M_pdisk_Disk_Read fs ops left down p K := by
  refine dread_M hp h0 h1 hl fun o l d => ⟨fun e he hne => ?_, fun he ht => ?_, fun he ht => ?_⟩
  · rw [he] at h
    simpa [hne] using h
  · rw [he] at h
    simpa [dtext, ht] using h
  · rw [he] at h
    simpa [dtext, ht] using h
theorem dread0_M {K : List UInt8 → Bool → Er → DF → Int → Int → Bool → Prop} (hp : p.length ≤ maxLen) (h0 : 0 ≤ ops) (h1 : ops ≤ 1000000000) (h : K (dtext fs p) (thereB fs p) .ok fs (ops + 1) 0 false) : M_pdisk_Disk_Read fs ops 0 false p K :=
  dreadC_M hp h0 h1 (by omega) (by simpa [dcall] using h)
theorem dlay_ok (hv : validB p = true) (hf : fs.length < 2000) (ht : (if kind = 1 ∧ thereB fs p = true then (fil fs p).1 ++ text else text).length ≤ 65536) :
    dlay fs p text kind = (.ok, mput fs p (if kind = 1 ∧ thereB fs p = true then (fil fs p).1 ++ text else text, true, (fil fs p).2.2.1, (fil fs p).2.2.2.1, (fil fs p).2.2.2.2 ++ [(kind, text)])) := by
  have := pathsP_len fs
  unfold dlay
  rw [if_neg (fun h => h.elim (fun h => by rw [hv] at h; cases h) (fun h => by omega)), if_neg (by rintro ⟨_, h⟩; omega)]
end
/-! ### a file rises -/
def appC (c : Int × List UInt8) (t : List UInt8) : List UInt8 × Bool := if c.1 = 0 then (c.2, true) else if c.1 = 1 then (t ++ c.2, true) else ([], false)
def cutN (c : Int × List UInt8) (cut : Int) : Int := if (c.2.length : Int) - 1 < cut then (c.2.length : Int) - 1 else cut
def riseP (cut : Int) : Nat → List (Int × List UInt8) → List UInt8 → Bool → List UInt8 × Bool
  | _, [], t, b => (t, b)
  | 0, c :: _, t, b => if c.1 = 1 ∧ 0 < cutN c cut then (t ++ c.2.take (cutN c cut).toNat, true) else (t, b)
  | k + 1, c :: l, t, _ => riseP cut k l (appC c t).1 (appC c t).2
theorem frise_M {text synced : List UInt8} {is was : Bool} {since : List (Int × List UInt8)} {keep cut : Int} {K : List UInt8 → Bool → List UInt8 → Bool → List (Int × List UInt8) → Prop} (hk : 0 ≤ keep) (hs : synced.length ≤ 1000000) (hn : since.length ≤ 1000000) (hc : ∀ c ∈ since, c.2.length ≤ 1000000)
    (h : K (riseP cut keep.toNat since synced was).1 (riseP cut keep.toNat since synced was).2 synced was since) : M_pdisk_file_rise text is synced was since keep cut K := by
  intro _
  refine ⟨fun i t b => 0 ≤ i ∧ i ≤ since.length ∧ i ≤ keep ∧ riseP cut (keep - i).toNat (since.drop i.toNat) t b = riseP cut keep.toNat since synced was ∧ t.length ≤ 1000000 * (i.toNat + 1), fun i _ _ => since.length - i.toNat, ⟨by omega, by omega, hk, by simp, by simpa using hs⟩, fun i t b ⟨a0, a1, a2, a3, a4⟩ => ⟨fun hlt => ?_, fun hge => ?_⟩⟩
  · have hi : i.toNat < since.length := by omega
    have e : since.getD i.toNat (0, []) = since[i.toNat] := by simp [List.getD, hi]
    have hc' := hc _ (List.getElem_mem hi)
    rw [List.drop_eq_getElem_cons hi] at a3
    rw [e]
    generalize since[i.toNat] = c at a3 hc' ⊢
    refine ⟨fun t' b' => (t', b') = appC c t ∧ i < keep, ⟨⟨a0, hlt⟩, fun hke => ?_, fun hnk => ?_⟩, fun t' b' ⟨g1, g2⟩ => ⟨by simp only [In]; omega, ⟨by omega, by omega, by omega, ?_, ?_⟩, by (try dsimp only); omega⟩⟩
    · have hik : i = keep := by omega
      rw [show (keep - i).toNat = 0 by omega] at a3
      have hcn : (if (c.2.length : Int) - 1 < cut then (c.2.length : Int) - 1 else cut) = cutN c cut := rfl
      rw [hcn]
      have hcl : cutN c cut ≤ (c.2.length : Int) - 1 := by unfold cutN; split <;> omega
      refine ⟨fun t' b' => (t', b') = riseP cut keep.toNat since synced was, ⟨by simp only [In]; omega, fun hb => ?_, fun hb => ?_⟩, fun t' b' hr => ?_⟩
      · rw [Bool.and_eq_true, decide_eq_true_eq, decide_eq_true_eq] at hb
        refine ⟨⟨by omega, by omega⟩, by rw [List.length_take]; omega, ?_⟩
        rw [← a3]; unfold riseP; rw [if_pos hb]
      · have : ¬ (c.1 = 1 ∧ 0 < cutN c cut) := fun ⟨g1, g2⟩ => by rw [decide_eq_true g1, decide_eq_true g2] at hb; cases hb
        rw [← a3]; unfold riseP; rw [if_neg this]
      · rw [← hr] at h
        exact h
    · have hik : i < keep := by omega
      refine ⟨fun h0 => ⟨by unfold appC; rw [if_pos h0], hik⟩, fun h0 => ⟨fun h1 => ⟨by omega, by unfold appC; rw [if_neg h0, if_pos h1], hik⟩, fun h1 => ⟨by unfold appC; rw [if_neg h0, if_neg h1], hik⟩⟩⟩
    · rw [show (keep - i).toNat = (keep - (i + 1)).toNat + 1 by omega] at a3
      rw [show (i + 1).toNat = i.toNat + 1 by omega, ← a3]
      show _ = riseP cut _ _ (appC c t).1 (appC c t).2
      rw [← g1]
    · have : t' = (appC c t).1 := by rw [← g1]
      rw [this]
      unfold appC
      split
      · show c.2.length ≤ _; omega
      · split
        · show (t ++ c.2).length ≤ _; rw [List.length_append]; omega
        · show ([] : List UInt8).length ≤ _; simp
  · obtain rfl : i = since.length := by omega
    have : since.drop ((since.length : Int).toNat) = [] := by simp
    rw [this] at a3
    have e2 : ∀ k, riseP cut k [] t b = (t, b) := fun k => by cases k <;> rfl
    rw [e2] at a3
    rw [← a3] at h
    exact h
def riseAll (cut : Int) : List (List UInt8) → Int → DF → DF
  | [], _, fs => fs
  | k :: ks, keep, fs =>
    if (fil fs k).2.2.2.2 = [] then riseAll cut ks keep (mput fs k ((fil fs k).1, (fil fs k).2.1, (fil fs k).1, (fil fs k).2.1, []))
    else riseAll cut ks (keep / 4) (mput fs k ((riseP cut (keep % 4).toNat (fil fs k).2.2.2.2 (fil fs k).2.2.1 (fil fs k).2.2.2.1).1, (riseP cut (keep % 4).toNat (fil fs k).2.2.2.2 (fil fs k).2.2.1 (fil fs k).2.2.2.1).2, (riseP cut (keep % 4).toNat (fil fs k).2.2.2.2 (fil fs k).2.2.1 (fil fs k).2.2.2.1).1, (riseP cut (keep % 4).toNat (fil fs k).2.2.2.2 (fil fs k).2.2.1 (fil fs k).2.2.2.1).2, []))
theorem riseAll_cons (cut : Int) (k : List UInt8) (ks : List (List UInt8)) (keep : Int) (fs : DF) : riseAll cut (k :: ks) keep fs =
  (if (fil fs k).2.2.2.2 = [] then riseAll cut ks keep (mput fs k ((fil fs k).1, (fil fs k).2.1, (fil fs k).1, (fil fs k).2.1, []))
    else riseAll cut ks (keep / 4) (mput fs k ((riseP cut (keep % 4).toNat (fil fs k).2.2.2.2 (fil fs k).2.2.1 (fil fs k).2.2.2.1).1, (riseP cut (keep % 4).toNat (fil fs k).2.2.2.2 (fil fs k).2.2.1 (fil fs k).2.2.2.1).2, (riseP cut (keep % 4).toNat (fil fs k).2.2.2.2 (fil fs k).2.2.1 (fil fs k).2.2.2.1).1, (riseP cut (keep % 4).toNat (fil fs k).2.2.2.2 (fil fs k).2.2.1 (fil fs k).2.2.2.1).2, []))) := rfl
/-- what hangs on a file is small -/
def SmallF (x : Fil) : Prop := x.2.2.1.length ≤ 1000000 ∧ x.2.2.2.2.length ≤ 1000000 ∧ ∀ c ∈ x.2.2.2.2, c.2.length ≤ 1000000
def max0 (n : Int) : Int := if n < 0 then 0 else n
theorem mget_put_some {fs : DF} {k q : List UInt8} {x : Fil} (h : (mget fs q).isSome = true) : (mget (mput fs k x) q).isSome = true := by
  rw [mget_mput]; split
  · rfl
  · exact h
theorem rise_M {fs : DF} {ops left : Int} {down : Bool} {keep cut : Int} {K : DF → Int → Int → Bool → Prop} (hf : fs.length ≤ 1000000) (hkl : ∀ p ∈ fs, p.1.length ≤ maxLen) (hk : In .i64 keep) (hS : ∀ k, SmallF (fil fs k)) (h : if down = true then K (riseAll (max0 cut) (sortB (fs.map (·.1))) (max0 keep) fs) ops 0 false else K fs ops left down) : M_pdisk_Disk_Rise fs ops left down keep cut K := by
  refine ⟨fun hd => ?_, fun hd => ⟨by omega, ?_⟩⟩
  · have : down = false := by simpa using hd
    subst this
    simpa using h
  · have : down = true := by simpa using hd
    subst this
    rw [if_pos rfl] at h
    show Lp3 _ (max0 keep) 0 fs
    have hsort : ((fs.map (·.1)).mergeSort fun x y => decide (x ≤ y)) = sortB (fs.map (·.1)) := rfl
    rw [hsort]
    have hks : ∀ k ∈ sortB (fs.map (·.1)), (mget fs k).isSome = true ∧ k.length ≤ maxLen := fun k hk => by
      obtain ⟨p, hp, rfl⟩ := List.mem_map.1 ((sortB_mem _ _).1 hk)
      refine ⟨?_, hkl p hp⟩
      cases hm : mget fs p.1 with
      | some x => rfl
      | none => exact absurd rfl (mget_none.1 hm p hp)
    have hlen : (sortB (fs.map (·.1))).length ≤ 1000000 := by unfold sortB; rw [List.length_mergeSort, List.length_map]; exact hf
    generalize sortB (fs.map (·.1)) = ks at h hks hlen ⊢
    have hk63 : keep < 9223372036854775808 := by simp only [In] at hk; omega
    refine ⟨fun kp i d => 0 ≤ i ∧ i ≤ ks.length ∧ 0 ≤ kp ∧ kp < 9223372036854775808 ∧ riseAll (max0 cut) (ks.drop i.toNat) kp d = riseAll (max0 cut) ks (max0 keep) fs ∧ (∀ k ∈ ks, (mget d k).isSome = true) ∧ ∀ k, SmallF (fil d k) ∨ (fil d k).2.2.2.2 = [], fun _ i _ => ks.length - i.toNat,
      ⟨by omega, by omega, by unfold max0; split <;> omega, by unfold max0; split <;> omega, by simp, fun k hk => (hks k hk).1, fun k => .inl (hS k)⟩, fun kp i d ⟨a0, a1, a2, a3, a4, a5, a6⟩ => ⟨fun hlt => ?_, fun hge => ?_⟩⟩
    · have hi : i.toNat < ks.length := by omega
      have e : ks.getD i.toNat [] = ks[i.toNat] := by simp [List.getD, hi]
      have hm := hks _ (List.getElem_mem hi)
      have hsm := a5 _ (List.getElem_mem hi)
      have hmem := List.getElem_mem hi
      rw [List.drop_eq_getElem_cons hi] at a4
      rw [e]
      generalize ks[i.toNat] = k at a4 hm hsm hmem ⊢
      have hz : (mget d k).getD ([], false, [], false, []) = fil d k := rfl
      rw [riseAll_cons] at a4
      rw [hz]
      refine ⟨⟨a0, hlt⟩, hm.2, fun kp' d' => 0 ≤ kp' ∧ kp' < 9223372036854775808 ∧ (mget d' k).isSome = true ∧ (∀ q ∈ ks, (mget d' q).isSome = true) ∧ (∀ q, q ≠ k → fil d' q = fil d q) ∧ riseAll (max0 cut) (ks.drop (i.toNat + 1)) kp' (mput d' k ((fil d' k).1, (fil d' k).2.1, (fil d' k).1, (fil d' k).2.1, [])) = riseAll (max0 cut) ks (max0 keep) fs, ⟨hsm, fun hpos => ⟨⟨a2, by omega⟩, ?_⟩, fun hz0 => ?_⟩, fun kp' d' ⟨b0, b1, b2, b3, b4, b5⟩ => ⟨b2, fun _ => ⟨by simp only [In]; omega, ⟨by omega, by omega, b0, b1, ?_, ?_, ?_⟩, by (try dsimp only); omega⟩⟩⟩
      · have hne : (fil d k).2.2.2.2 ≠ [] := fun e => by rw [e] at hpos; simp at hpos
        rw [if_neg hne] at a4
        have hsmall : SmallF (fil d k) := (a6 k).resolve_right hne
        refine frise_M (by omega) hsmall.1 hsmall.2.1 hsmall.2.2 ⟨⟨a2, by omega, by simp only [In]; omega⟩, by omega, by omega, by rw [mget_same]; rfl, fun q hq => mget_put_some (a5 q hq), fun q hq => by rw [fil_put, if_neg (fun e => hq e.symm)], ?_⟩
        rw [mput_mput, fil_put, if_pos rfl]
        exact a4
      · have h0 : (fil d k).2.2.2.2 = [] := List.eq_nil_of_length_eq_zero (by omega)
        rw [if_pos h0] at a4
        exact ⟨a2, a3, hsm, a5, fun _ _ => rfl, a4⟩
      · rw [show (i + 1).toNat = i.toNat + 1 by omega]
        exact b5
      · exact fun q hq => mget_put_some (b3 q hq)
      · intro q
        rw [fil_put]
        split
        · exact .inr rfl
        · rename_i hq
          rw [b4 q (fun e => hq e.symm)]
          exact a6 q
    · obtain rfl : i = ks.length := by omega
      have : ks.drop ((ks.length : Int).toNat) = [] := by simp
      rw [this] at a4
      have a4' : d = riseAll (max0 cut) ks (max0 keep) fs := a4
      rw [← a4'] at h
      exact h
end Go.Proofs.YtlonpmajnglmoaaDoor


 /- Printed by a program (wip/vg): what the functions mean, plainly, and their walks. -/
namespace Go.Proofs.YtlonpmajnglmoaaDoor
open Go Go.RowKit
attribute [local irreducible] WL WC WX WQ WK WJ Yld Eff Ef0 Fn
def M_smithylaw3_first (K : Bool → Prop) : Prop :=
 M_disk_New [] (fun (t111 : Er) =>
 K false) (fun (t110_files : List (List UInt8 × List UInt8 × Bool × List UInt8 × Bool × List (Int × List UInt8))) (t110_ops : Int) (t110_left : Int) (t110_down : Bool) (t1112 : Er) =>
 ((¬ (t1112 = Er.ok) → K false) ∧
 (t1112 = Er.ok → M_pdisk_Disk_Write t110_files t110_ops t110_left t110_down ([97] : List UInt8) ([120] : List UInt8) (fun (a : Er) (t110_ : List (List UInt8 × List UInt8 × Bool × List UInt8 × Bool × List (Int × List UInt8))) (t110_2 : Int) (t110_3 : Int) (t110_4 : Bool) =>
 M_pdisk_Disk_Sync t110_ t110_2 t110_3 t110_4 ([97] : List UInt8) (fun (b : Er) (t110_5 : List (List UInt8 × List UInt8 × Bool × List UInt8 × Bool × List (Int × List UInt8))) (t110_6 : Int) (t110_7 : Int) (t110_8 : Bool) =>
 M_pdisk_Disk_Append t110_5 t110_6 t110_7 t110_8 ([97] : List UInt8) ([121, 122] : List UInt8) (fun (c : Er) (t110_9 : List (List UInt8 × List UInt8 × Bool × List UInt8 × Bool × List (Int × List UInt8))) (t110_10 : Int) (t110_11 : Int) (t110_12 : Bool) =>
 M_pdisk_Disk_Arm t110_9 t110_10 t110_11 t110_12 (1 : Int) (fun (t110_13 : List (List UInt8 × List UInt8 × Bool × List UInt8 × Bool × List (Int × List UInt8))) (t110_14 : Int) (t110_15 : Int) (t110_16 : Bool) =>
 M_pdisk_Disk_Sync t110_13 t110_14 t110_15 t110_16 ([97] : List UInt8) (fun (f : Er) (t110_17 : List (List UInt8 × List UInt8 × Bool × List UInt8 × Bool × List (Int × List UInt8))) (t110_18 : Int) (t110_19 : Int) (t110_20 : Bool) =>
 M_pdisk_Disk_Rise t110_17 t110_18 t110_19 t110_20 (0 : Int) (1 : Int) (fun (t110_21 : List (List UInt8 × List UInt8 × Bool × List UInt8 × Bool × List (Int × List UInt8))) (t110_22 : Int) (t110_23 : Int) (t110_24 : Bool) =>
 M_pdisk_Disk_Read t110_21 t110_22 t110_23 t110_24 ([97] : List UInt8) (fun (t340 : List UInt8) (t341 : Bool) (t342 : Er) (t110_25 : List (List UInt8 × List UInt8 × Bool × List UInt8 × Bool × List (Int × List UInt8))) (t110_26 : Int) (t110_27 : Int) (t110_28 : Bool) =>
 ∃ J1 : Bool → Prop, ((((((decide (a = Er.ok)) && (decide (b = Er.ok))) && (decide (c = Er.ok))) = true → M_smithysee_Is f (116 : Int) (fun (t50 : Bool) =>
 J1 t50)) ∧
 ((((decide (a = Er.ok)) && (decide (b = Er.ok))) && (decide (c = Er.ok))) = false → J1 false))) ∧
 (∀ q5 : Bool, J1 q5 → K (((q5 && (decide (t340 = ([120, 121] : List UInt8)))) && t341) && (decide (t342 = Er.ok))))))))))))))

set_option maxHeartbeats 8000000 in
theorem W_smithylaw3_first {S : List Nat} {w : World} {K : Bool → Prop} (hG : GOK S w) (hS0 : 0 ∈ S) (hS1 : 1 ∈ S) (hS2 : 2 ∈ S) (hS3 : 3 ∈ S) (hS4 : 4 ∈ S) (hS5 : 5 ∈ S) (hS6 : 6 ∈ S) (hS7 : 7 ∈ S) (hS8 : 8 ∈ S) (hS9 : 9 ∈ S) (hS10 : 10 ∈ S) (hS11 : 11 ∈ S) (hS12 : 12 ∈ S) (hS13 : 13 ∈ S) (hS14 : 14 ∈ S) (hS15 : 15 ∈ S) (hS16 : 16 ∈ S) (hS100 : 100 ∈ S) (H : M_smithylaw3_first  K) : Fn Tryd.prog 19 ⟨[]⟩ w (fun v w' => w.grownBy w' none ∧ ∃ (r : Bool), v = .bool r ∧ K r) := by
  unfold M_smithylaw3_first at H
  refine Fn.enter (by kernel_rfl) Tryd.func19 rfl Tryd.ntmps19 rfl ?_
  refine WC.seq ?_
  refine WC.region ?_
  refine WL.y rfl (Yld.pure tab_ok rfl) ?_
  refine WL.nil (WX.then_normal ?_)
  refine WC.seq ?_
  refine WC.region ?_
  refine WL.call rfl rfl (W_disk_New hG hS9 hS11 hS100 (OwnK.nil enc43_ok w w.heap.size 43).rd rfl H) ?_
  rintro v_ w1 ⟨hg_, hc_ | hc_⟩
  · obtain ⟨v_t111, t111, rfl, ht111, H⟩ := hc_
    have hg1 := hg_
    have gr1 := hg1
    refine WL.y rfl (Yld.pure tab_ok rfl) ?_
    refine WL.y rfl (Yld.pure tab_ok rfl) ?_
    refine WL.y rfl (Yld.pure tab_ok rfl) ?_
    refine WL.y rfl (Yld.pure tab_ok rfl) ?_
    refine WL.y rfl (Yld.pure tab_ok rfl) ?_
    refine WL.nil (WX.then_normal ?_)
    refine WC.seq ?_
    refine WC.seq ?_
    refine WC.region ?_
    refine WL.y rfl (Yld.pure tab_ok rfl) ?_
    refine WL.y rfl (Yld.peqnil Tryd.underlying39 rfl rfl) ?_
    refine WL.y rfl (Yld.pure tab_ok rfl) ?_
    refine WL.midF 3 (fun L' w' => ∃ q1 : Bool, L' = [(19, .bool q1), (1, .pointer none)] ∧ true = q1 ∧ w1 = w') ?_ (fun hQ => ?_)
    · rintro _ _ ⟨q1, rfl, rfl, rfl⟩
      refine WL.nil (WX.then_normal ?_)
      refine WC.cond rfl (fun _ => ?_) (fun h => by cases h)
      refine WC.seq ?_
      refine WC.region ?_
      refine WL.y rfl (Yld.pure tab_ok rfl) ?_
      refine WL.nil (WX.then_normal ?_)
      refine WC.ret (WX.then_ret ?_)
      exact WX.ret1 rfl rfl ⟨gr1, false, rfl, H⟩
    · clear H
      refine WL.gno rfl rfl (rfl) rfl ?_
      refine WL.gno rfl rfl (rfl) rfl ?_
      refine WL.y rfl (Yld.pickT (rfl) rfl) ?_
      exact WL.weaken (by repeat (first | exact Sub.nil | refine Sub.cons rfl ?_)) (hQ _ _ ⟨true, rfl, rfl, rfl⟩)
  · obtain ⟨g_t110, g_t110_files, hs_t110_files, t110_files, t110_ops, t110_left, t110_down, v_t1112, t1112, rfl, ht1112, ht110_files, hge1, ht110, hge2, dj1, H⟩ := hc_
    have hg2 := hg_
    have gr2 := hg2
    refine WL.y rfl (Yld.pure tab_ok rfl) ?_
    refine WL.y rfl (Yld.pure tab_ok rfl) ?_
    refine WL.y rfl (Yld.pure tab_ok rfl) ?_
    refine WL.y rfl (Yld.pure tab_ok rfl) ?_
    refine WL.y rfl (Yld.pure tab_ok rfl) ?_
    refine WL.nil (WX.then_normal ?_)
    refine WC.seq ?_
    refine WC.seq ?_
    refine WC.region ?_
    refine WL.y rfl (Yld.pure tab_ok rfl) ?_
    refine WL.y rfl (Yld.peqnil Tryd.underlying39 rfl rfl) ?_
    refine WL.y rfl (Yld.pure tab_ok rfl) ?_
    refine WL.midF 3 (fun L' w' => ∃ q2 : Bool, L' = [(19, .bool q2), (1, .pointer (some ⟨g_t110, 0, none⟩))] ∧ (!decide (t1112 = Er.ok)) = q2 ∧ w1 = w') ?_ (fun hQ => ?_)
    · rintro _ _ ⟨q2, rfl, rfl, rfl⟩
      refine WL.nil (WX.then_normal ?_)
      refine WC.cond rfl (fun b1 => ?_) (fun b1 => ?_)
      · replace H := H.1 (nd_true b1)
        refine WC.seq ?_
        refine WC.region ?_
        refine WL.y rfl (Yld.pure tab_ok rfl) ?_
        refine WL.nil (WX.then_normal ?_)
        refine WC.ret (WX.then_ret ?_)
        exact WX.ret1 rfl rfl ⟨gr2, false, rfl, H⟩
      · replace H := H.2 (nd_false b1)
        refine WC.skip (WX.then_normal ?_)
        refine WC.seq ?_
        refine WC.region ?_
        refine WL.y rfl (Yld.pure tab_ok rfl) ?_
        refine WL.call rfl rfl (W_pdisk_Disk_Write (GB.grown hG gr2) (size_le gr2) (apC (Ge.le hge2 (Nat.le_refl _)) (fun p hp => Ge.le (hge1 p hp) (Nat.le_refl _))) hS9 hS11 hS15 hS100 ht110_files ht110 dj1 H) ?_
        rintro v_a w4 ⟨hgl1, _, a, hs_t110_, t110_, t110_2, t110_3, t110_4, rfl, ha, hB1, hM1, hi1, dj2, H⟩
        have gr3 := gr_modL gr2 hgl1 (apC (Ge.le hge2 (Nat.le_refl _)) (fun p hp => Ge.le (hge1 p hp) (Nat.le_refl _)))
        refine WL.y rfl (Yld.pure tab_ok rfl) ?_
        refine WL.nil (WX.then_normal ?_)
        refine WC.seq ?_
        refine WC.region ?_
        refine WL.y rfl (Yld.pure tab_ok rfl) ?_
        refine WL.call rfl rfl (W_pdisk_Disk_Sync (GB.grown hG gr3) (size_le gr3) (apC (Ge.le hge2 (Nat.le_refl _)) (InA.toGe hi1 (apC (Ge.le hge2 (Nat.le_refl _)) (fun p hp => Ge.le (hge1 p hp) (Nat.le_refl _))) (size_le gr2))) hS11 hS15 hS100 hM1 hB1 dj2 H) ?_
        rintro v_b w5 ⟨hgl2, _, b, hs_t110_2, t110_5, t110_6, t110_7, t110_8, rfl, hb, hB2, hM2, hi2, dj3, H⟩
        have gr4 := gr_modL gr3 hgl2 (apC (Ge.le hge2 (Nat.le_refl _)) (InA.toGe hi1 (apC (Ge.le hge2 (Nat.le_refl _)) (fun p hp => Ge.le (hge1 p hp) (Nat.le_refl _))) (size_le gr2)))
        have k1 := ErrR.goB ha (GB.grown hG gr3) hgl2 (apC (Ge.le hge2 (Nat.le_refl _)) (InA.toGe hi1 (apC (Ge.le hge2 (Nat.le_refl _)) (fun p hp => Ge.le (hge1 p hp) (Nat.le_refl _))) (size_le gr2))) (apC (NoAt.bl hB1 rfl) hM1.noats)
        refine WL.y rfl (Yld.pure tab_ok rfl) ?_
        refine WL.nil (WX.then_normal ?_)
        refine WC.seq ?_
        refine WC.region ?_
        refine WL.y rfl (Yld.pure tab_ok rfl) ?_
        refine WL.call rfl rfl (W_pdisk_Disk_Append (GB.grown hG gr4) (size_le gr4) (apC (Ge.le hge2 (Nat.le_refl _)) (InA.toGe hi2 (apC (Ge.le hge2 (Nat.le_refl _)) (InA.toGe hi1 (apC (Ge.le hge2 (Nat.le_refl _)) (fun p hp => Ge.le (hge1 p hp) (Nat.le_refl _))) (size_le gr2))) (size_le gr3))) hS9 hS11 hS15 hS100 hM2 hB2 dj3 H) ?_
        rintro v_c w6 ⟨hgl3, _, c, hs_t110_3, t110_9, t110_10, t110_11, t110_12, rfl, hc, hB3, hM3, hi3, dj4, H⟩
        have gr5 := gr_modL gr4 hgl3 (apC (Ge.le hge2 (Nat.le_refl _)) (InA.toGe hi2 (apC (Ge.le hge2 (Nat.le_refl _)) (InA.toGe hi1 (apC (Ge.le hge2 (Nat.le_refl _)) (fun p hp => Ge.le (hge1 p hp) (Nat.le_refl _))) (size_le gr2))) (size_le gr3)))
        have k2 := ErrR.goB k1 (GB.grown hG gr4) hgl3 (apC (Ge.le hge2 (Nat.le_refl _)) (InA.toGe hi2 (apC (Ge.le hge2 (Nat.le_refl _)) (InA.toGe hi1 (apC (Ge.le hge2 (Nat.le_refl _)) (fun p hp => Ge.le (hge1 p hp) (Nat.le_refl _))) (size_le gr2))) (size_le gr3))) (apC (NoAt.bl hB2 rfl) hM2.noats)
        have k3 := ErrR.goB hb (GB.grown hG gr4) hgl3 (apC (Ge.le hge2 (Nat.le_refl _)) (InA.toGe hi2 (apC (Ge.le hge2 (Nat.le_refl _)) (InA.toGe hi1 (apC (Ge.le hge2 (Nat.le_refl _)) (fun p hp => Ge.le (hge1 p hp) (Nat.le_refl _))) (size_le gr2))) (size_le gr3))) (apC (NoAt.bl hB2 rfl) hM2.noats)
        refine WL.y rfl (Yld.pure tab_ok rfl) ?_
        refine WL.nil (WX.then_normal ?_)
        refine WC.seq ?_
        refine WC.region ?_
        refine WL.y rfl (Yld.pure tab_ok rfl) ?_
        refine WL.call rfl rfl (W_pdisk_Disk_Arm hM3 hB3 dj4 H) ?_
        rintro _ w7 ⟨hgl4, hs_t110_4, t110_13, t110_14, t110_15, t110_16, rfl, hB4, hM4, hi4, dj5, H⟩
        have gr6 := gr_modL gr5 hgl4 (apC (Ge.le hge2 (Nat.le_refl _)) (InA.toGe hi3 (apC (Ge.le hge2 (Nat.le_refl _)) (InA.toGe hi2 (apC (Ge.le hge2 (Nat.le_refl _)) (InA.toGe hi1 (apC (Ge.le hge2 (Nat.le_refl _)) (fun p hp => Ge.le (hge1 p hp) (Nat.le_refl _))) (size_le gr2))) (size_le gr3))) (size_le gr4)))
        have k4 := ErrR.goB k2 (GB.grown hG gr5) hgl4 (apC (Ge.le hge2 (Nat.le_refl _)) (InA.toGe hi3 (apC (Ge.le hge2 (Nat.le_refl _)) (InA.toGe hi2 (apC (Ge.le hge2 (Nat.le_refl _)) (InA.toGe hi1 (apC (Ge.le hge2 (Nat.le_refl _)) (fun p hp => Ge.le (hge1 p hp) (Nat.le_refl _))) (size_le gr2))) (size_le gr3))) (size_le gr4))) (apC (NoAt.bl hB3 rfl) hM3.noats)
        have k5 := ErrR.goB k3 (GB.grown hG gr5) hgl4 (apC (Ge.le hge2 (Nat.le_refl _)) (InA.toGe hi3 (apC (Ge.le hge2 (Nat.le_refl _)) (InA.toGe hi2 (apC (Ge.le hge2 (Nat.le_refl _)) (InA.toGe hi1 (apC (Ge.le hge2 (Nat.le_refl _)) (fun p hp => Ge.le (hge1 p hp) (Nat.le_refl _))) (size_le gr2))) (size_le gr3))) (size_le gr4))) (apC (NoAt.bl hB3 rfl) hM3.noats)
        have k6 := ErrR.goB hc (GB.grown hG gr5) hgl4 (apC (Ge.le hge2 (Nat.le_refl _)) (InA.toGe hi3 (apC (Ge.le hge2 (Nat.le_refl _)) (InA.toGe hi2 (apC (Ge.le hge2 (Nat.le_refl _)) (InA.toGe hi1 (apC (Ge.le hge2 (Nat.le_refl _)) (fun p hp => Ge.le (hge1 p hp) (Nat.le_refl _))) (size_le gr2))) (size_le gr3))) (size_le gr4))) (apC (NoAt.bl hB3 rfl) hM3.noats)
        refine WL.nil (WX.then_normal ?_)
        refine WC.seq ?_
        refine WC.region ?_
        refine WL.y rfl (Yld.pure tab_ok rfl) ?_
        refine WL.call rfl rfl (W_pdisk_Disk_Sync (GB.grown hG gr6) (size_le gr6) (apC (Ge.le hge2 (Nat.le_refl _)) (InA.toGe hi4 (apC (Ge.le hge2 (Nat.le_refl _)) (InA.toGe hi3 (apC (Ge.le hge2 (Nat.le_refl _)) (InA.toGe hi2 (apC (Ge.le hge2 (Nat.le_refl _)) (InA.toGe hi1 (apC (Ge.le hge2 (Nat.le_refl _)) (fun p hp => Ge.le (hge1 p hp) (Nat.le_refl _))) (size_le gr2))) (size_le gr3))) (size_le gr4))) (size_le gr5))) hS11 hS15 hS100 hM4 hB4 dj5 H) ?_
        rintro v_f w8 ⟨hgl5, _, f, hs_t110_5, t110_17, t110_18, t110_19, t110_20, rfl, hf, hB5, hM5, hi5, dj6, H⟩
        have gr7 := gr_modL gr6 hgl5 (apC (Ge.le hge2 (Nat.le_refl _)) (InA.toGe hi4 (apC (Ge.le hge2 (Nat.le_refl _)) (InA.toGe hi3 (apC (Ge.le hge2 (Nat.le_refl _)) (InA.toGe hi2 (apC (Ge.le hge2 (Nat.le_refl _)) (InA.toGe hi1 (apC (Ge.le hge2 (Nat.le_refl _)) (fun p hp => Ge.le (hge1 p hp) (Nat.le_refl _))) (size_le gr2))) (size_le gr3))) (size_le gr4))) (size_le gr5)))
        have k7 := ErrR.goB k4 (GB.grown hG gr6) hgl5 (apC (Ge.le hge2 (Nat.le_refl _)) (InA.toGe hi4 (apC (Ge.le hge2 (Nat.le_refl _)) (InA.toGe hi3 (apC (Ge.le hge2 (Nat.le_refl _)) (InA.toGe hi2 (apC (Ge.le hge2 (Nat.le_refl _)) (InA.toGe hi1 (apC (Ge.le hge2 (Nat.le_refl _)) (fun p hp => Ge.le (hge1 p hp) (Nat.le_refl _))) (size_le gr2))) (size_le gr3))) (size_le gr4))) (size_le gr5))) (apC (NoAt.bl hB4 rfl) hM4.noats)
        have k8 := ErrR.goB k5 (GB.grown hG gr6) hgl5 (apC (Ge.le hge2 (Nat.le_refl _)) (InA.toGe hi4 (apC (Ge.le hge2 (Nat.le_refl _)) (InA.toGe hi3 (apC (Ge.le hge2 (Nat.le_refl _)) (InA.toGe hi2 (apC (Ge.le hge2 (Nat.le_refl _)) (InA.toGe hi1 (apC (Ge.le hge2 (Nat.le_refl _)) (fun p hp => Ge.le (hge1 p hp) (Nat.le_refl _))) (size_le gr2))) (size_le gr3))) (size_le gr4))) (size_le gr5))) (apC (NoAt.bl hB4 rfl) hM4.noats)
        have k9 := ErrR.goB k6 (GB.grown hG gr6) hgl5 (apC (Ge.le hge2 (Nat.le_refl _)) (InA.toGe hi4 (apC (Ge.le hge2 (Nat.le_refl _)) (InA.toGe hi3 (apC (Ge.le hge2 (Nat.le_refl _)) (InA.toGe hi2 (apC (Ge.le hge2 (Nat.le_refl _)) (InA.toGe hi1 (apC (Ge.le hge2 (Nat.le_refl _)) (fun p hp => Ge.le (hge1 p hp) (Nat.le_refl _))) (size_le gr2))) (size_le gr3))) (size_le gr4))) (size_le gr5))) (apC (NoAt.bl hB4 rfl) hM4.noats)
        refine WL.y rfl (Yld.pure tab_ok rfl) ?_
        refine WL.nil (WX.then_normal ?_)
        refine WC.seq ?_
        refine WC.region ?_
        refine WL.y rfl (Yld.pure tab_ok rfl) ?_
        refine WL.call rfl rfl (W_pdisk_Disk_Rise hM5 hB5 dj6 H) ?_
        rintro _ w9 ⟨hgl6, hs_t110_6, t110_21, t110_22, t110_23, t110_24, rfl, hB6, hM6, hi6, dj7, H⟩
        have gr8 := gr_modL gr7 hgl6 (apC (Ge.le hge2 (Nat.le_refl _)) (InA.toGe hi5 (apC (Ge.le hge2 (Nat.le_refl _)) (InA.toGe hi4 (apC (Ge.le hge2 (Nat.le_refl _)) (InA.toGe hi3 (apC (Ge.le hge2 (Nat.le_refl _)) (InA.toGe hi2 (apC (Ge.le hge2 (Nat.le_refl _)) (InA.toGe hi1 (apC (Ge.le hge2 (Nat.le_refl _)) (fun p hp => Ge.le (hge1 p hp) (Nat.le_refl _))) (size_le gr2))) (size_le gr3))) (size_le gr4))) (size_le gr5))) (size_le gr6)))
        have k10 := ErrR.goB k7 (GB.grown hG gr7) hgl6 (apC (Ge.le hge2 (Nat.le_refl _)) (InA.toGe hi5 (apC (Ge.le hge2 (Nat.le_refl _)) (InA.toGe hi4 (apC (Ge.le hge2 (Nat.le_refl _)) (InA.toGe hi3 (apC (Ge.le hge2 (Nat.le_refl _)) (InA.toGe hi2 (apC (Ge.le hge2 (Nat.le_refl _)) (InA.toGe hi1 (apC (Ge.le hge2 (Nat.le_refl _)) (fun p hp => Ge.le (hge1 p hp) (Nat.le_refl _))) (size_le gr2))) (size_le gr3))) (size_le gr4))) (size_le gr5))) (size_le gr6))) (apC (NoAt.bl hB5 rfl) hM5.noats)
        have k11 := ErrR.goB k8 (GB.grown hG gr7) hgl6 (apC (Ge.le hge2 (Nat.le_refl _)) (InA.toGe hi5 (apC (Ge.le hge2 (Nat.le_refl _)) (InA.toGe hi4 (apC (Ge.le hge2 (Nat.le_refl _)) (InA.toGe hi3 (apC (Ge.le hge2 (Nat.le_refl _)) (InA.toGe hi2 (apC (Ge.le hge2 (Nat.le_refl _)) (InA.toGe hi1 (apC (Ge.le hge2 (Nat.le_refl _)) (fun p hp => Ge.le (hge1 p hp) (Nat.le_refl _))) (size_le gr2))) (size_le gr3))) (size_le gr4))) (size_le gr5))) (size_le gr6))) (apC (NoAt.bl hB5 rfl) hM5.noats)
        have k12 := ErrR.goB k9 (GB.grown hG gr7) hgl6 (apC (Ge.le hge2 (Nat.le_refl _)) (InA.toGe hi5 (apC (Ge.le hge2 (Nat.le_refl _)) (InA.toGe hi4 (apC (Ge.le hge2 (Nat.le_refl _)) (InA.toGe hi3 (apC (Ge.le hge2 (Nat.le_refl _)) (InA.toGe hi2 (apC (Ge.le hge2 (Nat.le_refl _)) (InA.toGe hi1 (apC (Ge.le hge2 (Nat.le_refl _)) (fun p hp => Ge.le (hge1 p hp) (Nat.le_refl _))) (size_le gr2))) (size_le gr3))) (size_le gr4))) (size_le gr5))) (size_le gr6))) (apC (NoAt.bl hB5 rfl) hM5.noats)
        have k13 := ErrR.goB hf (GB.grown hG gr7) hgl6 (apC (Ge.le hge2 (Nat.le_refl _)) (InA.toGe hi5 (apC (Ge.le hge2 (Nat.le_refl _)) (InA.toGe hi4 (apC (Ge.le hge2 (Nat.le_refl _)) (InA.toGe hi3 (apC (Ge.le hge2 (Nat.le_refl _)) (InA.toGe hi2 (apC (Ge.le hge2 (Nat.le_refl _)) (InA.toGe hi1 (apC (Ge.le hge2 (Nat.le_refl _)) (fun p hp => Ge.le (hge1 p hp) (Nat.le_refl _))) (size_le gr2))) (size_le gr3))) (size_le gr4))) (size_le gr5))) (size_le gr6))) (apC (NoAt.bl hB5 rfl) hM5.noats)
        refine WL.nil (WX.then_normal ?_)
        refine WC.seq ?_
        refine WC.region ?_
        refine WL.y rfl (Yld.pure tab_ok rfl) ?_
        refine WL.call rfl rfl (W_pdisk_Disk_Read (GB.grown hG gr8) (size_le gr8) (apC (Ge.le hge2 (Nat.le_refl _)) (InA.toGe hi6 (apC (Ge.le hge2 (Nat.le_refl _)) (InA.toGe hi5 (apC (Ge.le hge2 (Nat.le_refl _)) (InA.toGe hi4 (apC (Ge.le hge2 (Nat.le_refl _)) (InA.toGe hi3 (apC (Ge.le hge2 (Nat.le_refl _)) (InA.toGe hi2 (apC (Ge.le hge2 (Nat.le_refl _)) (InA.toGe hi1 (apC (Ge.le hge2 (Nat.le_refl _)) (fun p hp => Ge.le (hge1 p hp) (Nat.le_refl _))) (size_le gr2))) (size_le gr3))) (size_le gr4))) (size_le gr5))) (size_le gr6))) (size_le gr7))) hS15 hM6 hB6 dj7 H) ?_
        rintro _ w10 ⟨hgl7, t340, t341, v_t342, t342, hs_t110_7, t110_25, t110_26, t110_27, t110_28, rfl, ht342, hB7, hM7, hi7, dj8, H⟩
        have gr9 := gr_modL gr8 hgl7 (apC (Ge.le hge2 (Nat.le_refl _)) (InA.toGe hi6 (apC (Ge.le hge2 (Nat.le_refl _)) (InA.toGe hi5 (apC (Ge.le hge2 (Nat.le_refl _)) (InA.toGe hi4 (apC (Ge.le hge2 (Nat.le_refl _)) (InA.toGe hi3 (apC (Ge.le hge2 (Nat.le_refl _)) (InA.toGe hi2 (apC (Ge.le hge2 (Nat.le_refl _)) (InA.toGe hi1 (apC (Ge.le hge2 (Nat.le_refl _)) (fun p hp => Ge.le (hge1 p hp) (Nat.le_refl _))) (size_le gr2))) (size_le gr3))) (size_le gr4))) (size_le gr5))) (size_le gr6))) (size_le gr7)))
        have k14 := ErrR.goB k10 (GB.grown hG gr8) hgl7 (apC (Ge.le hge2 (Nat.le_refl _)) (InA.toGe hi6 (apC (Ge.le hge2 (Nat.le_refl _)) (InA.toGe hi5 (apC (Ge.le hge2 (Nat.le_refl _)) (InA.toGe hi4 (apC (Ge.le hge2 (Nat.le_refl _)) (InA.toGe hi3 (apC (Ge.le hge2 (Nat.le_refl _)) (InA.toGe hi2 (apC (Ge.le hge2 (Nat.le_refl _)) (InA.toGe hi1 (apC (Ge.le hge2 (Nat.le_refl _)) (fun p hp => Ge.le (hge1 p hp) (Nat.le_refl _))) (size_le gr2))) (size_le gr3))) (size_le gr4))) (size_le gr5))) (size_le gr6))) (size_le gr7))) (apC (NoAt.bl hB6 rfl) hM6.noats)
        have k15 := ErrR.goB k11 (GB.grown hG gr8) hgl7 (apC (Ge.le hge2 (Nat.le_refl _)) (InA.toGe hi6 (apC (Ge.le hge2 (Nat.le_refl _)) (InA.toGe hi5 (apC (Ge.le hge2 (Nat.le_refl _)) (InA.toGe hi4 (apC (Ge.le hge2 (Nat.le_refl _)) (InA.toGe hi3 (apC (Ge.le hge2 (Nat.le_refl _)) (InA.toGe hi2 (apC (Ge.le hge2 (Nat.le_refl _)) (InA.toGe hi1 (apC (Ge.le hge2 (Nat.le_refl _)) (fun p hp => Ge.le (hge1 p hp) (Nat.le_refl _))) (size_le gr2))) (size_le gr3))) (size_le gr4))) (size_le gr5))) (size_le gr6))) (size_le gr7))) (apC (NoAt.bl hB6 rfl) hM6.noats)
        have k16 := ErrR.goB k12 (GB.grown hG gr8) hgl7 (apC (Ge.le hge2 (Nat.le_refl _)) (InA.toGe hi6 (apC (Ge.le hge2 (Nat.le_refl _)) (InA.toGe hi5 (apC (Ge.le hge2 (Nat.le_refl _)) (InA.toGe hi4 (apC (Ge.le hge2 (Nat.le_refl _)) (InA.toGe hi3 (apC (Ge.le hge2 (Nat.le_refl _)) (InA.toGe hi2 (apC (Ge.le hge2 (Nat.le_refl _)) (InA.toGe hi1 (apC (Ge.le hge2 (Nat.le_refl _)) (fun p hp => Ge.le (hge1 p hp) (Nat.le_refl _))) (size_le gr2))) (size_le gr3))) (size_le gr4))) (size_le gr5))) (size_le gr6))) (size_le gr7))) (apC (NoAt.bl hB6 rfl) hM6.noats)
        have k17 := ErrR.goB k13 (GB.grown hG gr8) hgl7 (apC (Ge.le hge2 (Nat.le_refl _)) (InA.toGe hi6 (apC (Ge.le hge2 (Nat.le_refl _)) (InA.toGe hi5 (apC (Ge.le hge2 (Nat.le_refl _)) (InA.toGe hi4 (apC (Ge.le hge2 (Nat.le_refl _)) (InA.toGe hi3 (apC (Ge.le hge2 (Nat.le_refl _)) (InA.toGe hi2 (apC (Ge.le hge2 (Nat.le_refl _)) (InA.toGe hi1 (apC (Ge.le hge2 (Nat.le_refl _)) (fun p hp => Ge.le (hge1 p hp) (Nat.le_refl _))) (size_le gr2))) (size_le gr3))) (size_le gr4))) (size_le gr5))) (size_le gr6))) (size_le gr7))) (apC (NoAt.bl hB6 rfl) hM6.noats)
        refine WL.y rfl (Yld.pure tab_ok rfl) ?_
        refine WL.y rfl (Yld.pure tab_ok rfl) ?_
        refine WL.y rfl (Yld.pure tab_ok rfl) ?_
        refine WL.y rfl (Yld.pure tab_ok rfl) ?_
        refine WL.y rfl (Yld.pure tab_ok rfl) ?_
        refine WL.y rfl (Yld.pure tab_ok rfl) ?_
        refine WL.y rfl (Yld.pure tab_ok rfl) ?_
        refine WL.nil (WX.then_normal ?_)
        refine WC.seq ?_
        refine WC.region ?_
        refine WL.y rfl (Yld.pure tab_ok rfl) ?_
        refine WL.y rfl (Yld.erreql Tryd.underlying29 k14 rfl) ?_
        refine WL.y rfl (Yld.pure tab_ok rfl) ?_
        refine WL.midF 3 (fun L' w' => ∃ q3 : Bool, L' = [(43, .bool q3), (5, v_c), (6, v_f), (7, vs t340), (8, .bool t341), (9, v_t342)] ∧ ((decide (a = Er.ok)) && (decide (b = Er.ok))) = q3 ∧ w10 = w') ?_ (fun hQ => ?_)
        · rintro _ _ ⟨q3, rfl, rfl, rfl⟩
          refine WL.y rfl (Yld.pure tab_ok rfl) ?_
          refine WL.midF 3 (fun L' w' => ∃ q4 : Bool, L' = [(47, .bool q4), (6, v_f), (7, vs t340), (8, .bool t341), (9, v_t342)] ∧ (((decide (a = Er.ok)) && (decide (b = Er.ok))) && (decide (c = Er.ok))) = q4 ∧ w10 = w') ?_ (fun hQ => ?_)
          · rintro _ _ ⟨q4, rfl, rfl, rfl⟩
            refine WL.y rfl (Yld.pure tab_ok rfl) ?_
            obtain ⟨J1, H, hJ1⟩ := H
            refine WL.midF 3 (fun L' w' => ∃ q5 : Bool, L' = [(51, .bool q5), (7, vs t340), (8, .bool t341), (9, v_t342)] ∧ J1 q5 ∧ w.grownBy w' none ∧ ErrR S w' v_t342 t342) ?_ (fun hQ => ?_)
            · clear H
              rintro _ w11 ⟨q5, rfl, H, gr10, k18⟩
              replace H := hJ1 q5 H
              refine WL.y rfl (Yld.pure tab_ok rfl) ?_
              refine WL.midF 3 (fun L' w' => ∃ q6 : Bool, L' = [(55, .bool q6), (8, .bool t341), (9, v_t342)] ∧ (q5 && (decide (t340 = ([120, 121] : List UInt8)))) = q6 ∧ w11 = w') ?_ (fun hQ => ?_)
              · rintro _ _ ⟨q6, rfl, rfl, rfl⟩
                refine WL.y rfl (Yld.pure tab_ok rfl) ?_
                refine WL.midF 2 (fun L' w' => ∃ q7 : Bool, L' = [(58, .bool q7), (9, v_t342)] ∧ ((q5 && (decide (t340 = ([120, 121] : List UInt8)))) && t341) = q7 ∧ w11 = w') ?_ (fun hQ => ?_)
                · rintro _ _ ⟨q7, rfl, rfl, rfl⟩
                  refine WL.y rfl (Yld.pure tab_ok rfl) ?_
                  refine WL.midF 3 (fun L' w' => ∃ q8 : Bool, L' = [(62, .bool q8)] ∧ (((q5 && (decide (t340 = ([120, 121] : List UInt8)))) && t341) && (decide (t342 = Er.ok))) = q8 ∧ w11 = w') ?_ (fun hQ => ?_)
                  · rintro _ _ ⟨q8, rfl, rfl, rfl⟩
                    refine WL.y rfl (Yld.pure tab_ok rfl) ?_
                    refine WL.nil (WX.then_normal ?_)
                    refine WC.ret ?_
                    exact WX.ret1 rfl rfl ⟨gr10, ((q5 && (decide (t340 = ([120, 121] : List UInt8)))) && t341) && (decide (t342 = Er.ok)), rfl, H⟩
                  · clear H
                    rcases Bool.eq_false_or_eq_true ((q5 && (decide (t340 = ([120, 121] : List UInt8)))) && t341) with b2 | b2
                    · refine WL.gyes rfl rfl (okb b2) rfl (Yld.pure tab_ok rfl) ?_
                      refine WL.gyes rfl rfl (okb b2) rfl (Yld.erreql Tryd.underlying29 k18 rfl) ?_
                      refine WL.y rfl (Yld.pickT (okb b2) rfl) ?_
                      exact WL.weaken (by repeat (first | exact Sub.nil | refine Sub.cons rfl ?_)) (hQ _ _ ⟨decide (t342 = Er.ok), rfl, by rw [b2] <;> rfl, rfl⟩)
                    · refine WL.gno rfl rfl (okb b2) rfl ?_
                      refine WL.gno rfl rfl (okb b2) rfl ?_
                      refine WL.y rfl (Yld.pickF (okb b2) rfl) ?_
                      exact WL.weaken (by repeat (first | exact Sub.nil | refine Sub.cons rfl ?_)) (hQ _ _ ⟨false, rfl, by rw [b2] <;> rfl, rfl⟩)
                · clear H
                  rcases Bool.eq_false_or_eq_true (q5 && (decide (t340 = ([120, 121] : List UInt8)))) with b3 | b3
                  · refine WL.gyes rfl rfl (okb b3) rfl (Yld.pure tab_ok rfl) ?_
                    refine WL.y rfl (Yld.pickT (okb b3) rfl) ?_
                    exact WL.weaken (by repeat (first | exact Sub.nil | refine Sub.cons rfl ?_)) (hQ _ _ ⟨t341, rfl, by rw [b3] <;> rfl, rfl⟩)
                  · refine WL.gno rfl rfl (okb b3) rfl ?_
                    refine WL.y rfl (Yld.pickF (okb b3) rfl) ?_
                    exact WL.weaken (by repeat (first | exact Sub.nil | refine Sub.cons rfl ?_)) (hQ _ _ ⟨false, rfl, by rw [b3] <;> rfl, rfl⟩)
              · clear H
                rcases Bool.eq_false_or_eq_true (q5) with b4 | b4
                · refine WL.gyes rfl rfl (okb b4) rfl (Yld.pure tab_ok rfl) ?_
                  refine WL.gyes rfl rfl (okb b4) rfl (Yld.pure tab_ok rfl) ?_
                  refine WL.y rfl (Yld.pickT (okb b4) rfl) ?_
                  exact WL.weaken (by repeat (first | exact Sub.nil | refine Sub.cons rfl ?_)) (hQ _ _ ⟨decide (t340 = ([120, 121] : List UInt8)), rfl, by rw [b4] <;> rfl, rfl⟩)
                · refine WL.gno rfl rfl (okb b4) rfl ?_
                  refine WL.gno rfl rfl (okb b4) rfl ?_
                  refine WL.y rfl (Yld.pickF (okb b4) rfl) ?_
                  exact WL.weaken (by repeat (first | exact Sub.nil | refine Sub.cons rfl ?_)) (hQ _ _ ⟨false, rfl, by rw [b4] <;> rfl, rfl⟩)
            · clear hJ1
              rcases Bool.eq_false_or_eq_true (((decide (a = Er.ok)) && (decide (b = Er.ok))) && (decide (c = Er.ok))) with b5 | b5
              · replace H := H.1 b5
                refine WL.gyes rfl rfl (okb b5) rfl (Yld.pure tab_ok rfl) ?_
                refine WL.callw (wants_some rfl rfl (okb b5)) rfl rfl (W_smithysee_Is (hG.grown gr9) hS0 hS1 hS2 hS3 hS4 hS5 hS6 hS7 hS8 hS9 hS10 hS11 hS12 hS13 hS14 hS15 hS16 k17 H) ?_
                rintro _ w12 ⟨hg3, t50, rfl, H⟩
                have gr11 := gr_trans gr9 hg3
                have k19 := k17.grown hg3
                have k20 := ht342.grown hg3
                refine WL.y rfl (Yld.pickT (okb b5) rfl) ?_
                exact WL.weaken (by repeat (first | exact Sub.nil | refine Sub.cons rfl ?_)) (hQ _ _ ⟨t50, rfl, H, gr11, k20⟩)
              · replace H := H.2 b5
                refine WL.gno rfl rfl (okb b5) rfl ?_
                refine WL.gno rfl rfl (okb b5) rfl ?_
                refine WL.y rfl (Yld.pickF (okb b5) rfl) ?_
                exact WL.weaken (by repeat (first | exact Sub.nil | refine Sub.cons rfl ?_)) (hQ _ _ ⟨false, rfl, H, gr9, ht342⟩)
          · clear H
            rcases Bool.eq_false_or_eq_true ((decide (a = Er.ok)) && (decide (b = Er.ok))) with b6 | b6
            · refine WL.gyes rfl rfl (okb b6) rfl (Yld.pure tab_ok rfl) ?_
              refine WL.gyes rfl rfl (okb b6) rfl (Yld.erreql Tryd.underlying29 k16 rfl) ?_
              refine WL.y rfl (Yld.pickT (okb b6) rfl) ?_
              exact WL.weaken (by repeat (first | exact Sub.nil | refine Sub.cons rfl ?_)) (hQ _ _ ⟨decide (c = Er.ok), rfl, by rw [b6] <;> rfl, rfl⟩)
            · refine WL.gno rfl rfl (okb b6) rfl ?_
              refine WL.gno rfl rfl (okb b6) rfl ?_
              refine WL.y rfl (Yld.pickF (okb b6) rfl) ?_
              exact WL.weaken (by repeat (first | exact Sub.nil | refine Sub.cons rfl ?_)) (hQ _ _ ⟨false, rfl, by rw [b6] <;> rfl, rfl⟩)
        · clear H
          rcases Bool.eq_false_or_eq_true (decide (a = Er.ok)) with b7 | b7
          · refine WL.gyes rfl rfl (okb b7) rfl (Yld.pure tab_ok rfl) ?_
            refine WL.gyes rfl rfl (okb b7) rfl (Yld.erreql Tryd.underlying29 k15 rfl) ?_
            refine WL.y rfl (Yld.pickT (okb b7) rfl) ?_
            exact WL.weaken (by repeat (first | exact Sub.nil | refine Sub.cons rfl ?_)) (hQ _ _ ⟨decide (b = Er.ok), rfl, by rw [b7] <;> rfl, rfl⟩)
          · refine WL.gno rfl rfl (okb b7) rfl ?_
            refine WL.gno rfl rfl (okb b7) rfl ?_
            refine WL.y rfl (Yld.pickF (okb b7) rfl) ?_
            exact WL.weaken (by repeat (first | exact Sub.nil | refine Sub.cons rfl ?_)) (hQ _ _ ⟨false, rfl, by rw [b7] <;> rfl, rfl⟩)
    · clear H
      refine WL.gyes rfl rfl (rfl) rfl (Yld.pure tab_ok rfl) ?_
      refine WL.gyes rfl rfl (rfl) rfl (Yld.errneq Tryd.underlying29 ht1112 rfl) ?_
      refine WL.y rfl (Yld.pickF (rfl) rfl) ?_
      exact WL.weaken (by repeat (first | exact Sub.nil | refine Sub.cons rfl ?_)) (hQ _ _ ⟨!decide (t1112 = Er.ok), rfl, rfl, rfl⟩)

end Go.Proofs.YtlonpmajnglmoaaDoor

 /- smithylaw1.first; Dir, Base, Under; PathDirs. -/
namespace Go.Proofs.YtlonpmajnglmoaaDoor
open Go Go.RowKit
end Go.Proofs.YtlonpmajnglmoaaDoor


 /- Patterns at work: PathStars. -/
namespace Go.Proofs.YtlonpmajnglmoaaDoor
open Go Go.RowKit
end Go.Proofs.YtlonpmajnglmoaaDoor


 /- Clean twice: PathAgain. -/
namespace Go.Proofs.YtlonpmajnglmoaaDoor
open Go Go.RowKit
end Go.Proofs.YtlonpmajnglmoaaDoor


 /- The chapter's own words for paths (smithyref1), and PathSays. -/
namespace Go.Proofs.YtlonpmajnglmoaaDoor
open Go Go.RowKit
end Go.Proofs.YtlonpmajnglmoaaDoor


 /- Globs: the plain side. -/
namespace Go.Proofs.YtlonpmajnglmoaaDoor
open Go Go.RowKit
theorem amongTexts_M {l : List Bs} {s : Bs} {K : Int → Prop} (hl : l.length ≤ 1000000000) (h0 : s ∉ l → K (-1)) (h1 : ∀ i : Int, 0 ≤ i → s ∈ l → K i) : M_smithyref_AmongTexts l s K := by
  intro _
  refine ⟨fun i => 0 ≤ i ∧ i ≤ l.length ∧ ∀ j, j < i.toNat → l.getD j [] ≠ s, fun i => l.length - i.toNat, ⟨by omega, by omega, by intro j hj; simp at hj⟩, fun i ⟨a0, a1, a2⟩ => ⟨fun hlt => ⟨by omega, fun he => ?_, fun hne => ⟨by simp only [In]; omega, ⟨by omega, by omega, fun j hj => ?_⟩, by (try dsimp only); omega⟩⟩, fun hge => ?_⟩⟩
  · refine h1 i a0 ?_
    rw [← he]
    exact getD_mem (by omega)
  · by_cases e : j = i.toNat
    · rw [e]; exact hne
    · exact a2 j (by omega)
  · refine h0 fun hm => ?_
    obtain ⟨j, hj, he⟩ := List.getElem_of_mem hm
    refine a2 j (by omega) ?_
    simp [List.getD, hj, he]
end Go.Proofs.YtlonpmajnglmoaaDoor


 /- DiskArms and DiskFiles, plainly. -/
namespace Go.Proofs.YtlonpmajnglmoaaDoor
open Go Go.RowKit
theorem numR_M {n below : Int} {K : Int → Prop} (hn : In .i64 n) (hb : 0 < below) (hb2 : below ≤ 100000) (h : ∀ m, 0 ≤ m → m < below → K m) : M_smithyworld_Number n below K := by
  unfold M_smithyworld_Number
  have h1 := Int.tmod_lt_of_pos n hb
  have h2 := Int.lt_tmod_of_pos n hb
  simp only [In] at hn
  refine ⟨by omega, by simp only [In]; omega, by omega, ?_⟩
  have h3 : 0 ≤ n.tmod below + below := by omega
  rw [Int.tmod_eq_emod_of_nonneg h3]
  exact h _ (Int.emod_nonneg _ (by omega)) (Int.emod_lt_of_pos _ hb)
theorem new0_M {K0 : Er → Prop} {K : DF → Int → Int → Bool → Er → Prop} (h : K [] 0 0 false .ok) : M_disk_New [] K0 K := by
  intro _
  refine ⟨fun i fs => i = 0 ∧ fs = [], fun _ _ => 0, ⟨rfl, rfl⟩, fun i fs ⟨a0, a1⟩ => ⟨fun hlt => ?_, fun _ => ⟨fun hb => ?_, fun _ => by rw [a1]; exact h⟩⟩⟩
  · subst a0; simp at hlt
  · simp at hb
theorem sort1 (x : List UInt8) : sortB [x] = [x] := by unfold sortB; simp
theorem dfirst_M {K : Bool → Prop} (h : K true) : M_smithylaw3_first K := by
  have va : validB ([97] : List UInt8) = true := by decide +kernel
  refine new0_M ⟨fun h => absurd rfl h, fun _ => ?_⟩
  refine put0_M (by simp) (by omega) (by omega) (by simp) (by simp) (by simp [fil, mget, fz]) (by simp [fil, mget, fz]) ?_
  rw [dlay_ok va (by simp) (by simp)]
  show M_pdisk_Disk_Sync [([97], ([120], true, [], false, [(0, [120])]))] _ _ _ _ _
  refine sync0_M (by simp) (by omega) (by omega) ?_
  have e1 : dsync [([97], ([120], true, [], false, [((0 : Int), [120])]))] [97] = (.ok, [([97], ([120], true, [120], true, []))]) := by
    unfold dsync
    rw [if_neg (by rw [va]; simp)]
    rfl
  rw [e1]
  refine put0_M (by simp) (by omega) (by omega) (by simp) (by simp) (by decide) (by decide) ?_
  rw [dlay_ok va (by simp) (by decide)]
  show M_pdisk_Disk_Arm [([97], ([120, 121, 122], true, [120], true, [(1, [121, 122])]))] _ _ _ _ _
  show M_pdisk_Disk_Sync _ _ 1 _ _ _
  refine sync_M (by simp) (by omega) (by omega) (by omega) fun o l d => ⟨fun e he hne => ?_, fun he => ?_⟩
  · simp [dcall] at he
    obtain ⟨rfl, rfl, rfl, rfl⟩ := he
    refine rise_M (by simp) (by simp [maxLen]) (by simp only [In]; omega) (fun k => ?_) ?_
    · unfold fil mget SmallF
      split
      · simp
      · simp [mget, fz]
    · rw [if_pos rfl]
      have e2 : riseAll (max0 1) (sortB (([([97], (([120, 121, 122], true, [120], true, [((1 : Int), [121, 122])]) : Fil))] : DF).map (·.1))) (max0 0) [([97], ([120, 121, 122], true, [120], true, [(1, [121, 122])]))] = [([97], ([120, 121], true, [120, 121], true, []))] := by
        show riseAll (max0 1) (sortB [[97]]) _ _ = _
        rw [sort1]
        rfl
      rw [e2]
      refine dread0_M (by simp [maxLen]) (by omega) (by omega) ?_
      have e3 : dtext [([97], ([120, 121], true, [120, 121], true, []))] [97] = [120, 121] := by decide +kernel
      have e4 : thereB [([97], ([120, 121], true, [120, 121], true, []))] [97] = true := by decide +kernel
      rw [e3, e4]
      refine ⟨fun b => b = true, ⟨fun _ => is_M rfl, fun h => by simp at h⟩, fun q hq => ?_⟩
      rw [hq]
      simpa using h
  · simp [dcall] at he
end Go.Proofs.YtlonpmajnglmoaaDoor


 /- DiskFiles, plainly. -/
namespace Go.Proofs.YtlonpmajnglmoaaDoor
open Go Go.RowKit
def nms : List (List UInt8) := [[97], [98, 47, 99], [100]]
def nm (k : Nat) : List UInt8 := nms.getD k []
theorem nm_inj {j k : Nat} (hj : j < 3) (hk : k < 3) (h : nm j = nm k) : j = k := by
  match j, k, hj, hk with
  | 0, 0, _, _ => rfl
  | 1, 1, _, _ => rfl
  | 2, 2, _, _ => rfl
  | 0, 1, _, _ => exact absurd h (by decide)
  | 0, 2, _, _ => exact absurd h (by decide)
  | 1, 0, _, _ => exact absurd h (by decide)
  | 1, 2, _, _ => exact absurd h (by decide)
  | 2, 0, _, _ => exact absurd h (by decide)
  | 2, 1, _, _ => exact absurd h (by decide)
structure DInv (fs : DF) (hv : List Bool) (tx : List (List UInt8)) (n : Nat) : Prop where
  uq : Uq fs
  len : fs.length ≤ n
  keys : ∀ p ∈ fs, ∃ k, k < 3 ∧ p.1 = nm k
  hl : hv.length = 3
  tl : tx.length = 3
  there : ∀ k, k < 3 → thereB fs (nm k) = hv.getD k false
  text : ∀ k, k < 3 → (fil fs (nm k)).1 = tx.getD k []
  none : ∀ k, k < 3 → hv.getD k false = false → tx.getD k [] = []
  size : ∀ k, k < 3 → (tx.getD k []).length ≤ 100 * n
  since : ∀ k, k < 3 → (fil fs (nm k)).2.2.2.2.length ≤ n
theorem getD_setF {α : Type} {l : List α} {i j : Nat} {x d : α} (hi : i < l.length) : (l.set i x).getD j d = if i = j then x else l.getD j d := by
  simp only [List.getD, List.getElem?_set]
  by_cases e : i = j
  · subst e; simp [hi]
  · simp [e]
theorem DInv.put {fs : DF} {hv : List Bool} {tx : List (List UInt8)} {n k : Nat} (h : DInv fs hv tx n) (hk : k < 3) {t s : List UInt8} {b w : Bool} {l : List (Int × List UInt8)} (ht : t.length ≤ 100 * (n + 1)) (hb : b = false → t = []) (hll : l.length ≤ n + 1) : DInv (mput fs (nm k) (t, b, s, w, l)) (hv.set k b) (tx.set k t) (n + 1) := by
  have hk1 : k < hv.length := by rw [h.hl]; exact hk
  have hk2 : k < tx.length := by rw [h.tl]; exact hk
  have hne : ∀ {j}, j < 3 → (nm k = nm j ↔ k = j) := fun hj => ⟨nm_inj hk hj, fun e => by rw [e]⟩
  refine ⟨h.uq.put _ _, ?_, ?_, by rw [List.length_set, h.hl], by rw [List.length_set, h.tl], ?_, ?_, ?_, ?_, ?_⟩
  · rw [mput_len]; have := h.len; split <;> omega
  · intro p hp
    rcases mput_mem hp with rfl | hp
    · exact ⟨k, hk, rfl⟩
    · exact h.keys p hp
  · intro j hj
    rw [getD_setF hk1]
    unfold thereB
    rw [fil_put]
    by_cases e : k = j
    · subst e; rw [if_pos rfl, if_pos rfl]
    · rw [if_neg (fun e2 => e ((hne hj).1 e2)), if_neg e]; exact h.there j hj
  · intro j hj
    rw [getD_setF hk2, fil_put]
    by_cases e : k = j
    · subst e; rw [if_pos rfl, if_pos rfl]
    · rw [if_neg (fun e2 => e ((hne hj).1 e2)), if_neg e]; exact h.text j hj
  · intro j hj
    rw [getD_setF hk1, getD_setF hk2]
    by_cases e : k = j
    · rw [if_pos e, if_pos e]; exact hb
    · rw [if_neg e, if_neg e]; exact h.none j hj
  · intro j hj
    rw [getD_setF hk2]
    by_cases e : k = j
    · rw [if_pos e]; exact ht
    · rw [if_neg e]; have := h.size j hj; omega
  · intro j hj
    rw [fil_put]
    by_cases e : k = j
    · subst e; rw [if_pos rfl]; exact hll
    · rw [if_neg (fun e2 => e ((hne hj).1 e2))]; have := h.since j hj; omega
theorem DInv.mono {fs : DF} {hv : List Bool} {tx : List (List UInt8)} {n : Nat} (h : DInv fs hv tx n) : DInv fs hv tx (n + 1) :=
  ⟨h.uq, Nat.le_succ_of_le h.len, h.keys, h.hl, h.tl, h.there, h.text, h.none, fun k hk => by have := h.size k hk; omega, fun k hk => Nat.le_succ_of_le (h.since k hk)⟩
theorem set_same {α : Type} {l : List α} {k : Nat} {d : α} (hk : k < l.length) : l.set k (l.getD k d) = l := by
  rw [show l.getD k d = l[k] by simp [List.getD, hk]]
  exact List.set_getElem_self hk
end Go.Proofs.YtlonpmajnglmoaaDoor


 /- Slices of slices, of the call's own: the outer one holds the inner ones' heads, each in a block of its own. -/
namespace Go.Proofs.YtlonpmajnglmoaaDoor
open Go Go.RowKit
/-- an inner slice's place and room -/
abbrev Hd := Option Addr × Nat
def hz : Hd := (none, 0)
def hA (hs : List Hd) (j : Nat) : Option Addr := (hs.getD j hz).1
def hC (hs : List Hd) (j : Nat) : Nat := (hs.getD j hz).2
def hv {α : Type} (y : List α × Hd) : Value := .slice y.2.1 y.1.length y.2.2
/-- where it lies; without the one that is open -/
def FPd (A : Option Addr) (hs : List Hd) (q0 : Option Nat) : List (Option Nat) := blk A :: ((List.range hs.length).filter fun j => decide (some j ≠ q0)).map fun j => blk (hA hs j)
structure DeepO {α : Type} (f : α → Value) (w : World) (B : Nat) (e e' : TypeId) (A : Option Addr) (c : Nat) (hs : List Hd) (xs : List (List α)) (q0 : Option Nat) : Prop where
  out : Own hv w B e A c (xs.zip hs)
  len : hs.length = xs.length
  inn : ∀ j, j < xs.length → some j ≠ q0 → Own f w B e' (hA hs j) (hC hs j) (xs.getD j [])
  dm : ∀ j, j < xs.length → some j ≠ q0 → Dj (blk A) (blk (hA hs j))
  dd : ∀ i j, i ≠ j → i < xs.length → j < xs.length → some i ≠ q0 → some j ≠ q0 → Dj (blk (hA hs i)) (blk (hA hs j))
section
variable {α : Type} {f : α → Value} {w w' : World} {B n : Nat} {e e' : TypeId} {A A' : Option Addr} {c c' : Nat} {hs : List Hd} {xs : List (List α)} {ys : List α} {q0 : Option Nat} {Q : Option Nat → Prop} {ps : List (Option Nat)} {row p : Option Nat} {j : Nat}
theorem allFPd : AllP Q (FPd A hs q0) ↔ Q (blk A) ∧ ∀ j, j < hs.length → some j ≠ q0 → Q (blk (hA hs j)) := by
  constructor
  · intro h
    exact ⟨h _ (List.Mem.head _), fun j hj hq => h _ (List.Mem.tail _ (List.mem_map.2 ⟨j, List.mem_filter.2 ⟨List.mem_range.2 hj, by simpa using hq⟩, rfl⟩))⟩
  · rintro ⟨h1, h2⟩ p hp
    cases hp with
    | head => exact h1
    | tail _ hp =>
      obtain ⟨j, hj, rfl⟩ := List.mem_map.1 hp
      obtain ⟨hm, hq⟩ := List.mem_filter.1 hj
      exact h2 j (List.mem_range.1 hm) (by simpa using hq)
theorem DeepO.goL (h : DeepO f w B e e' A c hs xs q0) (hg : GrL ps w w') (hd : AllP (fun r => AllP (Dj r) (FPd A hs q0)) ps) : DeepO f w' B e e' A c hs xs q0 :=
  ⟨h.out.goL hg fun p hp => ((allFPd.1 (hd p hp)).1).symm, h.len, fun j hj hq => (h.inn j hj hq).goL hg fun p hp => ((allFPd.1 (hd p hp)).2 j (by rw [h.len]; exact hj) hq).symm, h.dm, h.dd⟩
theorem DeepO.go (h : DeepO f w B e e' A c hs xs q0) (hg : w.grownBy w' row) (hd : AllP (Dj row) (FPd A hs q0)) : DeepO f w' B e e' A c hs xs q0 := h.goL (GrL.of1 hg) (apC hd apN)
theorem DeepO.g0 (h : DeepO f w B e e' A c hs xs q0) (hg : w.grownBy w' none) : DeepO f w' B e e' A c hs xs q0 := h.goL (ps := []) (GrL.of0 hg) apN
theorem DeepO.eqv (hw : Eqv w w') (h : DeepO f w B e e' A c hs xs q0) : DeepO f w' B e e' A c hs xs q0 := h.g0 (gr_eqv (gr_refl w none) hw)
theorem DeepO.lt' (h : DeepO f w B e e' A c hs xs q0) : AllP (fun p => Lt p w.heap.size) (FPd A hs q0) := allFPd.2 ⟨h.out.lt', fun j hj hq => (h.inn j (by rw [← h.len]; exact hj) hq).lt'⟩
theorem DeepO.ge' (h : DeepO f w B e e' A c hs xs q0) : AllP (fun p => Ge p B) (FPd A hs q0) := allFPd.2 ⟨h.out.ge', fun j hj hq => (h.inn j (by rw [← h.len]; exact hj) hq).ge'⟩
theorem DeepO.new (h : DeepO f w B e e' A c hs xs q0) (hp : Ge p w.heap.size) : AllP (Dj p) (FPd A hs q0) := fun r hr => (Dj.new (h.lt' r hr) hp).symm
theorem DeepO.inp (h : DeepO f w B e e' A c hs xs q0) (hp : InP ps w.heap.size p) (hd : AllP (fun r => AllP (Dj r) (FPd A hs q0)) ps) : AllP (Dj p) (FPd A hs q0) := fun r hr => InP.dj hp (h.lt' r hr) (fun s hs' => (hd s hs' r hr).symm)
theorem DeepO.inpA {F : List (Option Nat)} (h : DeepO f w B e e' A c hs xs q0) (hin : AllP (InP ps w.heap.size) F) (hd : AllP (fun r => AllP (Dj r) (FPd A hs q0)) ps) : AllP (fun p => AllP (Dj p) (FPd A hs q0)) F := fun p hp => h.inp (hin p hp) hd
theorem DeepO.app {p' : Option Nat} (h : DeepO f w B e e' A c hs xs q0) (k : AllP (Dj p) (FPd A hs q0)) (hk : ∀ g, p' = some g → p = some g ∨ w.heap.size ≤ g) : AllP (Dj p') (FPd A hs q0) := fun r hr => Dj.app (k r hr) (h.lt' r hr) hk
theorem FPd.noats (h : DeepO f w B e e' A c hs xs q0) (h1 : Nat.beq e 165 = false) (h2 : Nat.beq e' 165 = false) : AllP (NoAt w) (FPd A hs q0) := allFPd.2 ⟨NoAt.own h.out h1, fun j hj hq => NoAt.own (h.inn j (by rw [← h.len]; exact hj) hq) h2⟩
theorem zip_getDd {j : Nat} (hl : hs.length = xs.length) (hj : j < xs.length) : (xs.zip hs).getD j ([], hz) = (xs.getD j [], (hA hs j, hC hs j)) := by
  have h1 : j < hs.length := by omega
  have h2 : j < (xs.zip hs).length := by rw [List.length_zip]; omega
  have e1 : (xs.zip hs)[j]? = some (xs[j], hs[j]) := by rw [List.getElem?_eq_getElem h2, List.getElem_zip]
  have e2 : (xs.zip hs).getD j ([], hz) = (xs[j], hs[j]) := by rw [List.getD, e1]; rfl
  rw [e2]
  unfold hA hC
  simp [List.getD, hj, h1]
theorem zip_setd (hl : hs.length = xs.length) (j : Nat) (y : List α) (h : Hd) : (xs.zip hs).set j (y, h) = (xs.set j y).zip (hs.set j h) := by
  refine List.ext_getElem (by simp) fun i h1 h2 => ?_
  simp only [List.getElem_set, List.getElem_zip]
  split <;> rfl
theorem DeepO.zl (h : DeepO f w B e e' A c hs xs q0) : (xs.zip hs).length = xs.length := by rw [List.length_zip, h.len, Nat.min_self]
/-- an inner one is read -/
theorem DeepO.rd (h : DeepO f w B e e' A c hs xs none) (hj : j < xs.length) : Rd f w (hA hs j) (hC hs j) (xs.getD j []) := (h.inn j hj (by simp)).rd
/-- an inner one is opened -/
theorem DeepO.open (h : DeepO f w B e e' A c hs xs none) (hj : j < xs.length) : Own f w B e' (hA hs j) (hC hs j) (xs.getD j []) ∧ DeepO f w B e e' A c hs xs (some j) ∧ AllP (Dj (blk (hA hs j))) (FPd A hs (some j)) := by
  refine ⟨h.inn j hj (by simp), ⟨h.out, h.len, fun i hi _ => h.inn i hi (by simp), fun i hi _ => h.dm i hi (by simp), fun i k hik hi hk _ _ => h.dd i k hik hi hk (by simp) (by simp)⟩, allFPd.2 ⟨(h.dm j hj (by simp)).symm, fun i hi hq => ?_⟩⟩
  exact h.dd j i (fun e => hq (by rw [e])) hj (by rw [← h.len]; exact hi) (by simp) (by simp)
theorem FPd.sub (k : AllP Q (FPd A hs none)) : AllP Q (FPd A hs (some j)) := allFPd.2 ⟨(allFPd.1 k).1, fun i hi _ => (allFPd.1 k).2 i hi (by simp)⟩
theorem FPd.at (hl : j < hs.length) (k : AllP Q (FPd A hs none)) : Q (blk (hA hs j)) := (allFPd.1 k).2 j hl (by simp)
theorem DeepO.at (h : DeepO f w B e e' A c hs xs q0) (hj : j < xs.length) (k : AllP Q (FPd A hs none)) : Q (blk (hA hs j)) := FPd.at (by rw [h.len]; exact hj) k
theorem apSym {F G : List (Option Nat)} (h : AllP (fun p => AllP (Dj p) F) G) : AllP (fun p => AllP (Dj p) G) F := fun p hp q hq => (h q hq p hp).symm
theorem FPd.made {l : List (List α × Hd)} (k : Q (blk A)) (kl : AllP Q (l.map fun y => blk y.2.1)) : AllP Q (FPd A (l.map (·.2)) none) := by
  refine allFPd.2 ⟨k, fun j hj _ => ?_⟩
  rw [List.length_map] at hj
  refine kl _ ?_
  have : blk (hA (l.map (·.2)) j) = blk l[j].2.1 := by simp [hA, List.getD, hj]
  rw [this]
  exact List.mem_map.2 ⟨_, List.getElem_mem hj, rfl⟩
theorem FPd.closeA (k : AllP Q (FPd A hs (some j))) (k1 : Q (blk A')) : AllP Q (FPd A (hs.set j (A', c')) none) := by
  refine allFPd.2 ⟨(allFPd.1 k).1, fun i hi _ => ?_⟩
  rw [List.length_set] at hi
  unfold hA
  by_cases e : j = i
  · subst e
    have : (hs.set j (A', c')).getD j hz = (A', c') := by simp [List.getD, hi]
    rw [this]; exact k1
  · have : (hs.set j (A', c')).getD i hz = hs.getD i hz := by simp [List.getD, List.getElem?_set, e]
    rw [this]
    exact (allFPd.1 k).2 i hi (fun e2 => e (Option.some.inj e2).symm)
theorem DeepO.sub (h : DeepO f w B e e' A c hs xs none) (j : Nat) : DeepO f w B e e' A c hs xs (some j) := ⟨h.out, h.len, fun i hi _ => h.inn i hi (by simp), fun i hi _ => h.dm i hi (by simp), fun i k hik hi hk _ _ => h.dd i k hik hi hk (by simp) (by simp)⟩
/-- one is laid at a place -/
theorem DeepO.lay (h : DeepO f w B e e' A c hs xs (some j)) (hO : Own hv w' B e A c ((xs.zip hs).set j (ys, (A', c')))) (hg : w.grownBy w' (blk A)) (hj : j < xs.length) (hE : Own f w B e' A' c' ys) (hd : AllP (Dj (blk A')) (FPd A hs (some j))) : DeepO f w' B e e' A c (hs.set j (A', c')) (xs.set j ys) none := by
  have hd' := allFPd.1 hd
  have hjh : j < hs.length := by rw [h.len]; exact hj
  rw [zip_setd h.len] at hO
  have hA1 : hA (hs.set j (A', c')) j = A' := by unfold hA; simp [List.getD, hjh]
  have hC1 : hC (hs.set j (A', c')) j = c' := by unfold hC; simp [List.getD, hjh]
  have hA2 : ∀ {i}, j ≠ i → hA (hs.set j (A', c')) i = hA hs i := fun hi => by unfold hA; simp [List.getD, List.getElem?_set, hi]
  have hC2 : ∀ {i}, j ≠ i → hC (hs.set j (A', c')) i = hC hs i := fun hi => by unfold hC; simp [List.getD, List.getElem?_set, hi]
  have hX1 : (xs.set j ys).getD j [] = ys := by simp [List.getD, hj]
  have hX2 : ∀ {i}, j ≠ i → (xs.set j ys).getD i [] = xs.getD i [] := fun hi => by simp [List.getD, List.getElem?_set, hi]
  have hne : ∀ {i}, j ≠ i → some i ≠ some j := fun hi e2 => hi (Option.some.inj e2).symm
  refine ⟨hO, by rw [List.length_set, List.length_set]; exact h.len, fun i hi _ => ?_, fun i hi _ => ?_, fun i k hik hi hk _ _ => ?_⟩
  · rw [List.length_set] at hi
    by_cases e : j = i
    · subst e
      rw [hA1, hC1, hX1]
      exact hE.go hg hd'.1
    · rw [hA2 e, hC2 e, hX2 e]
      exact (h.inn i hi (hne e)).go hg (h.dm i hi (hne e)).symm
  · rw [List.length_set] at hi
    by_cases e : j = i
    · subst e
      rw [hA1]
      exact hd'.1.symm
    · rw [hA2 e]
      exact h.dm i hi (hne e)
  · rw [List.length_set] at hi hk
    by_cases e : j = i
    · subst e
      rw [hA1, hA2 hik]
      exact hd'.2 k (by rw [h.len]; exact hk) (hne hik)
    · by_cases e2 : j = k
      · subst e2
        rw [hA1, hA2 e]
        exact (hd'.2 i (by rw [h.len]; exact hi) (hne e)).symm
      · rw [hA2 e, hA2 e2]
        exact h.dd i k hik hi hk (hne e) (hne e2)
/-- closed as_ it was -/
theorem DeepO.back (h : DeepO f w B e e' A c hs xs (some j)) (hE : Own f w B e' (hA hs j) (hC hs j) (xs.getD j [])) (hd : AllP (Dj (blk (hA hs j))) (FPd A hs (some j))) : DeepO f w B e e' A c hs xs none := by
  have hd' := allFPd.1 hd
  refine ⟨h.out, h.len, fun i hi _ => ?_, fun i hi _ => ?_, fun i k hik hi hk _ _ => ?_⟩
  · by_cases e : i = j
    · subst e; exact hE
    · exact h.inn i hi (fun e2 => e (Option.some.inj e2))
  · by_cases e : i = j
    · subst e; exact hd'.1.symm
    · exact h.dm i hi (fun e2 => e (Option.some.inj e2))
  · by_cases e : i = j
    · subst e
      exact hd'.2 k (by rw [h.len]; exact hk) (fun e2 => hik (Option.some.inj e2).symm)
    · by_cases e2 : k = j
      · subst e2
        exact (hd'.2 i (by rw [h.len]; exact hi) (fun e3 => hik (Option.some.inj e3))).symm
      · exact h.dd i k hik hi hk (fun e3 => e (Option.some.inj e3)) (fun e3 => e2 (Option.some.inj e3))
/-- built of some that are there -/
theorem DeepO.made {l : List (List α × Hd)} (hO : Own hv w B e A c l) (h1 : ∀ y ∈ l, Own f w B e' y.2.1 y.2.2 y.1 ∧ Dj (blk A) (blk y.2.1)) (h2 : l.Pairwise fun y z => Dj (blk y.2.1) (blk z.2.1)) : DeepO f w B e e' A c (l.map (·.2)) (l.map (·.1)) none := by
  have hz2 : (l.map (·.1)).zip (l.map (·.2)) = l := by
    clear hO h1 h2
    induction l with
    | nil => rfl
    | cons y l ih => rw [List.map_cons, List.map_cons, List.zip_cons_cons, ih]
  have hat : ∀ {j}, j < (l.map (·.1)).length → ∃ hj : j < l.length, hA (l.map (·.2)) j = l[j].2.1 ∧ hC (l.map (·.2)) j = l[j].2.2 ∧ (l.map (·.1)).getD j [] = l[j].1 := fun {j} hj => by
    rw [List.length_map] at hj
    exact ⟨hj, by simp [hA, List.getD, hj], by simp [hC, List.getD, hj], by simp [List.getD, hj]⟩
  refine ⟨by rw [hz2]; exact hO, by rw [List.length_map, List.length_map], fun j hj _ => ?_, fun j hj _ => ?_, fun i j hij hi hj _ _ => ?_⟩
  · obtain ⟨h, e1, e2, e3⟩ := hat hj
    rw [e1, e2, e3]; exact (h1 _ (List.getElem_mem h)).1
  · obtain ⟨h, e1, _, _⟩ := hat hj
    rw [e1]; exact (h1 _ (List.getElem_mem h)).2
  · obtain ⟨h, e1, _, _⟩ := hat hi
    obtain ⟨h', e1', _, _⟩ := hat hj
    rw [e1, e1']
    rcases Nat.lt_or_gt_of_ne hij with hlt | hlt
    · exact (List.pairwise_iff_getElem.1 h2) i j h h' hlt
    · exact ((List.pairwise_iff_getElem.1 h2) j i h' h hlt).symm
/-! the rules -/
variable {P : Program} {N : Nat} {L : Slots} {ty t : TypeId} {pos : String} {af : Array Edge} {dd : Option Tmp} {x y : Operand} {T : Tab}
theorem Yld.dload {u : Unit} (hT : T.Ok P) (h : DeepO f w B e e' A c hs xs q0) (hs1 : nk T.one t = some u) (hx : opv L x = some (.pointer (A.map (·.add j)))) (hj : j < xs.length) :
    Yld P N w ⟨dd, .load t x, ty, pos, af, none⟩ L (.slice (hA hs j) (xs.getD j []).length (hC hs j)) := by
  have := Yld.iload (P := P) (N := N) (ty := ty) (pos := pos) (af := af) (dd := dd) (([], hz) : List α × Hd) hT h.out.rd hs1 hx (by rw [h.zl]; exact hj)
  rw [zip_getDd h.len hj] at this
  exact this
theorem WL.dstore {ops : Array Oper} {R : Post} {rest : List Oper} (h1 : sz1 P t = true) (h : DeepO f w B e e' A c hs xs (some j)) (hx : opv L x = some (.pointer (A.map (·.add j)))) (hy : opv L y = some (.slice A' n c')) (hn : n = ys.length) (hj : j < xs.length) (hE : Own f w B e' A' c' ys) (hd : AllP (Dj (blk A')) (FPd A hs (some j)))
    (hk : ∀ w', DeepO f w' B e e' A c (hs.set j (A', c')) (xs.set j ys) none → w.grownBy w' (blk A) → WL P N ops R rest L w') : WL P N ops R (⟨none, .store t x y, ty, pos, af, none⟩ :: rest) L w := by
  subst hn
  exact WL.ostore (v := ((ys, (A', c')) : List α × Hd)) h1 (fun _ => rfl) h.out hx hy (by rw [h.zl]; exact hj) fun w' hO hg => hk w' (h.lay hO hg hj hE hd) hg
theorem Ef0.dstore (h1 : sz1 P t = true) (h : DeepO f w B e e' A c hs xs (some j)) (hx : opv L x = some (.pointer (A.map (·.add j)))) (hy : opv L y = some (.slice A' n c')) (hn : n = ys.length) (hj : j < xs.length) (hE : Own f w B e' A' c' ys) (hd : AllP (Dj (blk A')) (FPd A hs (some j))) :
    Ef0 P N w ⟨none, .store t x y, ty, pos, af, none⟩ L fun w' => DeepO f w' B e e' A c (hs.set j (A', c')) (xs.set j ys) none ∧ w.grownBy w' (blk A) := fun a w1 hw ha => by
  subst hn
  obtain ⟨w', e1, hO, hg⟩ := Ef0.ostore (P := P) (N := N) (ty := ty) (pos := pos) (af := af) (v := ((ys, (A', c')) : List α × Hd)) h1 (fun _ => rfl) h.out hx hy (by rw [h.zl]; exact hj) a w1 hw ha
  exact ⟨w', e1, h.lay hO hg hj hE hd, hg⟩
end
end Go.Proofs.YtlonpmajnglmoaaDoor


 