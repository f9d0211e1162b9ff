/- Texts of this claim, joined by a program: GPa, PathA, PathB, PathC, PathD, PathE, PathF, Vis, Enc, LCa, Shelf3, LCb, SrtG, SrtK, LCc, GLa, GSa, Sent, GSb, See, PathG, Lab, Srt, PathH, LabS. -/
import Derived.Test.YtlonpmajnglmoaaDoorJ1
import Derived.Lib.Replace
import Derived.Lib.Join
import Derived.Shelf.GgSortFunc.RowK
import Derived.Shelf.SlSortCmp.NoneTotal
import Derived.Shelf.RegionOpenPlain
import Derived.WalkKit
import Derived.Deep.QuietTactic
import Derived.BigQuiet
import Derived.Deep.LoopGhost
import Derived.Deep.Draws
import Derived.Lib.Walk
import Derived.Laws.StructEq
import Derived.Sort.WalkB12
import Derived.Lib.SliceRun
import Derived.Lib.SlicesCompact
import Derived.Ground.SlsfProg
import Derived.Test.YtlonpmajnglmoaaDoorProg
import Derived.RegionTactic
import Derived.StillTailTactics
import Derived.Deep.RegionWith
import Derived.Lib.Bytealg
import Derived.Sort.Walk0
import Derived.Shelf.SlSortCmp.Insertion
import Derived.Sort.OwnSorted
/- Printed by a program (wip/vg): what the functions mean, plainly, and their walks. -/
namespace Go.Proofs.YtlonpmajnglmoaaDoor
open Go Go.RowKit
attribute [local irreducible] WL WC WX WQ WK WJ Yld Eff Ef0 Fn
def M_internal_bytealg_LastIndexByteString (s : List UInt8) (c : Int) (K : Int → Prop) : Prop :=
 (In .i64 ((s.length : Int) - (1 : Int))) ∧
 Lp1 (fun (i : Int) kont1 => (((0 : Int) ≤ i → (0 ≤ i ∧ i < s.length) ∧
 ((((s.getD i.toNat 0).toNat : Int) = c → K i) ∧
 (¬ (((s.getD i.toNat 0).toNat : Int) = c) → (In .i64 (i - (1 : Int))) ∧
 kont1 (i - (1 : Int))))) ∧
 (¬ ((0 : Int) ≤ i) → K (-1 : Int)))) ((s.length : Int) - (1 : Int))

def M_strings_LastIndexByte (s : List UInt8) (c : Int) (K : Int → Prop) : Prop :=
 M_internal_bytealg_LastIndexByteString s c (fun (t4 : Int) =>
 K t4)

def M_internal_stringslite_HasPrefix (s : List UInt8) (prefix_ : List UInt8) (K : Bool → Prop) : Prop :=
 ((decide ((prefix_.length : Int) ≤ (s.length : Int))) = true → (0 ≤ (prefix_.length : Int) ∧ (prefix_.length : Int) ≤ s.length)) ∧
 K ((decide ((prefix_.length : Int) ≤ (s.length : Int))) && (decide ((s.take (prefix_.length : Int).toNat) = prefix_)))

def M_internal_stringslite_CutPrefix (s : List UInt8) (prefix_ : List UInt8) (K : (List UInt8) → Bool → Prop) : Prop :=
 M_internal_stringslite_HasPrefix s prefix_ (fun (t8 : Bool) =>
 (((!t8) = true → K s false) ∧
 ((!t8) = false → (0 ≤ (prefix_.length : Int) ∧ (prefix_.length : Int) ≤ s.length) ∧
 K (s.drop (prefix_.length : Int).toNat) true)))

def M_strings_CutPrefix (s : List UInt8) (prefix_ : List UInt8) (K : (List UInt8) → Bool → Prop) : Prop :=
 M_internal_stringslite_CutPrefix s prefix_ (fun (t80 : List UInt8) (t81 : Bool) =>
 K t80 t81)

def M_path_letter (c : Int) (K : Bool → Prop) : Prop :=
 ((((((decide ((48 : Int) ≤ c)) && (decide (c ≤ (57 : Int)))) || ((decide ((65 : Int) ≤ c)) && (decide (c ≤ (90 : Int))))) || ((decide ((97 : Int) ≤ c)) && (decide (c ≤ (122 : Int))))) = true → K true) ∧
 (((((decide ((48 : Int) ≤ c)) && (decide (c ≤ (57 : Int)))) || ((decide ((65 : Int) ≤ c)) && (decide (c ≤ (90 : Int))))) || ((decide ((97 : Int) ≤ c)) && (decide (c ≤ (122 : Int))))) = false → M_strings_IndexByte ([33, 35, 37, 43, 44, 45, 46, 61, 64, 95, 126] : List UInt8) c (fun (t26 : Int) =>
 K (decide ((0 : Int) ≤ t26)))))

def M_path_dots (s : List UInt8) (K : Bool → Prop) : Prop :=
 K (((decide (s = ([] : List UInt8))) || (decide (s = ([46] : List UInt8)))) || (decide (s = ([46, 46] : List UInt8))))

def M_path_fair (s : List UInt8) (K : Bool → Prop) : Prop :=
 Lp1 (fun (t6 : Int) kont1 => ((t6 < (s.length : Int) → (0 ≤ t6 ∧ t6 < s.length) ∧
 M_path_letter ((s.getD t6.toNat 0).toNat : Int) (fun (t12 : Bool) =>
 (((!t12) = true → K false) ∧
 ((!t12) = false → (In .i64 (t6 + (1 : Int))) ∧
 kont1 (t6 + (1 : Int)))))) ∧
 (¬ (t6 < (s.length : Int)) → M_path_dots s (fun (t16 : Bool) =>
 K (!t16))))) (0 : Int)

def M_path_Valid (p : List UInt8) (K : Bool → Prop) : Prop :=
 (((200 : Int) < (p.length : Int) → K false) ∧
 (¬ ((200 : Int) < (p.length : Int)) → M_strings_Split p ([47] : List UInt8) (fun (t9 : List (List UInt8)) =>
 Lp1 (fun (t11 : Int) kont1 => ((t11 < (t9.length : Int) → (0 ≤ t11 ∧ t11 < (t9.length : Nat)) ∧
 M_path_fair (t9.getD t11.toNat []) (fun (t16 : Bool) =>
 (((!t16) = true → K false) ∧
 ((!t16) = false → (In .i64 (t11 + (1 : Int))) ∧
 kont1 (t11 + (1 : Int)))))) ∧
 (¬ (t11 < (t9.length : Int)) → K true))) (0 : Int))))

def M_path_Base (p : List UInt8) (K : (List UInt8) → Prop) : Prop :=
 M_strings_LastIndexByte p (47 : Int) (fun (t5 : Int) =>
 (In .i64 (t5 + (1 : Int))) ∧
 (0 ≤ t5 + (1 : Int) ∧ t5 + (1 : Int) ≤ p.length) ∧
 K (p.drop (t5 + (1 : Int)).toNat))

def M_cmp_Or_int (vals : List Int) (K : Int → Prop) : Prop :=
 (vals.length ≤ maxLen →
 Lp1 (fun (t8 : Int) kont1 => ((t8 < (vals.length : Int) → (0 ≤ t8 ∧ t8 < (vals.length : Nat)) ∧
 ((¬ ((vals.getD t8.toNat 0) = (0 : Int)) → K (vals.getD t8.toNat 0)) ∧
 ((vals.getD t8.toNat 0) = (0 : Int) → (In .i64 (t8 + (1 : Int))) ∧
 kont1 (t8 + (1 : Int))))) ∧
 (¬ (t8 < (vals.length : Int)) → K (0 : Int)))) (0 : Int))

def M_label_compare (a_Pkg : List UInt8) (a_Name : List UInt8) (b_Pkg : List UInt8) (b_Name : List UInt8) (K : Int → Prop) : Prop :=
 M_strings_Compare a_Pkg b_Pkg (fun (t9 : Int) =>
 M_strings_Compare a_Name b_Name (fun (t14 : Int) =>
 M_cmp_Or_int ([t9, t14] : List Int) (fun (t4 : Int) =>
 K t4)))

def M_label_Less (a_Pkg : List UInt8) (a_Name : List UInt8) (b_Pkg : List UInt8) (b_Name : List UInt8) (K : Bool → Prop) : Prop :=
 M_label_compare a_Pkg a_Name b_Pkg b_Name (fun (t7 : Int) =>
 K (decide (t7 < (0 : Int))))

def M_label_Parse (s : List UInt8) (pkg : List UInt8) (K : (List UInt8) → (List UInt8) → Er → Prop) : Prop :=
 ∃ J1 : Bool → Prop, ((((!decide (pkg = ([] : List UInt8))) = true → M_path_Valid pkg (fun (t18 : Bool) =>
 J1 (!t18))) ∧
 ((!decide (pkg = ([] : List UInt8))) = false → J1 false))) ∧
 (∀ q1 : Bool, J1 q1 → ((q1 = true → K ([] : List UInt8) ([] : List UInt8) (Er.e 11)) ∧
 (q1 = false → ∃ J2 : (List UInt8) → (List UInt8) → Prop, (M_strings_CutPrefix s ([47, 47] : List UInt8) (fun (t280 : List UInt8) (t281 : Bool) =>
 ((t281 = true → M_path_Base t280 (fun (t35 : List UInt8) =>
 M_strings_Cut t280 ([58] : List UInt8) (fun (t390 : List UInt8) (t391 : List UInt8) (t392 : Bool) =>
 ((t392 = true → J2 t390 t391) ∧
 (t392 = false → J2 t280 t35))))) ∧
 (t281 = false → M_strings_CutPrefix s ([58] : List UInt8) (fun (t490 : List UInt8) (t491 : Bool) =>
 ((t491 = true → J2 pkg t490) ∧
 (t491 = false → J2 pkg s))))))) ∧
 (∀ l0 : List UInt8, ∀ l1 : List UInt8, J2 l0 l1 → ∃ J3 : Bool → Prop, ((((!decide (l0 = ([] : List UInt8))) = true → M_path_Valid l0 (fun (t61 : Bool) =>
 J3 (!t61))) ∧
 ((!decide (l0 = ([] : List UInt8))) = false → J3 false))) ∧
 (∀ q2 : Bool, J3 q2 → ∃ J4 : Bool → Prop, (((q2 = true → J4 true) ∧
 (q2 = false → M_path_Valid l1 (fun (t67 : Bool) =>
 J4 (!t67))))) ∧
 (∀ q3 : Bool, J4 q3 → ((q3 = true → K ([] : List UInt8) ([] : List UInt8) (Er.e 11)) ∧
 (q3 = false → K l0 l1 Er.ok))))))))

def M_label_Label_Text (l_Pkg : List UInt8) (l_Name : List UInt8) (K : (List UInt8) → Prop) : Prop :=
 (([47, 47] : List UInt8).length + l_Pkg.length ≤ 9223372036854775807) ∧
 ((([47, 47] : List UInt8) ++ l_Pkg).length + ([58] : List UInt8).length ≤ 9223372036854775807) ∧
 (((([47, 47] : List UInt8) ++ l_Pkg) ++ ([58] : List UInt8)).length + l_Name.length ≤ 9223372036854775807) ∧
 K (((([47, 47] : List UInt8) ++ l_Pkg) ++ ([58] : List UInt8)) ++ l_Name)

def M_smithyref_AmongTexts (l : List (List UInt8)) (s : List UInt8) (K : Int → Prop) : Prop :=
 (l.length ≤ maxLen →
 Lp1 (fun (i : Int) kont1 => ((i < (l.length : Int) → (0 ≤ i ∧ i < (l.length : Nat)) ∧
 (((l.getD i.toNat []) = s → K i) ∧
 (¬ ((l.getD i.toNat []) = s) → (In .i64 (i + (1 : Int))) ∧
 kont1 (i + (1 : Int))))) ∧
 (¬ (i < (l.length : Int)) → K (-1 : Int)))) (0 : Int))

def M_smithyref_SortedTexts (l : List (List UInt8)) (K : (List (List UInt8)) → Prop) : Prop :=
 (l.length ≤ maxLen →
 Lp2 (fun (out : List (List UInt8)) (i : Int) kont1 => ((i < (l.length : Int) → ∃ J1 : (List (List UInt8)) → Prop, (Lp1 (fun (k : Int) kont2 => ((decide (k < (out.length : Int))) = true → (0 ≤ k ∧ k < (out.length : Nat))) ∧
 ((decide (k < (out.length : Int))) = true → (0 ≤ i ∧ i < (l.length : Nat))) ∧
 ((((decide (k < (out.length : Int))) && (Op.bytesLess (out.getD k.toNat []) (l.getD i.toNat []))) = true → (In .i64 (k + (1 : Int))) ∧
 kont2 (k + (1 : Int))) ∧
 (((decide (k < (out.length : Int))) && (Op.bytesLess (out.getD k.toNat []) (l.getD i.toNat []))) = false → ((decide (k < (out.length : Int))) = true → (0 ≤ k ∧ k < (out.length : Nat))) ∧
 ((decide (k < (out.length : Int))) = true → (0 ≤ i ∧ i < (l.length : Nat))) ∧
 ((((decide (k < (out.length : Int))) && (decide ((out.getD k.toNat []) = (l.getD i.toNat [])))) = true → J1 out) ∧
 (((decide (k < (out.length : Int))) && (decide ((out.getD k.toNat []) = (l.getD i.toNat [])))) = false → (In .i64 ((out.length : Int) + (1 : Int))) ∧
 (0 ≤ (out.length : Int) + (1 : Int) ∧ ((out.length : Int) + (1 : Int)) * 16 ≤ 140737488355328 ∧ (out.length : Int) + (1 : Int) ≤ 140737488355328) ∧
 (0 ≤ k ∧ k ≤ (out.length : Nat)) ∧
 (((([] : List (List UInt8))).length + (out.take k.toNat).length) * 16 ≤ 140737488355328) ∧
 (0 ≤ i ∧ i < (l.length : Nat)) ∧
 (((([] : List (List UInt8)) ++ (out.take k.toNat)).length + (([l.getD i.toNat []] : List (List UInt8))).length) * 16 ≤ 140737488355328) ∧
 (0 ≤ k ∧ k ≤ (out.length : Int) ∧ (out.length : Int) ≤ (out.length : Nat)) ∧
 ((((([] : List (List UInt8)) ++ (out.take k.toNat)) ++ ([l.getD i.toNat []] : List (List UInt8))).length + (out.drop k.toNat).length) * 16 ≤ 140737488355328) ∧
 J1 (((([] : List (List UInt8)) ++ (out.take k.toNat)) ++ ([l.getD i.toNat []] : List (List UInt8))) ++ (out.drop k.toNat))))))) (0 : Int)) ∧
 (∀ out2 : List (List UInt8), J1 out2 → (In .i64 (i + (1 : Int))) ∧
 kont1 out2 (i + (1 : Int)))) ∧
 (¬ (i < (l.length : Int)) → K out))) [] (0 : Int))

def M_smithyworld_Texts (l : List (List UInt8)) (most : Int) (long : Int) (K : Bool → Prop) : Prop :=
 (l.length ≤ maxLen →
 ((most < (l.length : Int) → K false) ∧
 (¬ (most < (l.length : Int)) → Lp1 (fun (i : Int) kont1 => ((i < (l.length : Int) → (0 ≤ i ∧ i < (l.length : Nat)) ∧
 ((long < ((l.getD i.toNat []).length : Int) → K false) ∧
 (¬ (long < ((l.getD i.toNat []).length : Int)) → (In .i64 (i + (1 : Int))) ∧
 kont1 (i + (1 : Int))))) ∧
 (¬ (i < (l.length : Int)) → K true))) (0 : Int))))

set_option maxHeartbeats 8000000 in
theorem W_internal_bytealg_LastIndexByteString {w : World} {s : List UInt8} {c : Int} {K : Int → Prop} (H : M_internal_bytealg_LastIndexByteString s c K) : Fn Tryd.prog 129 ⟨[vs s, .int .u8 c]⟩ w (fun v w' => w = w' ∧ ∃ (r : Int), v = .int .i64 r ∧ K r) := by
  unfold M_internal_bytealg_LastIndexByteString at H
  refine Fn.enter (by kernel_rfl) Tryd.func129 rfl Tryd.ntmps129 rfl ?_
  refine WC.seq ?_
  refine WC.region ?_
  refine WL.y rfl (Yld.pure tab_ok rfl) ?_
  refine WL.nil (WX.then_normal ?_)
  refine WC.seq ?_
  refine WC.seq ?_
  refine WC.region ?_
  refine WL.y rfl (Yld.pure tab_ok rfl) ?_
  refine WL.y rfl (Yld.pure tab_ok rfl) ?_
  obtain ⟨h1, H⟩ := H
  refine WL.y rfl (Yld.sub rfl rfl h1) ?_
  refine WL.y rfl (Yld.pure tab_ok rfl) ?_
  refine WL.nil (WX.then_normal ?_)
  refine WC.block ?_
  obtain ⟨I1, mu1, h0_1, HR1⟩ := H
  refine WC.loopF (fun n' L' w' => ∃ (i : Int), n' = mu1 i ∧ L' = [(0, vs s), (1, .int .u8 c), (5, .int .i64 i)] ∧ I1 i ∧ w = w') _ _ ⟨(s.length : Int) - (1 : Int), rfl, rfl, h0_1, rfl⟩ (by repeat (first | exact Sub.nil | refine Sub.cons rfl ?_)) ?_
  clear h0_1
  rintro _ _ _ ⟨i, rfl, rfl, hI1, rfl⟩
  have H := HR1 i hI1
  refine WC.seq ?_
  refine WC.seq ?_
  refine WC.region ?_
  refine WL.y rfl (Yld.pure tab_ok rfl) ?_
  refine WL.y rfl (Yld.pure tab_ok rfl) ?_
  refine WL.nil (WX.then_normal ?_)
  refine WC.cond rfl (fun b1 => ?_) (fun b1 => ?_)
  · replace H := H.1 (of_decide_eq_true b1)
    refine WC.skip (WX.then_normal ?_)
    refine WC.seq ?_
    refine WC.block ?_
    refine WC.seq ?_
    refine WC.region ?_
    refine WL.y rfl (Yld.pure tab_ok rfl) ?_
    refine WL.y rfl (Yld.pure tab_ok rfl) ?_
    obtain ⟨h2, H⟩ := H
    refine WL.y rfl (Yld.sidx tab_ok rfl rfl rfl h2.1 h2.2) ?_
    refine WL.y rfl (Yld.pure tab_ok rfl) ?_
    refine WL.y rfl (Yld.pure tab_ok rfl) ?_
    refine WL.nil (WX.then_normal ?_)
    refine WC.cond rfl (fun b2 => ?_) (fun b2 => ?_)
    · replace H := H.1 (of_decide_eq_true b2)
      refine WC.seq ?_
      refine WC.region ?_
      refine WL.y rfl (Yld.pure tab_ok rfl) ?_
      refine WL.y rfl (Yld.pure tab_ok rfl) ?_
      refine WL.nil (WX.then_normal ?_)
      refine WC.ret (WX.block_ret (WX.then_ret (WX.then_ret (WX.block_ret (WX.then_ret ?_)))))
      exact WX.ret1 rfl rfl ⟨rfl, i, rfl, H⟩
    · replace H := H.2 (of_decide_eq_false b2)
      refine WC.skip (WX.block_normal (WX.then_normal ?_))
      refine WC.region ?_
      refine WL.y rfl (Yld.pure tab_ok rfl) ?_
      obtain ⟨h3, H⟩ := H
      refine WL.y rfl (Yld.sub rfl rfl h3) ?_
      refine WL.y rfl (Yld.pure tab_ok rfl) ?_
      refine WL.nil ?_
      exact WX.roundF _ ⟨i - (1 : Int), rfl, rfl, H.1, rfl⟩ (by repeat (first | exact Sub.nil | refine Sub.cons rfl ?_)) H.2
  · replace H := H.2 (of_decide_eq_false b1)
    refine WC.exit (WX.then_exit (WX.then_exit (WX.block_same (WX.then_normal ?_))))
    refine WC.seq ?_
    refine WC.region ?_
    refine WL.y rfl (Yld.pure tab_ok rfl) ?_
    refine WL.nil (WX.then_normal ?_)
    refine WC.ret ?_
    exact WX.ret1 rfl rfl ⟨rfl, (-1 : Int), rfl, H⟩

set_option maxHeartbeats 8000000 in
theorem W_strings_LastIndexByte {w : World} {s : List UInt8} {c : Int} {K : Int → Prop} (H : M_strings_LastIndexByte s c K) : Fn Tryd.prog 104 ⟨[vs s, .int .u8 c]⟩ w (fun v w' => w = w' ∧ ∃ (r : Int), v = .int .i64 r ∧ K r) := by
  unfold M_strings_LastIndexByte at H
  refine Fn.enter (by kernel_rfl) Tryd.func104 rfl Tryd.ntmps104 rfl ?_
  refine WC.seq ?_
  refine WC.region ?_
  refine WL.y rfl (Yld.pure tab_ok rfl) ?_
  refine WL.nil (WX.then_normal ?_)
  refine WC.seq ?_
  refine WC.region ?_
  refine WL.y rfl (Yld.pure tab_ok rfl) ?_
  refine WL.y rfl (Yld.pure tab_ok rfl) ?_
  refine WL.call rfl rfl (W_internal_bytealg_LastIndexByteString H) ?_
  rintro _ _ ⟨rfl, t4, rfl, H⟩
  refine WL.y rfl (Yld.pure tab_ok rfl) ?_
  refine WL.nil (WX.then_normal ?_)
  refine WC.ret ?_
  exact WX.ret1 rfl rfl ⟨rfl, t4, rfl, H⟩

set_option maxHeartbeats 8000000 in
theorem W_internal_stringslite_HasPrefix {w : World} {s : List UInt8} {prefix_ : List UInt8} {K : Bool → Prop} (H : M_internal_stringslite_HasPrefix s prefix_ K) : Fn Tryd.prog 128 ⟨[vs s, vs prefix_]⟩ w (fun v w' => w = w' ∧ ∃ (r : Bool), v = .bool r ∧ K r) := by
  unfold M_internal_stringslite_HasPrefix at H
  refine Fn.enter (by kernel_rfl) Tryd.func128 rfl Tryd.ntmps128 rfl ?_
  refine WC.seq ?_
  refine WC.region ?_
  refine WL.y rfl (Yld.pure tab_ok rfl) ?_
  refine WL.nil (WX.then_normal ?_)
  refine WC.seq ?_
  refine WC.region ?_
  refine WL.y rfl (Yld.pure tab_ok rfl) ?_
  refine WL.y rfl (Yld.pure tab_ok rfl) ?_
  refine WL.y rfl (Yld.pure tab_ok rfl) ?_
  refine WL.y rfl (Yld.pure tab_ok rfl) ?_
  refine WL.y rfl (Yld.pure tab_ok rfl) ?_
  refine WL.y rfl (Yld.pure tab_ok rfl) ?_
  obtain ⟨h1, H⟩ := H
  refine WL.midF 7 (fun L' w' => ∃ q1 : Bool, L' = [(17, .bool q1)] ∧ q1 = ((decide ((prefix_.length : Int) ≤ (s.length : Int))) && (decide ((s.take (prefix_.length : Int).toNat) = prefix_))) ∧ w = w') ?_ (fun hQ => ?_)
  · rintro _ _ ⟨q1, rfl, rfl, rfl⟩
    refine WL.y rfl (Yld.pure tab_ok rfl) ?_
    refine WL.nil (WX.then_normal ?_)
    refine WC.ret ?_
    exact WX.ret1 rfl rfl ⟨rfl, (decide ((prefix_.length : Int) ≤ (s.length : Int))) && (decide ((s.take (prefix_.length : Int).toNat) = prefix_)), rfl, H⟩
  · clear H
    rcases Bool.eq_false_or_eq_true (decide ((prefix_.length : Int) ≤ (s.length : Int))) with b1 | b1
    · refine WL.gyes rfl rfl (okb b1) rfl (Yld.pure tab_ok rfl) ?_
      refine WL.gyes rfl rfl (okb b1) rfl (Yld.pure tab_ok rfl) ?_
      refine WL.gyes rfl rfl (okb b1) rfl (Yld.pure tab_ok rfl) ?_
      refine WL.gyes rfl rfl (okb b1) rfl (Yld.scut tab_ok rfl rfl rfl rfl (Int.le_refl 0) (h1 b1).1 (h1 b1).2) ?_
      refine WL.gyes rfl rfl (okb b1) rfl (Yld.pure tab_ok rfl) ?_
      refine WL.gyes rfl rfl (okb b1) rfl (Yld.pure tab_ok rfl) ?_
      refine WL.y rfl (Yld.pickT (okb b1) rfl) ?_
      exact WL.weaken (by repeat (first | exact Sub.nil | refine Sub.cons rfl ?_)) (hQ _ _ ⟨decide ((s.take (prefix_.length : Int).toNat) = prefix_), rfl, by rw [b1] <;> rfl, rfl⟩)
    · refine WL.gno rfl rfl (okb b1) rfl ?_
      refine WL.gno rfl rfl (okb b1) rfl ?_
      refine WL.gno rfl rfl (okb b1) rfl ?_
      refine WL.gno rfl rfl (okb b1) rfl ?_
      refine WL.gno rfl rfl (okb b1) rfl ?_
      refine WL.gno rfl rfl (okb b1) rfl ?_
      refine WL.y rfl (Yld.pickF (okb b1) rfl) ?_
      exact WL.weaken (by repeat (first | exact Sub.nil | refine Sub.cons rfl ?_)) (hQ _ _ ⟨false, rfl, by rw [b1] <;> rfl, rfl⟩)

set_option maxHeartbeats 8000000 in
theorem W_internal_stringslite_CutPrefix {w : World} {s : List UInt8} {prefix_ : List UInt8} {K : (List UInt8) → Bool → Prop} (H : M_internal_stringslite_CutPrefix s prefix_ K) : Fn Tryd.prog 103 ⟨[vs s, vs prefix_]⟩ w (fun v w' => w = w' ∧ ∃ (r0 : List UInt8), ∃ (r1 : Bool), v = .tuple #[vs r0, .bool r1] ∧ K r0 r1) := by
  unfold M_internal_stringslite_CutPrefix at H
  refine Fn.enter (by kernel_rfl) Tryd.func103 rfl Tryd.ntmps103 rfl ?_
  refine WC.seq ?_
  refine WC.region ?_
  refine WL.y rfl (Yld.pure tab_ok rfl) ?_
  refine WL.y rfl (Yld.pure tab_ok rfl) ?_
  refine WL.nil (WX.then_normal ?_)
  refine WC.seq ?_
  refine WC.seq ?_
  refine WC.region ?_
  refine WL.y rfl (Yld.pure tab_ok rfl) ?_
  refine WL.y rfl (Yld.pure tab_ok rfl) ?_
  refine WL.call rfl rfl (W_internal_stringslite_HasPrefix H) ?_
  rintro _ _ ⟨rfl, t8, rfl, H⟩
  refine WL.y rfl (Yld.pure tab_ok rfl) ?_
  refine WL.nil (WX.then_normal ?_)
  refine WC.cond rfl (fun b1 => ?_) (fun b1 => ?_)
  · replace H := H.1 (b1)
    refine WC.seq ?_
    refine WC.region ?_
    refine WL.y rfl (Yld.pure tab_ok rfl) ?_
    refine WL.y rfl (Yld.pure tab_ok rfl) ?_
    refine WL.y rfl (Yld.pure tab_ok rfl) ?_
    refine WL.nil (WX.then_normal ?_)
    refine WC.ret (WX.then_ret ?_)
    exact WX.ret2 rfl rfl rfl ⟨rfl, s, false, rfl, H⟩
  · replace H := H.2 (b1)
    refine WC.skip (WX.then_normal ?_)
    refine WC.seq ?_
    refine WC.region ?_
    refine WL.y rfl (Yld.pure tab_ok rfl) ?_
    refine WL.y rfl (Yld.pure tab_ok rfl) ?_
    refine WL.y rfl (Yld.pure tab_ok rfl) ?_
    obtain ⟨h1, H⟩ := H
    refine WL.y rfl (Yld.scutF tab_ok rfl rfl rfl h1.1 h1.2) ?_
    refine WL.y rfl (Yld.pure tab_ok rfl) ?_
    refine WL.y rfl (Yld.pure tab_ok rfl) ?_
    refine WL.nil (WX.then_normal ?_)
    refine WC.ret ?_
    exact WX.ret2 rfl rfl rfl ⟨rfl, s.drop (prefix_.length : Int).toNat, true, rfl, H⟩

set_option maxHeartbeats 8000000 in
theorem W_strings_CutPrefix {w : World} {s : List UInt8} {prefix_ : List UInt8} {K : (List UInt8) → Bool → Prop} (H : M_strings_CutPrefix s prefix_ K) : Fn Tryd.prog 62 ⟨[vs s, vs prefix_]⟩ w (fun v w' => w = w' ∧ ∃ (r0 : List UInt8), ∃ (r1 : Bool), v = .tuple #[vs r0, .bool r1] ∧ K r0 r1) := by
  unfold M_strings_CutPrefix at H
  refine Fn.enter (by kernel_rfl) Tryd.func62 rfl Tryd.ntmps62 rfl ?_
  refine WC.seq ?_
  refine WC.region ?_
  refine WL.y rfl (Yld.pure tab_ok rfl) ?_
  refine WL.y rfl (Yld.pure tab_ok rfl) ?_
  refine WL.nil (WX.then_normal ?_)
  refine WC.seq ?_
  refine WC.region ?_
  refine WL.y rfl (Yld.pure tab_ok rfl) ?_
  refine WL.y rfl (Yld.pure tab_ok rfl) ?_
  refine WL.call rfl rfl (W_internal_stringslite_CutPrefix H) ?_
  rintro _ _ ⟨rfl, t80, t81, rfl, H⟩
  refine WL.y rfl (Yld.pure tab_ok rfl) ?_
  refine WL.y rfl (Yld.pure tab_ok rfl) ?_
  refine WL.y rfl (Yld.pure tab_ok rfl) ?_
  refine WL.y rfl (Yld.pure tab_ok rfl) ?_
  refine WL.nil (WX.then_normal ?_)
  refine WC.ret ?_
  exact WX.ret2 rfl rfl rfl ⟨rfl, t80, t81, rfl, H⟩

set_option maxHeartbeats 8000000 in
theorem W_path_letter {w : World} {c : Int} {K : Bool → Prop} (H : M_path_letter c K) : Fn Tryd.prog 126 ⟨[.int .u8 c]⟩ w (fun v w' => w = w' ∧ ∃ (r : Bool), v = .bool r ∧ K r) := by
  unfold M_path_letter at H
  refine Fn.enter (by kernel_rfl) Tryd.func126 rfl Tryd.ntmps126 rfl ?_
  refine WC.seq ?_
  refine WC.region ?_
  refine WL.y rfl (Yld.pure tab_ok rfl) ?_
  refine WL.nil (WX.then_normal ?_)
  refine WC.seq ?_
  refine WC.seq ?_
  refine WC.region ?_
  refine WL.y rfl (Yld.pure tab_ok rfl) ?_
  refine WL.y rfl (Yld.pure tab_ok rfl) ?_
  refine WL.y rfl (Yld.pure tab_ok rfl) ?_
  refine WL.midF 3 (fun L' w' => ∃ q1 : Bool, L' = [(8, .bool q1), (0, .int .u8 c)] ∧ q1 = ((decide ((48 : Int) ≤ c)) && (decide (c ≤ (57 : Int)))) ∧ w = w') ?_ (fun hQ => ?_)
  · rintro _ _ ⟨q1, rfl, rfl, rfl⟩
    refine WL.y rfl (Yld.pure tab_ok rfl) ?_
    refine WL.midF 7 (fun L' w' => ∃ q2 : Bool, L' = [(16, .bool q2), (0, .int .u8 c)] ∧ q2 = (((decide ((48 : Int) ≤ c)) && (decide (c ≤ (57 : Int)))) || ((decide ((65 : Int) ≤ c)) && (decide (c ≤ (90 : Int))))) ∧ w = w') ?_ (fun hQ => ?_)
    · rintro _ _ ⟨q2, rfl, rfl, rfl⟩
      refine WL.y rfl (Yld.pure tab_ok rfl) ?_
      refine WL.midF 7 (fun L' w' => ∃ q3 : Bool, L' = [(24, .bool q3), (0, .int .u8 c)] ∧ q3 = ((((decide ((48 : Int) ≤ c)) && (decide (c ≤ (57 : Int)))) || ((decide ((65 : Int) ≤ c)) && (decide (c ≤ (90 : Int))))) || ((decide ((97 : Int) ≤ c)) && (decide (c ≤ (122 : Int))))) ∧ w = w') ?_ (fun hQ => ?_)
      · rintro _ _ ⟨q3, rfl, rfl, rfl⟩
        refine WL.nil (WX.then_normal ?_)
        refine WC.cond rfl (fun b1 => ?_) (fun b1 => ?_)
        · replace H := H.1 (b1)
          refine WC.seq ?_
          refine WC.region ?_
          refine WL.y rfl (Yld.pure tab_ok rfl) ?_
          refine WL.nil (WX.then_normal ?_)
          refine WC.ret (WX.then_ret ?_)
          exact WX.ret1 rfl rfl ⟨rfl, true, rfl, H⟩
        · replace H := H.2 (b1)
          refine WC.skip (WX.then_normal ?_)
          refine WC.seq ?_
          refine WC.region ?_
          refine WL.y rfl (Yld.pure tab_ok rfl) ?_
          refine WL.call rfl rfl (W_strings_IndexByte H) ?_
          rintro _ _ ⟨rfl, t26, rfl, H⟩
          refine WL.y rfl (Yld.pure tab_ok rfl) ?_
          refine WL.y rfl (Yld.pure tab_ok rfl) ?_
          refine WL.nil (WX.then_normal ?_)
          refine WC.ret ?_
          exact WX.ret1 rfl rfl ⟨rfl, decide ((0 : Int) ≤ t26), rfl, H⟩
      · clear H
        rcases Bool.eq_false_or_eq_true (((decide ((48 : Int) ≤ c)) && (decide (c ≤ (57 : Int)))) || ((decide ((65 : Int) ≤ c)) && (decide (c ≤ (90 : Int))))) with b2 | b2
        · refine WL.gno rfl rfl (okb b2) rfl ?_
          refine WL.gno rfl rfl (okb b2) rfl ?_
          refine WL.gno rfl rfl (okb b2) rfl ?_
          refine WL.gun rfl rfl rfl rfl ?_
          refine WL.gun rfl rfl rfl rfl ?_
          refine WL.gno rfl rfl (okb b2) rfl ?_
          refine WL.y rfl (Yld.pickT (okb b2) rfl) ?_
          exact WL.weaken (by repeat (first | exact Sub.nil | refine Sub.cons rfl ?_)) (hQ _ _ ⟨true, rfl, by rw [b2] <;> rfl, rfl⟩)
        · refine WL.gyes rfl rfl (okb b2) rfl (Yld.pure tab_ok rfl) ?_
          refine WL.gyes rfl rfl (okb b2) rfl (Yld.pure tab_ok rfl) ?_
          refine WL.gyes rfl rfl (okb b2) rfl (Yld.pure tab_ok rfl) ?_
          rcases Bool.eq_false_or_eq_true (decide ((97 : Int) ≤ c)) with b3 | b3
          · refine WL.gyes rfl rfl (okb b3) rfl (Yld.pure tab_ok rfl) ?_
            refine WL.gyes rfl rfl (okb b3) rfl (Yld.pure tab_ok rfl) ?_
            refine WL.gyes rfl rfl (okb b2) rfl (Yld.pickT (okb b3) rfl) ?_
            refine WL.y rfl (Yld.pickF (okb b2) rfl) ?_
            exact WL.weaken (by repeat (first | exact Sub.nil | refine Sub.cons rfl ?_)) (hQ _ _ ⟨decide (c ≤ (122 : Int)), rfl, by rw [b2, b3] <;> rfl, rfl⟩)
          · refine WL.gno rfl rfl (okb b3) rfl ?_
            refine WL.gno rfl rfl (okb b3) rfl ?_
            refine WL.gyes rfl rfl (okb b2) rfl (Yld.pickF (okb b3) rfl) ?_
            refine WL.y rfl (Yld.pickF (okb b2) rfl) ?_
            exact WL.weaken (by repeat (first | exact Sub.nil | refine Sub.cons rfl ?_)) (hQ _ _ ⟨false, rfl, by rw [b2, b3] <;> rfl, rfl⟩)
    · clear H
      rcases Bool.eq_false_or_eq_true ((decide ((48 : Int) ≤ c)) && (decide (c ≤ (57 : Int)))) with b4 | b4
      · refine WL.gno rfl rfl (okb b4) rfl ?_
        refine WL.gno rfl rfl (okb b4) rfl ?_
        refine WL.gno rfl rfl (okb b4) rfl ?_
        refine WL.gun rfl rfl rfl rfl ?_
        refine WL.gun rfl rfl rfl rfl ?_
        refine WL.gno rfl rfl (okb b4) rfl ?_
        refine WL.y rfl (Yld.pickT (okb b4) rfl) ?_
        exact WL.weaken (by repeat (first | exact Sub.nil | refine Sub.cons rfl ?_)) (hQ _ _ ⟨true, rfl, by rw [b4] <;> rfl, rfl⟩)
      · refine WL.gyes rfl rfl (okb b4) rfl (Yld.pure tab_ok rfl) ?_
        refine WL.gyes rfl rfl (okb b4) rfl (Yld.pure tab_ok rfl) ?_
        refine WL.gyes rfl rfl (okb b4) rfl (Yld.pure tab_ok rfl) ?_
        rcases Bool.eq_false_or_eq_true (decide ((65 : Int) ≤ c)) with b5 | b5
        · refine WL.gyes rfl rfl (okb b5) rfl (Yld.pure tab_ok rfl) ?_
          refine WL.gyes rfl rfl (okb b5) rfl (Yld.pure tab_ok rfl) ?_
          refine WL.gyes rfl rfl (okb b4) rfl (Yld.pickT (okb b5) rfl) ?_
          refine WL.y rfl (Yld.pickF (okb b4) rfl) ?_
          exact WL.weaken (by repeat (first | exact Sub.nil | refine Sub.cons rfl ?_)) (hQ _ _ ⟨decide (c ≤ (90 : Int)), rfl, by rw [b4, b5] <;> rfl, rfl⟩)
        · refine WL.gno rfl rfl (okb b5) rfl ?_
          refine WL.gno rfl rfl (okb b5) rfl ?_
          refine WL.gyes rfl rfl (okb b4) rfl (Yld.pickF (okb b5) rfl) ?_
          refine WL.y rfl (Yld.pickF (okb b4) rfl) ?_
          exact WL.weaken (by repeat (first | exact Sub.nil | refine Sub.cons rfl ?_)) (hQ _ _ ⟨false, rfl, by rw [b4, b5] <;> rfl, rfl⟩)
  · clear H
    rcases Bool.eq_false_or_eq_true (decide ((48 : Int) ≤ c)) with b6 | b6
    · refine WL.gyes rfl rfl (okb b6) rfl (Yld.pure tab_ok rfl) ?_
      refine WL.gyes rfl rfl (okb b6) rfl (Yld.pure tab_ok rfl) ?_
      refine WL.y rfl (Yld.pickT (okb b6) rfl) ?_
      exact WL.weaken (by repeat (first | exact Sub.nil | refine Sub.cons rfl ?_)) (hQ _ _ ⟨decide (c ≤ (57 : Int)), rfl, by rw [b6] <;> rfl, rfl⟩)
    · refine WL.gno rfl rfl (okb b6) rfl ?_
      refine WL.gno rfl rfl (okb b6) rfl ?_
      refine WL.y rfl (Yld.pickF (okb b6) rfl) ?_
      exact WL.weaken (by repeat (first | exact Sub.nil | refine Sub.cons rfl ?_)) (hQ _ _ ⟨false, rfl, by rw [b6] <;> rfl, rfl⟩)

set_option maxHeartbeats 8000000 in
theorem W_path_dots {w : World} {s : List UInt8} {K : Bool → Prop} (H : M_path_dots s K) : Fn Tryd.prog 127 ⟨[vs s]⟩ w (fun v w' => w = w' ∧ ∃ (r : Bool), v = .bool r ∧ K r) := by
  unfold M_path_dots at H
  refine Fn.enter (by kernel_rfl) Tryd.func127 rfl Tryd.ntmps127 rfl ?_
  refine WC.seq ?_
  refine WC.region ?_
  refine WL.y rfl (Yld.pure tab_ok rfl) ?_
  refine WL.nil (WX.then_normal ?_)
  refine WC.seq ?_
  refine WC.region ?_
  refine WL.y rfl (Yld.pure tab_ok rfl) ?_
  refine WL.y rfl (Yld.pure tab_ok rfl) ?_
  refine WL.y rfl (Yld.pure tab_ok rfl) ?_
  refine WL.midF 3 (fun L' w' => ∃ q1 : Bool, L' = [(8, .bool q1), (0, vs s)] ∧ q1 = ((decide (s = ([] : List UInt8))) || (decide (s = ([46] : List UInt8)))) ∧ w = w') ?_ (fun hQ => ?_)
  · rintro _ _ ⟨q1, rfl, rfl, rfl⟩
    refine WL.y rfl (Yld.pure tab_ok rfl) ?_
    refine WL.midF 3 (fun L' w' => ∃ q2 : Bool, L' = [(12, .bool q2)] ∧ q2 = (((decide (s = ([] : List UInt8))) || (decide (s = ([46] : List UInt8)))) || (decide (s = ([46, 46] : List UInt8)))) ∧ w = w') ?_ (fun hQ => ?_)
    · rintro _ _ ⟨q2, rfl, rfl, rfl⟩
      refine WL.y rfl (Yld.pure tab_ok rfl) ?_
      refine WL.nil (WX.then_normal ?_)
      refine WC.ret ?_
      exact WX.ret1 rfl rfl ⟨rfl, ((decide (s = ([] : List UInt8))) || (decide (s = ([46] : List UInt8)))) || (decide (s = ([46, 46] : List UInt8))), rfl, H⟩
    · clear H
      rcases Bool.eq_false_or_eq_true ((decide (s = ([] : List UInt8))) || (decide (s = ([46] : List UInt8)))) with b1 | b1
      · refine WL.gno rfl rfl (okb b1) rfl ?_
        refine WL.gno rfl rfl (okb b1) rfl ?_
        refine WL.y rfl (Yld.pickT (okb b1) rfl) ?_
        exact WL.weaken (by repeat (first | exact Sub.nil | refine Sub.cons rfl ?_)) (hQ _ _ ⟨true, rfl, by rw [b1] <;> rfl, rfl⟩)
      · refine WL.gyes rfl rfl (okb b1) rfl (Yld.pure tab_ok rfl) ?_
        refine WL.gyes rfl rfl (okb b1) rfl (Yld.pure tab_ok rfl) ?_
        refine WL.y rfl (Yld.pickF (okb b1) rfl) ?_
        exact WL.weaken (by repeat (first | exact Sub.nil | refine Sub.cons rfl ?_)) (hQ _ _ ⟨decide (s = ([46, 46] : List UInt8)), rfl, by rw [b1] <;> rfl, rfl⟩)
  · clear H
    rcases Bool.eq_false_or_eq_true (decide (s = ([] : List UInt8))) with b2 | b2
    · refine WL.gno rfl rfl (okb b2) rfl ?_
      refine WL.gno rfl rfl (okb b2) rfl ?_
      refine WL.y rfl (Yld.pickT (okb b2) rfl) ?_
      exact WL.weaken (by repeat (first | exact Sub.nil | refine Sub.cons rfl ?_)) (hQ _ _ ⟨true, rfl, by rw [b2] <;> rfl, rfl⟩)
    · refine WL.gyes rfl rfl (okb b2) rfl (Yld.pure tab_ok rfl) ?_
      refine WL.gyes rfl rfl (okb b2) rfl (Yld.pure tab_ok rfl) ?_
      refine WL.y rfl (Yld.pickF (okb b2) rfl) ?_
      exact WL.weaken (by repeat (first | exact Sub.nil | refine Sub.cons rfl ?_)) (hQ _ _ ⟨decide (s = ([46] : List UInt8)), rfl, by rw [b2] <;> rfl, rfl⟩)

set_option maxHeartbeats 8000000 in
theorem W_path_fair {w : World} {s : List UInt8} {K : Bool → Prop} (H : M_path_fair s K) : Fn Tryd.prog 102 ⟨[vs s]⟩ w (fun v w' => w = w' ∧ ∃ (r : Bool), v = .bool r ∧ K r) := by
  unfold M_path_fair at H
  refine Fn.enter (by kernel_rfl) Tryd.func102 rfl Tryd.ntmps102 rfl ?_
  refine WC.seq ?_
  refine WC.region ?_
  refine WL.y rfl (Yld.pure tab_ok rfl) ?_
  refine WL.nil (WX.then_normal ?_)
  refine WC.seq ?_
  refine WC.seq ?_
  refine WC.region ?_
  refine WL.y rfl (Yld.pure tab_ok rfl) ?_
  refine WL.y rfl (Yld.pure tab_ok rfl) ?_
  refine WL.y rfl (Yld.pure tab_ok rfl) ?_
  refine WL.nil (WX.then_normal ?_)
  refine WC.block ?_
  obtain ⟨I1, mu1, h0_1, HR1⟩ := H
  refine WC.loopF (fun n' L' w' => ∃ (t6 : Int), n' = mu1 t6 ∧ L' = [(0, vs s), (5, .int .i64 (s.length : Int)), (6, .int .i64 t6)] ∧ I1 t6 ∧ w = w') _ _ ⟨(0 : Int), rfl, rfl, h0_1, rfl⟩ (by repeat (first | exact Sub.nil | refine Sub.cons rfl ?_)) ?_
  clear h0_1
  rintro _ _ _ ⟨t6, rfl, rfl, hI1, rfl⟩
  have H := HR1 t6 hI1
  refine WC.seq ?_
  refine WC.region ?_
  refine WL.y rfl (Yld.pure tab_ok rfl) ?_
  refine WL.nil (WX.then_normal ?_)
  refine WC.seq ?_
  refine WC.cond rfl (fun b1 => ?_) (fun b1 => ?_)
  · replace H := H.1 (of_decide_eq_true b1)
    refine WC.skip (WX.then_normal ?_)
    refine WC.seq ?_
    refine WC.block ?_
    refine WC.seq ?_
    refine WC.region ?_
    refine WL.y rfl (Yld.pure tab_ok rfl) ?_
    refine WL.y rfl (Yld.pure tab_ok rfl) ?_
    refine WL.nil (WX.then_normal ?_)
    refine WC.seq ?_
    refine WC.region ?_
    refine WL.y rfl (Yld.pure tab_ok rfl) ?_
    refine WL.y rfl (Yld.pure tab_ok rfl) ?_
    obtain ⟨h1, H⟩ := H
    refine WL.y rfl (Yld.sidx tab_ok rfl rfl rfl h1.1 h1.2) ?_
    refine WL.call rfl rfl (W_path_letter H) ?_
    rintro _ _ ⟨rfl, t12, rfl, H⟩
    refine WL.y rfl (Yld.pure tab_ok rfl) ?_
    refine WL.nil (WX.then_normal ?_)
    refine WC.cond rfl (fun b2 => ?_) (fun b2 => ?_)
    · replace H := H.1 (b2)
      refine WC.seq ?_
      refine WC.region ?_
      refine WL.y rfl (Yld.pure tab_ok rfl) ?_
      refine WL.nil (WX.then_normal ?_)
      refine WC.ret (WX.block_ret (WX.then_ret (WX.then_ret (WX.block_ret (WX.then_ret ?_)))))
      exact WX.ret1 rfl rfl ⟨rfl, false, rfl, H⟩
    · replace H := H.2 (b2)
      refine WC.skip (WX.block_normal (WX.then_normal ?_))
      refine WC.region ?_
      obtain ⟨h2, H⟩ := H
      refine WL.y rfl (Yld.add rfl rfl h2) ?_
      refine WL.y rfl (Yld.pure tab_ok rfl) ?_
      refine WL.nil ?_
      exact WX.roundF _ ⟨t6 + (1 : Int), rfl, rfl, H.1, rfl⟩ (by repeat (first | exact Sub.nil | refine Sub.cons rfl ?_)) H.2
  · replace H := H.2 (of_decide_eq_false b1)
    refine WC.exit (WX.then_exit (WX.then_exit (WX.block_same (WX.then_normal ?_))))
    refine WC.seq ?_
    refine WC.region ?_
    refine WL.y rfl (Yld.pure tab_ok rfl) ?_
    refine WL.call rfl rfl (W_path_dots H) ?_
    rintro _ _ ⟨rfl, t16, rfl, H⟩
    refine WL.y rfl (Yld.pure tab_ok rfl) ?_
    refine WL.y rfl (Yld.pure tab_ok rfl) ?_
    refine WL.nil (WX.then_normal ?_)
    refine WC.ret ?_
    exact WX.ret1 rfl rfl ⟨rfl, !t16, rfl, H⟩

set_option maxHeartbeats 8000000 in
theorem W_path_Valid {S : List Nat} {w : World} {p : List UInt8} {K : Bool → Prop} (hG : GOK S w) (hS100 : 100 ∈ S) (H : M_path_Valid p K) : Fn Tryd.prog 61 ⟨[vs p]⟩ w (fun v w' => w.grownBy w' none ∧ ∃ (r : Bool), v = .bool r ∧ K r) := by
  unfold M_path_Valid at H
  refine Fn.enter (by kernel_rfl) Tryd.func61 rfl Tryd.ntmps61 rfl ?_
  refine WC.seq ?_
  refine WC.region ?_
  refine WL.y rfl (Yld.pure tab_ok rfl) ?_
  refine WL.nil (WX.then_normal ?_)
  refine WC.seq ?_
  refine WC.seq ?_
  refine WC.region ?_
  refine WL.y rfl (Yld.pure tab_ok rfl) ?_
  refine WL.y rfl (Yld.pure tab_ok rfl) ?_
  refine WL.y rfl (Yld.pure tab_ok rfl) ?_
  refine WL.nil (WX.then_normal ?_)
  refine WC.cond rfl (fun b1 => ?_) (fun b1 => ?_)
  · replace H := H.1 (of_decide_eq_true b1)
    refine WC.seq ?_
    refine WC.region ?_
    refine WL.y rfl (Yld.pure tab_ok rfl) ?_
    refine WL.nil (WX.then_normal ?_)
    refine WC.ret (WX.then_ret ?_)
    exact WX.ret1 rfl rfl ⟨(gr_refl _ _), false, rfl, H⟩
  · replace H := H.2 (of_decide_eq_false b1)
    refine WC.skip (WX.then_normal ?_)
    refine WC.seq ?_
    refine WC.seq ?_
    refine WC.region ?_
    refine WL.y rfl (Yld.pure tab_ok rfl) ?_
    refine WL.call rfl rfl (W_strings_Split hG hS100 H) ?_
    rintro _ w1 ⟨hg1, t9, A_t9, c_t9, rfl, ht9, H⟩
    have hb1 := ht9.ge'
    have k1 := ht9.base (fun g hg => Nat.le_trans (Nat.le_refl _) (hb1 g hg))
    have gr1 := hg1
    refine WL.y rfl (Yld.pure tab_ok rfl) ?_
    refine WL.y rfl (Yld.pure tab_ok rfl) ?_
    refine WL.nil (WX.then_normal ?_)
    refine WC.block ?_
    obtain ⟨I1, mu1, h0_1, HR1⟩ := H
    refine WC.loopF (fun n' L' w' => ∃ (t11 : Int), n' = mu1 t11 ∧ L' = [(9, .slice A_t9 t9.length c_t9), (10, .int .i64 (t9.length : Int)), (11, .int .i64 t11)] ∧ I1 t11 ∧ w1 = w') _ _ ⟨(0 : Int), rfl, rfl, h0_1, rfl⟩ (by repeat (first | exact Sub.nil | refine Sub.cons rfl ?_)) ?_
    clear h0_1
    rintro _ _ _ ⟨t11, rfl, rfl, hI1, rfl⟩
    have H := HR1 t11 hI1
    refine WC.seq ?_
    refine WC.region ?_
    refine WL.y rfl (Yld.pure tab_ok rfl) ?_
    refine WL.nil (WX.then_normal ?_)
    refine WC.seq ?_
    refine WC.cond rfl (fun b2 => ?_) (fun b2 => ?_)
    · replace H := H.1 (of_decide_eq_true b2)
      refine WC.skip (WX.then_normal ?_)
      refine WC.seq ?_
      refine WC.block ?_
      refine WC.seq ?_
      refine WC.region ?_
      obtain ⟨h1, H⟩ := H
      refine WL.y rfl (Yld.iaddrW tab_ok k1.rd rfl rfl rfl rfl h1.1 h1.2) ?_
      refine WL.y rfl (Yld.iload [] tab_ok k1.rd rfl rfl (iltN h1 rfl)) ?_
      refine WL.y rfl (Yld.pure tab_ok rfl) ?_
      refine WL.nil (WX.then_normal ?_)
      refine WC.seq ?_
      refine WC.region ?_
      refine WL.y rfl (Yld.pure tab_ok rfl) ?_
      refine WL.call rfl rfl (W_path_fair H) ?_
      rintro _ _ ⟨rfl, t16, rfl, H⟩
      refine WL.y rfl (Yld.pure tab_ok rfl) ?_
      refine WL.nil (WX.then_normal ?_)
      refine WC.cond rfl (fun b3 => ?_) (fun b3 => ?_)
      · replace H := H.1 (b3)
        refine WC.seq ?_
        refine WC.region ?_
        refine WL.y rfl (Yld.pure tab_ok rfl) ?_
        refine WL.nil (WX.then_normal ?_)
        refine WC.ret (WX.block_ret (WX.then_ret (WX.then_ret (WX.block_ret (WX.then_ret ?_)))))
        exact WX.ret1 rfl rfl ⟨gr1, false, rfl, H⟩
      · replace H := H.2 (b3)
        refine WC.skip (WX.block_normal (WX.then_normal ?_))
        refine WC.region ?_
        obtain ⟨h2, H⟩ := H
        refine WL.y rfl (Yld.add rfl rfl h2) ?_
        refine WL.y rfl (Yld.pure tab_ok rfl) ?_
        refine WL.nil ?_
        exact WX.roundF _ ⟨t11 + (1 : Int), rfl, rfl, H.1, rfl⟩ (by repeat (first | exact Sub.nil | refine Sub.cons rfl ?_)) H.2
    · replace H := H.2 (of_decide_eq_false b2)
      refine WC.exit (WX.then_exit (WX.then_exit (WX.block_same (WX.then_normal ?_))))
      refine WC.seq ?_
      refine WC.region ?_
      refine WL.y rfl (Yld.pure tab_ok rfl) ?_
      refine WL.nil (WX.then_normal ?_)
      refine WC.ret ?_
      exact WX.ret1 rfl rfl ⟨gr1, true, rfl, H⟩

set_option maxHeartbeats 8000000 in
theorem W_path_Base {w : World} {p : List UInt8} {K : (List UInt8) → Prop} (H : M_path_Base p K) : Fn Tryd.prog 63 ⟨[vs p]⟩ w (fun v w' => w = w' ∧ ∃ (r : List UInt8), v = vs r ∧ K r) := by
  unfold M_path_Base at H
  refine Fn.enter (by kernel_rfl) Tryd.func63 rfl Tryd.ntmps63 rfl ?_
  refine WC.seq ?_
  refine WC.region ?_
  refine WL.y rfl (Yld.pure tab_ok rfl) ?_
  refine WL.nil (WX.then_normal ?_)
  refine WC.seq ?_
  refine WC.region ?_
  refine WL.y rfl (Yld.pure tab_ok rfl) ?_
  refine WL.y rfl (Yld.pure tab_ok rfl) ?_
  refine WL.call rfl rfl (W_strings_LastIndexByte H) ?_
  rintro _ _ ⟨rfl, t5, rfl, H⟩
  obtain ⟨h1, H⟩ := H
  refine WL.y rfl (Yld.add rfl rfl h1) ?_
  obtain ⟨h2, H⟩ := H
  refine WL.y rfl (Yld.scutF tab_ok rfl rfl rfl h2.1 h2.2) ?_
  refine WL.y rfl (Yld.pure tab_ok rfl) ?_
  refine WL.nil (WX.then_normal ?_)
  refine WC.ret ?_
  exact WX.ret1 rfl rfl ⟨rfl, p.drop (t5 + (1 : Int)).toNat, rfl, H⟩

set_option maxHeartbeats 8000000 in
theorem W_cmp_Or_int {w : World} {vals : List Int} {A_vals : Option Addr} {c_vals : Nat} {n_vals : Nat} {K : Int → Prop} (hvals : Rd vi w A_vals c_vals vals) (hn_vals : n_vals = vals.length) (H : M_cmp_Or_int vals K) : Fn Tryd.prog 108 ⟨[.slice A_vals n_vals c_vals]⟩ w (fun v w' => w = w' ∧ ∃ (r : Int), v = .int .i64 r ∧ K r) := by
  subst hn_vals
  unfold M_cmp_Or_int at H
  refine Fn.enter (by kernel_rfl) Tryd.func108 rfl Tryd.ntmps108 rfl ?_
  replace H := H (Nat.le_trans hvals.cap hvals.max)
  refine WC.seq ?_
  refine WC.region ?_
  refine WL.y rfl (Yld.pure tab_ok rfl) ?_
  refine WL.nil (WX.then_normal ?_)
  refine WC.seq ?_
  refine WC.region ?_
  refine WL.y rfl (Yld.pure tab_ok rfl) ?_
  refine WL.nil (WX.then_normal ?_)
  refine WC.seq ?_
  refine WC.seq ?_
  refine WC.region ?_
  refine WL.y rfl (Yld.pure tab_ok rfl) ?_
  refine WL.y rfl (Yld.pure tab_ok rfl) ?_
  refine WL.y rfl (Yld.pure tab_ok rfl) ?_
  refine WL.nil (WX.then_normal ?_)
  refine WC.block ?_
  obtain ⟨I1, mu1, h0_1, HR1⟩ := H
  refine WC.loopF (fun n' L' w' => ∃ (t8 : Int), n' = mu1 t8 ∧ L' = [(3, .int .i64 (0 : Int)), (6, .slice A_vals vals.length c_vals), (7, .int .i64 (vals.length : Int)), (8, .int .i64 t8)] ∧ I1 t8 ∧ w = w') _ _ ⟨(0 : Int), rfl, rfl, h0_1, rfl⟩ (by repeat (first | exact Sub.nil | refine Sub.cons rfl ?_)) ?_
  clear h0_1
  rintro _ _ _ ⟨t8, rfl, rfl, hI1, rfl⟩
  have H := HR1 t8 hI1
  refine WC.seq ?_
  refine WC.region ?_
  refine WL.y rfl (Yld.pure tab_ok rfl) ?_
  refine WL.nil (WX.then_normal ?_)
  refine WC.seq ?_
  refine WC.cond rfl (fun b1 => ?_) (fun b1 => ?_)
  · replace H := H.1 (of_decide_eq_true b1)
    refine WC.skip (WX.then_normal ?_)
    refine WC.seq ?_
    refine WC.block ?_
    refine WC.seq ?_
    refine WC.region ?_
    obtain ⟨h1, H⟩ := H
    refine WL.y rfl (Yld.iaddrW tab_ok hvals rfl rfl rfl rfl h1.1 h1.2) ?_
    refine WL.y rfl (Yld.iload 0 tab_ok hvals rfl rfl (iltN h1 rfl)) ?_
    refine WL.y rfl (Yld.pure tab_ok rfl) ?_
    refine WL.nil (WX.then_normal ?_)
    refine WC.seq ?_
    refine WC.region ?_
    refine WL.y rfl (Yld.pure tab_ok rfl) ?_
    refine WL.y rfl (Yld.pure tab_ok rfl) ?_
    refine WL.y rfl (Yld.pure tab_ok rfl) ?_
    refine WL.nil (WX.then_normal ?_)
    refine WC.cond rfl (fun b2 => ?_) (fun b2 => ?_)
    · replace H := H.1 (nd_true b2)
      refine WC.seq ?_
      refine WC.region ?_
      refine WL.y rfl (Yld.pure tab_ok rfl) ?_
      refine WL.y rfl (Yld.pure tab_ok rfl) ?_
      refine WL.nil (WX.then_normal ?_)
      refine WC.ret (WX.block_ret (WX.then_ret (WX.then_ret (WX.block_ret (WX.then_ret ?_)))))
      exact WX.ret1 rfl rfl ⟨rfl, vals.getD t8.toNat 0, rfl, H⟩
    · replace H := H.2 (nd_false b2)
      refine WC.skip (WX.block_normal (WX.then_normal ?_))
      refine WC.region ?_
      obtain ⟨h2, H⟩ := H
      refine WL.y rfl (Yld.add rfl rfl h2) ?_
      refine WL.y rfl (Yld.pure tab_ok rfl) ?_
      refine WL.nil ?_
      exact WX.roundF _ ⟨t8 + (1 : Int), rfl, rfl, H.1, rfl⟩ (by repeat (first | exact Sub.nil | refine Sub.cons rfl ?_)) H.2
  · replace H := H.2 (of_decide_eq_false b1)
    refine WC.exit (WX.then_exit (WX.then_exit (WX.block_same (WX.then_normal ?_))))
    refine WC.seq ?_
    refine WC.region ?_
    refine WL.y rfl (Yld.pure tab_ok rfl) ?_
    refine WL.y rfl (Yld.pure tab_ok rfl) ?_
    refine WL.nil (WX.then_normal ?_)
    refine WC.ret ?_
    exact WX.ret1 rfl rfl ⟨rfl, (0 : Int), rfl, H⟩

set_option maxHeartbeats 8000000 in
theorem W_label_compare {w : World} {a_Pkg : List UInt8} {a_Name : List UInt8} {b_Pkg : List UInt8} {b_Name : List UInt8} {K : Int → Prop} (H : M_label_compare a_Pkg a_Name b_Pkg b_Name K) : Fn Tryd.prog 67 ⟨[.agg ⟨[vs a_Pkg, vs a_Name]⟩, .agg ⟨[vs b_Pkg, vs b_Name]⟩]⟩ w (fun v w' => w.grownBy w' none ∧ ∃ (r : Int), v = .int .i64 r ∧ K r) := by
  unfold M_label_compare at H
  refine Fn.enter (by kernel_rfl) Tryd.func67 rfl Tryd.ntmps67 rfl ?_
  refine WC.seq ?_
  refine WC.region ?_
  refine WL.box (us := [vs a_Pkg, vs a_Name]) rfl rfl rfl (fun g1 w1 hB1 hg1 hl1 => ?_)
  have gr1 := hg1
  refine WL.box (us := [vs b_Pkg, vs b_Name]) rfl rfl rfl (fun g2 w2 hB2 hg2 hl2 => ?_)
  have gr2 := gr_trans gr1 hg2
  have k1 := hB1.g0 hg2
  refine WL.y rfl (Yld.pure tab_ok rfl) ?_
  refine WL.nil (WX.then_normal ?_)
  refine WC.seq ?_
  refine WC.chainF (fun k => !(Nat.beq k 4 || Nat.beq k 9 || Nat.beq k 10 || Nat.beq k 11)) (LD [1, 3, 6, 8] (fun w' => Bl w' g1 27 [vs a_Pkg, vs a_Name] ∧ Bl w' g2 27 [vs b_Pkg, vs b_Name])) mixed (by kernel_rfl) (fun k w' h _ => ⟨(bl_eqv h k1), (bl_eqv h hB2)⟩) ?_
  refine WJ.y rfl rfl (fun w' hw' => Yld.pure tab_ok rfl) ?_
  refine WJ.y rfl rfl (fun w' hw' => Yld.bload tab_ok (hw' rfl).1 rfl rfl rfl) ?_
  refine WJ.y rfl rfl (fun w' hw' => Yld.pure tab_ok rfl) ?_
  refine WJ.y rfl rfl (fun w' hw' => Yld.bload tab_ok (hw' rfl).2 rfl rfl rfl) ?_
  refine WJ.call rfl (wants_none) rfl rfl (W_strings_Compare H) (fun v w' h w2 e => DD.keep (⟨(bl_eqv (eqvL h.1 e) k1), (bl_eqv (eqvL h.1 e) hB2)⟩)) ?_
  rintro _ _ ⟨rfl, t9, rfl, H⟩
  refine WJ.y rfl rfl (fun w' hw' => Yld.pure tab_ok rfl) ?_
  refine WJ.y rfl rfl (fun w' hw' => Yld.bload tab_ok (hw' rfl).1 rfl rfl rfl) ?_
  refine WJ.y rfl rfl (fun w' hw' => Yld.pure tab_ok rfl) ?_
  refine WJ.y rfl rfl (fun w' hw' => Yld.bload tab_ok (hw' rfl).2 rfl rfl rfl) ?_
  refine WJ.call rfl (wants_none) rfl rfl (W_strings_Compare H) (fun v w' h w2 e => DD.keep (⟨(bl_eqv (eqvL h.1 e) k1), (bl_eqv (eqvL h.1 e) hB2)⟩)) ?_
  rintro _ _ ⟨rfl, t14, rfl, H⟩
  refine WJ.putw rfl (wants_none) rfl (Eff.lit tab_ok rfl rfl (all1c rfl (all1c rfl all1n)) rfl (by omega)) (fun v w' ⟨_, _, h⟩ => DD.keep (⟨(Bl.g0 k1 (gr_eqv h (Eqv.refl _))), (Bl.g0 hB2 (gr_eqv h (Eqv.refl _)))⟩)) ?_
  rintro _ w3 ⟨rfl, hB3, hg3⟩
  obtain ⟨g_t15, hl3⟩ : ∃ g, g = w2.heap.size := ⟨_, rfl⟩
  rw [← hl3] at hB3
  rw [← hl3]
  have hO1 : Own vi w3 w.heap.size 3 (some ⟨g_t15, 0, none⟩) 2 ([t9, t14] : List Int) := Own.ofBl hB3 (Nat.le_trans (size_le gr2) (Nat.le_of_eq hl3.symm)) (by simp [maxLen]) rfl
  have gr3 := gr_trans gr2 hg3
  have k2 := k1.g0 hg3
  have k3 := hB2.g0 hg3
  refine WJ.call rfl (wants_none) rfl rfl (W_cmp_Or_int hO1.rd rfl H) (fun v w' h w2 e => DD.keep (⟨(bl_eqv (eqvL h.1 e) k2), (bl_eqv (eqvL h.1 e) k3)⟩)) ?_
  rintro _ _ ⟨rfl, t4, rfl, H⟩
  refine WJ.y rfl rfl (fun w' hw' => Yld.pure tab_ok rfl) ?_
  refine WJ.nil (WX.then_normal ?_)
  refine WC.ret ?_
  exact WX.ret1 rfl rfl ⟨gr3, t4, rfl, H⟩

set_option maxHeartbeats 8000000 in
theorem W_label_Less {w : World} {a_Pkg : List UInt8} {a_Name : List UInt8} {b_Pkg : List UInt8} {b_Name : List UInt8} {K : Bool → Prop} (H : M_label_Less a_Pkg a_Name b_Pkg b_Name K) : Fn Tryd.prog 18 ⟨[.agg ⟨[vs a_Pkg, vs a_Name]⟩, .agg ⟨[vs b_Pkg, vs b_Name]⟩]⟩ w (fun v w' => w.grownBy w' none ∧ ∃ (r : Bool), v = .bool r ∧ K r) := by
  unfold M_label_Less at H
  refine Fn.enter (by kernel_rfl) Tryd.func18 rfl Tryd.ntmps18 rfl ?_
  refine WC.seq ?_
  refine WC.region ?_
  refine WL.box (us := [vs a_Pkg, vs a_Name]) rfl rfl rfl (fun g1 w1 hB1 hg1 hl1 => ?_)
  have gr1 := hg1
  refine WL.box (us := [vs b_Pkg, vs b_Name]) rfl rfl rfl (fun g2 w2 hB2 hg2 hl2 => ?_)
  have gr2 := gr_trans gr1 hg2
  have k1 := hB1.g0 hg2
  refine WL.y rfl (Yld.pure tab_ok rfl) ?_
  refine WL.nil (WX.then_normal ?_)
  refine WC.seq ?_
  refine WC.region ?_
  refine WL.y rfl (Yld.bagg (vs := [vs a_Pkg, vs a_Name]) tab_ok k1 rfl rfl rfl rfl) ?_
  refine WL.y rfl (Yld.bagg (vs := [vs b_Pkg, vs b_Name]) tab_ok hB2 rfl rfl rfl rfl) ?_
  refine WL.call rfl rfl (W_label_compare H) ?_
  rintro _ w3 ⟨hg3, t7, rfl, H⟩
  have gr3 := gr_trans gr2 hg3
  refine WL.y rfl (Yld.pure tab_ok rfl) ?_
  refine WL.y rfl (Yld.pure tab_ok rfl) ?_
  refine WL.nil (WX.then_normal ?_)
  refine WC.ret ?_
  exact WX.ret1 rfl rfl ⟨gr3, decide (t7 < (0 : Int)), rfl, H⟩

set_option maxHeartbeats 8000000 in
theorem W_label_Parse {S : List Nat} {w : World} {s : List UInt8} {pkg : List UInt8} {K : (List UInt8) → (List UInt8) → Er → Prop} (hG : GOK S w) (hS11 : 11 ∈ S) (hS100 : 100 ∈ S) (H : M_label_Parse s pkg K) : Fn Tryd.prog 13 ⟨[vs s, vs pkg]⟩ w (fun v w' => w.grownBy w' none ∧ ∃ (r0_Pkg : List UInt8), ∃ (r0_Name : List UInt8), ∃ (v_r1 : Value), ∃ (r1 : Er), v = .tuple #[.agg ⟨[vs r0_Pkg, vs r0_Name]⟩, v_r1] ∧ ErrR S w' v_r1 r1 ∧ K r0_Pkg r0_Name r1) := by
  unfold M_label_Parse at H
  refine Fn.enter (by kernel_rfl) Tryd.func13 rfl Tryd.ntmps13 rfl ?_
  refine WC.seq ?_
  refine WC.region ?_
  refine WL.alloc rfl zero27 (fun g1 w1 hB1 hg1 hl1 => ?_)
  have gr1 := hg1
  refine WL.y rfl (Yld.pure tab_ok rfl) ?_
  refine WL.nil (WX.then_normal ?_)
  refine WC.seq ?_
  refine WC.seq ?_
  refine WC.region ?_
  refine WL.y rfl (Yld.pure tab_ok rfl) ?_
  refine WL.y rfl (Yld.pure tab_ok rfl) ?_
  refine WL.y rfl (Yld.pure tab_ok rfl) ?_
  obtain ⟨J1, H, hJ1⟩ := H
  refine WL.midF 4 (fun L' w' => ∃ q1 : Bool, L' = [(20, .bool q1), (0, vs s), (1, vs pkg), (4, .pointer (some ⟨g1, 0, none⟩))] ∧ J1 q1 ∧ w.grownBy w' none ∧ Bl w' g1 27 [vs ([] : List UInt8), vs ([] : List UInt8)]) ?_ (fun hQ => ?_)
  · clear H
    rintro _ w2 ⟨q1, rfl, H, gr2, k1⟩
    replace H := hJ1 q1 H
    refine WL.nil (WX.then_normal ?_)
    refine WC.cond rfl (fun b1 => ?_) (fun b1 => ?_)
    · replace H := H.1 (b1)
      refine WC.seq ?_
      obtain ⟨vE1, _, hE1⟩ := GOK.get (hG.grown gr2) 11 0 hS11 rfl rfl
      refine WC.chainF (fun k => !(Nat.beq k 2)) (LD [1] (fun w' => w'.cell? ⟨0, 0, none⟩ = some vE1)) mixed (by kernel_rfl) (fun k w' h _ => ((h.cell _).trans (ErrR.cell hE1 rfl))) ?_
      refine WJ.y rfl rfl (fun w' hw' => Yld.struct (us := [vs ([] : List UInt8), vs ([] : List UInt8)]) zero27 places27 rfl rfl) ?_
      refine WJ.y rfl rfl (fun w' hw' => Yld.cell tab_ok (hw' rfl) rfl rfl) ?_
      refine WJ.eff rfl (Ef0.storeW (vs := [vs ([] : List UInt8), vs ([] : List UInt8)]) tab_ok rfl rfl rfl (all1c rfl (all1c rfl all1n)) k1 rfl rfl) (fun w' h => DD.keep (ErrR.cell (ErrR.go hE1 hG gr2 (gr_eqv h.2 (Eqv.refl _)) (gr_mod gr2 (gr_eqv h.2 (Eqv.refl _)) (Ge.le (Ge.box hl1) (Nat.le_refl _))) k1 rfl) rfl)) ?_
      rintro w3 ⟨hB2, hg2⟩
      have gr3 := gr_mod gr2 hg2 (Ge.le (Ge.box hl1) (Nat.le_refl _))
      have k2 := ErrR.go hE1 hG gr2 hg2 gr3 k1 rfl
      refine WJ.y rfl rfl (fun w' hw' => Yld.pure tab_ok rfl) ?_
      refine WJ.nil (WX.then_normal ?_)
      refine WC.ret (WX.then_ret ?_)
      exact WX.retct tab_ok rfl rfl rfl hB2 rfl rfl ⟨gr3, ([] : List UInt8), ([] : List UInt8), vE1, (Er.e 11), rfl, k2, H⟩
    · replace H := H.2 (b1)
      refine WC.skip (WX.then_normal ?_)
      refine WC.seq ?_
      refine WC.region ?_
      refine WL.y rfl (Yld.pure tab_ok rfl) ?_
      refine WL.y rfl (Yld.pure tab_ok rfl) ?_
      refine WL.y rfl (Yld.struct (us := [vs pkg, vs s]) zero27 places27 rfl rfl) ?_
      refine WL.alloc rfl zero27 (fun g2 w4 hB3 hg3 hl2 => ?_)
      have gr4 := gr_trans gr2 hg3
      have k3 := k1.g0 hg3
      refine WL.storeW (vs := [vs pkg, vs s]) tab_ok rfl rfl rfl (all1c rfl (all1c rfl all1n)) hB3 rfl rfl (fun w5 hB4 hg4 => ?_)
      have gr5 := gr_mod gr4 hg4 (Ge.le (Ge.box hl2) (size_le gr2))
      have k4 := k3.go hg4 (Dj.new k1.lt' (Ge.box hl2))
      refine WL.nil (WX.then_normal ?_)
      refine WC.seq ?_
      obtain ⟨J2, H, hJ2⟩ := H
      refine WC.midF (fun L' w' => ∃ (l0 : List UInt8), ∃ (l1 : List UInt8), L' = [(4, .pointer (some ⟨g1, 0, none⟩)), (6, .pointer (some ⟨g2, 0, none⟩))] ∧ J2 l0 l1 ∧ w.grownBy w' none ∧ Bl w' g1 27 [vs ([] : List UInt8), vs ([] : List UInt8)] ∧ Bl w' g2 27 [vs l0, vs l1] ∧ Dj (some g1) (some g2)) ?_ (fun hQ => ?_)
      · clear H
        rintro _ w6 ⟨l0, l1, rfl, H, gr6, k5, k6, dj1⟩
        replace H := hJ2 l0 l1 H
        refine WX.then_normal ?_
        refine WC.seq ?_
        refine WC.seq ?_
        refine WC.region ?_
        refine WL.y rfl (Yld.pure tab_ok rfl) ?_
        refine WL.y rfl (Yld.bload tab_ok k6 rfl rfl rfl) ?_
        refine WL.y rfl (Yld.pure tab_ok rfl) ?_
        refine WL.y rfl (Yld.pure tab_ok rfl) ?_
        obtain ⟨J3, H, hJ3⟩ := H
        refine WL.midF 5 (fun L' w' => ∃ q2 : Bool, L' = [(63, .bool q2), (4, .pointer (some ⟨g1, 0, none⟩)), (6, .pointer (some ⟨g2, 0, none⟩))] ∧ J3 q2 ∧ w.grownBy w' none ∧ Bl w' g1 27 [vs ([] : List UInt8), vs ([] : List UInt8)] ∧ Bl w' g2 27 [vs l0, vs l1]) ?_ (fun hQ => ?_)
        · clear H
          rintro _ w7 ⟨q2, rfl, H, gr7, k7, k8⟩
          replace H := hJ3 q2 H
          refine WL.y rfl (Yld.pure tab_ok rfl) ?_
          obtain ⟨J4, H, hJ4⟩ := H
          refine WL.midF 5 (fun L' w' => ∃ q3 : Bool, L' = [(69, .bool q3), (4, .pointer (some ⟨g1, 0, none⟩)), (6, .pointer (some ⟨g2, 0, none⟩))] ∧ J4 q3 ∧ w.grownBy w' none ∧ Bl w' g1 27 [vs ([] : List UInt8), vs ([] : List UInt8)] ∧ Bl w' g2 27 [vs l0, vs l1]) ?_ (fun hQ => ?_)
          · clear H
            rintro _ w8 ⟨q3, rfl, H, gr8, k9, k10⟩
            replace H := hJ4 q3 H
            refine WL.nil (WX.then_normal ?_)
            refine WC.cond rfl (fun b2 => ?_) (fun b2 => ?_)
            · replace H := H.1 (b2)
              refine WC.seq ?_
              obtain ⟨vE2, _, hE2⟩ := GOK.get (hG.grown gr8) 11 0 hS11 rfl rfl
              refine WC.chainF (fun k => !(Nat.beq k 2)) (LD [1] (fun w' => w'.cell? ⟨0, 0, none⟩ = some vE2)) mixed (by kernel_rfl) (fun k w' h _ => ((h.cell _).trans (ErrR.cell hE2 rfl))) ?_
              refine WJ.y rfl rfl (fun w' hw' => Yld.struct (us := [vs ([] : List UInt8), vs ([] : List UInt8)]) zero27 places27 rfl rfl) ?_
              refine WJ.y rfl rfl (fun w' hw' => Yld.cell tab_ok (hw' rfl) rfl rfl) ?_
              refine WJ.eff rfl (Ef0.storeW (vs := [vs ([] : List UInt8), vs ([] : List UInt8)]) tab_ok rfl rfl rfl (all1c rfl (all1c rfl all1n)) k9 rfl rfl) (fun w' h => DD.keep (ErrR.cell (ErrR.go hE2 hG gr8 (gr_eqv h.2 (Eqv.refl _)) (gr_mod gr8 (gr_eqv h.2 (Eqv.refl _)) (Ge.le (Ge.box hl1) (Nat.le_refl _))) k9 rfl) rfl)) ?_
              rintro w9 ⟨hB5, hg5⟩
              have gr9 := gr_mod gr8 hg5 (Ge.le (Ge.box hl1) (Nat.le_refl _))
              have k11 := ErrR.go hE2 hG gr8 hg5 gr9 k9 rfl
              refine WJ.y rfl rfl (fun w' hw' => Yld.pure tab_ok rfl) ?_
              refine WJ.nil (WX.then_normal ?_)
              refine WC.ret (WX.then_ret ?_)
              exact WX.retct tab_ok rfl rfl rfl hB5 rfl rfl ⟨gr9, ([] : List UInt8), ([] : List UInt8), vE2, (Er.e 11), rfl, k11, H⟩
            · replace H := H.2 (b2)
              refine WC.skip (WX.then_normal ?_)
              refine WC.seq ?_
              refine WC.region ?_
              refine WL.y rfl (Yld.bagg (vs := [vs l0, vs l1]) tab_ok k10 rfl rfl rfl rfl) ?_
              refine WL.storeW (vs := [vs l0, vs l1]) tab_ok rfl rfl rfl (all1c rfl (all1c rfl all1n)) k9 rfl rfl (fun w10 hB6 hg6 => ?_)
              have gr10 := gr_mod gr8 hg6 (Ge.le (Ge.box hl1) (Nat.le_refl _))
              refine WL.y rfl (Yld.pure tab_ok rfl) ?_
              refine WL.nil (WX.then_normal ?_)
              refine WC.ret ?_
              exact WX.retct tab_ok rfl rfl rfl hB6 rfl rfl ⟨gr10, l0, l1, .nilIface, Er.ok, rfl, (ErrR.okR (S := S) (w := w10)), H⟩
          · clear hJ4
            rcases Bool.eq_false_or_eq_true (q2) with b3 | b3
            · replace H := H.1 b3
              refine WL.gno rfl rfl (okb b3) rfl ?_
              refine WL.gno rfl rfl (okb b3) rfl ?_
              refine WL.gno rfl rfl (okb b3) rfl ?_
              refine WL.gno rfl rfl (okb b3) rfl ?_
              refine WL.y rfl (Yld.pickT (okb b3) rfl) ?_
              exact WL.weaken (by repeat (first | exact Sub.nil | refine Sub.cons rfl ?_)) (hQ _ _ ⟨true, rfl, H, gr7, k7, k8⟩)
            · replace H := H.2 b3
              refine WL.gyes rfl rfl (okb b3) rfl (Yld.pure tab_ok rfl) ?_
              refine WL.gyes rfl rfl (okb b3) rfl (Yld.bload tab_ok k8 rfl rfl rfl) ?_
              refine WL.callw (wants_some rfl rfl (okb b3)) rfl rfl (W_path_Valid (hG.grown gr7) hS100 H) ?_
              rintro _ w11 ⟨hg7, t67, rfl, H⟩
              have gr11 := gr_trans gr7 hg7
              have k12 := k7.g0 hg7
              have k13 := k8.g0 hg7
              refine WL.gyes rfl rfl (okb b3) rfl (Yld.pure tab_ok rfl) ?_
              refine WL.y rfl (Yld.pickF (okb b3) rfl) ?_
              exact WL.weaken (by repeat (first | exact Sub.nil | refine Sub.cons rfl ?_)) (hQ _ _ ⟨!t67, rfl, H, gr11, k12, k13⟩)
        · clear hJ3
          rcases Bool.eq_false_or_eq_true (!decide (l0 = ([] : List UInt8))) with b4 | b4
          · replace H := H.1 b4
            refine WL.gyes rfl rfl (okb b4) rfl (Yld.pure tab_ok rfl) ?_
            refine WL.gyes rfl rfl (okb b4) rfl (Yld.bload tab_ok k6 rfl rfl rfl) ?_
            refine WL.callw (wants_some rfl rfl (okb b4)) rfl rfl (W_path_Valid (hG.grown gr6) hS100 H) ?_
            rintro _ w12 ⟨hg8, t61, rfl, H⟩
            have gr12 := gr_trans gr6 hg8
            have k14 := k5.g0 hg8
            have k15 := k6.g0 hg8
            refine WL.gyes rfl rfl (okb b4) rfl (Yld.pure tab_ok rfl) ?_
            refine WL.y rfl (Yld.pickT (okb b4) rfl) ?_
            exact WL.weaken (by repeat (first | exact Sub.nil | refine Sub.cons rfl ?_)) (hQ _ _ ⟨!t61, rfl, H, gr12, k14, k15⟩)
          · replace H := H.2 b4
            refine WL.gno rfl rfl (okb b4) rfl ?_
            refine WL.gno rfl rfl (okb b4) rfl ?_
            refine WL.gno rfl rfl (okb b4) rfl ?_
            refine WL.gno rfl rfl (okb b4) rfl ?_
            refine WL.y rfl (Yld.pickF (okb b4) rfl) ?_
            exact WL.weaken (by repeat (first | exact Sub.nil | refine Sub.cons rfl ?_)) (hQ _ _ ⟨false, rfl, H, gr6, k5, k6⟩)
      · clear hJ2
        refine WC.seq ?_
        refine WC.region ?_
        refine WL.y rfl (Yld.pure tab_ok rfl) ?_
        refine WL.call rfl rfl (W_strings_CutPrefix H) ?_
        rintro _ _ ⟨rfl, t280, t281, rfl, H⟩
        refine WL.y rfl (Yld.pure tab_ok rfl) ?_
        refine WL.y rfl (Yld.pure tab_ok rfl) ?_
        refine WL.y rfl (Yld.pure tab_ok rfl) ?_
        refine WL.y rfl (Yld.pure tab_ok rfl) ?_
        refine WL.y rfl (Yld.pure tab_ok rfl) ?_
        refine WL.nil (WX.then_normal ?_)
        refine WC.seq ?_
        refine WC.region ?_
        refine WL.y rfl (Yld.pure tab_ok rfl) ?_
        refine WL.nil (WX.then_normal ?_)
        refine WC.cond rfl (fun b5 => ?_) (fun b5 => ?_)
        · replace H := H.1 (b5)
          refine WC.seq ?_
          refine WC.region ?_
          refine WL.y rfl (Yld.pure tab_ok rfl) ?_
          refine WL.y rfl (Yld.pure tab_ok rfl) ?_
          refine WL.store1 one9 rfl rfl rfl hB4 (by simp) (fun w13 hB8 hg9 => ?_)
          have hB7 : Bl w13 g2 27 [vs t280, vs s] := hB8
          have gr13 := gr_mod gr5 hg9 (Ge.le (Ge.box hl2) (size_le gr2))
          have k16 := k4.go hg9 (Dj.new k1.lt' (Ge.box hl2))
          refine WL.nil (WX.then_normal ?_)
          refine WC.seq ?_
          refine WC.region ?_
          refine WL.y rfl (Yld.pure tab_ok rfl) ?_
          refine WL.call rfl rfl (W_path_Base H) ?_
          rintro _ _ ⟨rfl, t35, rfl, H⟩
          refine WL.y rfl (Yld.pure tab_ok rfl) ?_
          refine WL.store1 one9 rfl rfl rfl hB7 (by simp) (fun w14 hB10 hg10 => ?_)
          have hB9 : Bl w14 g2 27 [vs t280, vs t35] := hB10
          have gr14 := gr_mod gr13 hg10 (Ge.le (Ge.box hl2) (size_le gr2))
          have k17 := k16.go hg10 (Dj.new k1.lt' (Ge.box hl2))
          refine WL.nil (WX.then_normal ?_)
          refine WC.seq ?_
          refine WC.region ?_
          refine WL.y rfl (Yld.pure tab_ok rfl) ?_
          refine WL.call rfl rfl (W_strings_Cut (hG.grown gr14) hS100 H) ?_
          rintro _ _ ⟨rfl, t390, t391, t392, rfl, H⟩
          refine WL.y rfl (Yld.pure tab_ok rfl) ?_
          refine WL.y rfl (Yld.pure tab_ok rfl) ?_
          refine WL.y rfl (Yld.pure tab_ok rfl) ?_
          refine WL.y rfl (Yld.pure tab_ok rfl) ?_
          refine WL.y rfl (Yld.pure tab_ok rfl) ?_
          refine WL.y rfl (Yld.pure tab_ok rfl) ?_
          refine WL.y rfl (Yld.pure tab_ok rfl) ?_
          refine WL.nil (WX.then_normal ?_)
          refine WC.seq ?_
          refine WC.region ?_
          refine WL.y rfl (Yld.pure tab_ok rfl) ?_
          refine WL.nil (WX.then_normal ?_)
          refine WC.cond rfl (fun b6 => ?_) (fun b6 => ?_)
          · replace H := H.1 (b6)
            refine WC.region ?_
            refine WL.y rfl (Yld.pure tab_ok rfl) ?_
            refine WL.y rfl (Yld.pure tab_ok rfl) ?_
            refine WL.y rfl (Yld.struct (us := [vs t390, vs t391]) zero27 places27 rfl rfl) ?_
            refine WL.storeW (vs := [vs t390, vs t391]) tab_ok rfl rfl rfl (all1c rfl (all1c rfl all1n)) hB9 rfl rfl (fun w15 hB11 hg11 => ?_)
            have gr15 := gr_mod gr14 hg11 (Ge.le (Ge.box hl2) (size_le gr2))
            have k18 := k17.go hg11 (Dj.new k1.lt' (Ge.box hl2))
            refine WL.nil ?_
            exact WX.weaken (by repeat (first | exact Sub.nil | refine Sub.cons rfl ?_)) (hQ _ _ ⟨t390, t391, rfl, H, gr15, k18, hB11, (Dj.new k1.lt' (Ge.box hl2))⟩)
          · replace H := H.2 (b6)
            refine WC.skip ?_
            exact WX.weaken (by repeat (first | exact Sub.nil | refine Sub.cons rfl ?_)) (hQ _ _ ⟨t280, t35, rfl, H, gr14, k17, hB9, (Dj.new k1.lt' (Ge.box hl2))⟩)
        · replace H := H.2 (b5)
          refine WC.seq ?_
          refine WC.region ?_
          refine WL.y rfl (Yld.pure tab_ok rfl) ?_
          refine WL.call rfl rfl (W_strings_CutPrefix H) ?_
          rintro _ _ ⟨rfl, t490, t491, rfl, H⟩
          refine WL.y rfl (Yld.pure tab_ok rfl) ?_
          refine WL.y rfl (Yld.pure tab_ok rfl) ?_
          refine WL.y rfl (Yld.pure tab_ok rfl) ?_
          refine WL.y rfl (Yld.pure tab_ok rfl) ?_
          refine WL.y rfl (Yld.pure tab_ok rfl) ?_
          refine WL.nil (WX.then_normal ?_)
          refine WC.seq ?_
          refine WC.region ?_
          refine WL.y rfl (Yld.pure tab_ok rfl) ?_
          refine WL.nil (WX.then_normal ?_)
          refine WC.cond rfl (fun b7 => ?_) (fun b7 => ?_)
          · replace H := H.1 (b7)
            refine WC.region ?_
            refine WL.y rfl (Yld.pure tab_ok rfl) ?_
            refine WL.y rfl (Yld.pure tab_ok rfl) ?_
            refine WL.store1 one9 rfl rfl rfl hB4 (by simp) (fun w16 hB13 hg12 => ?_)
            have hB12 : Bl w16 g2 27 [vs pkg, vs t490] := hB13
            have gr16 := gr_mod gr5 hg12 (Ge.le (Ge.box hl2) (size_le gr2))
            have k19 := k4.go hg12 (Dj.new k1.lt' (Ge.box hl2))
            refine WL.nil ?_
            exact WX.weaken (by repeat (first | exact Sub.nil | refine Sub.cons rfl ?_)) (hQ _ _ ⟨pkg, t490, rfl, H, gr16, k19, hB12, (Dj.new k1.lt' (Ge.box hl2))⟩)
          · replace H := H.2 (b7)
            refine WC.skip ?_
            exact WX.weaken (by repeat (first | exact Sub.nil | refine Sub.cons rfl ?_)) (hQ _ _ ⟨pkg, s, rfl, H, gr5, k4, hB4, (Dj.new k1.lt' (Ge.box hl2))⟩)
  · clear hJ1
    rcases Bool.eq_false_or_eq_true (!decide (pkg = ([] : List UInt8))) with b8 | b8
    · replace H := H.1 b8
      refine WL.gyes rfl rfl (okb b8) rfl (Yld.pure tab_ok rfl) ?_
      refine WL.callw (wants_some rfl rfl (okb b8)) rfl rfl (W_path_Valid (hG.grown gr1) hS100 H) ?_
      rintro _ w17 ⟨hg13, t18, rfl, H⟩
      have gr17 := gr_trans gr1 hg13
      have k20 := hB1.g0 hg13
      refine WL.gyes rfl rfl (okb b8) rfl (Yld.pure tab_ok rfl) ?_
      refine WL.y rfl (Yld.pickT (okb b8) rfl) ?_
      exact WL.weaken (by repeat (first | exact Sub.nil | refine Sub.cons rfl ?_)) (hQ _ _ ⟨!t18, rfl, H, gr17, k20⟩)
    · replace H := H.2 b8
      refine WL.gno rfl rfl (okb b8) rfl ?_
      refine WL.gno rfl rfl (okb b8) rfl ?_
      refine WL.gno rfl rfl (okb b8) rfl ?_
      refine WL.y rfl (Yld.pickF (okb b8) rfl) ?_
      exact WL.weaken (by repeat (first | exact Sub.nil | refine Sub.cons rfl ?_)) (hQ _ _ ⟨false, rfl, H, gr1, hB1⟩)

set_option maxHeartbeats 8000000 in
theorem W_label_Label_Text {w : World} {l_Pkg : List UInt8} {l_Name : List UInt8} {K : (List UInt8) → Prop} (H : M_label_Label_Text l_Pkg l_Name K) : Fn Tryd.prog 14 ⟨[.agg ⟨[vs l_Pkg, vs l_Name]⟩]⟩ w (fun v w' => w.grownBy w' none ∧ ∃ (r : List UInt8), v = vs r ∧ K r) := by
  unfold M_label_Label_Text at H
  refine Fn.enter (by kernel_rfl) Tryd.func14 rfl Tryd.ntmps14 rfl ?_
  refine WC.seq ?_
  refine WC.region ?_
  refine WL.box (us := [vs l_Pkg, vs l_Name]) rfl rfl rfl (fun g1 w1 hB1 hg1 hl1 => ?_)
  have gr1 := hg1
  refine WL.y rfl (Yld.pure tab_ok rfl) ?_
  refine WL.nil (WX.then_normal ?_)
  refine WC.seq ?_
  refine WC.region ?_
  refine WL.y rfl (Yld.pure tab_ok rfl) ?_
  refine WL.y rfl (Yld.bload tab_ok hB1 rfl rfl rfl) ?_
  obtain ⟨h1, H⟩ := H
  refine WL.y rfl (Yld.sadd rfl rfl h1) ?_
  obtain ⟨h2, H⟩ := H
  refine WL.y rfl (Yld.sadd rfl rfl h2) ?_
  refine WL.y rfl (Yld.pure tab_ok rfl) ?_
  refine WL.y rfl (Yld.bload tab_ok hB1 rfl rfl rfl) ?_
  obtain ⟨h3, H⟩ := H
  refine WL.y rfl (Yld.sadd rfl rfl h3) ?_
  refine WL.y rfl (Yld.pure tab_ok rfl) ?_
  refine WL.nil (WX.then_normal ?_)
  refine WC.ret ?_
  exact WX.ret1 rfl rfl ⟨gr1, ((([47, 47] : List UInt8) ++ l_Pkg) ++ ([58] : List UInt8)) ++ l_Name, rfl, H⟩

set_option maxHeartbeats 8000000 in
theorem W_smithyref_AmongTexts {w : World} {l : List (List UInt8)} {A_l : Option Addr} {c_l : Nat} {s : List UInt8} {n_l : Nat} {K : Int → Prop} (hl : Rd vs w A_l c_l l) (hn_l : n_l = l.length) (H : M_smithyref_AmongTexts l s K) : Fn Tryd.prog 17 ⟨[.slice A_l n_l c_l, vs s]⟩ w (fun v w' => w = w' ∧ ∃ (r : Int), v = .int .i64 r ∧ K r) := by
  subst hn_l
  unfold M_smithyref_AmongTexts at H
  refine Fn.enter (by kernel_rfl) Tryd.func17 rfl Tryd.ntmps17 rfl ?_
  replace H := H (Nat.le_trans hl.cap hl.max)
  refine WC.seq ?_
  refine WC.region ?_
  refine WL.y rfl (Yld.pure tab_ok rfl) ?_
  refine WL.nil (WX.then_normal ?_)
  refine WC.seq ?_
  refine WC.seq ?_
  refine WC.region ?_
  refine WL.y rfl (Yld.pure tab_ok rfl) ?_
  refine WL.nil (WX.then_normal ?_)
  refine WC.block ?_
  obtain ⟨I1, mu1, h0_1, HR1⟩ := H
  refine WC.loopF (fun n' L' w' => ∃ (i : Int), n' = mu1 i ∧ L' = [(0, .slice A_l l.length c_l), (1, vs s), (5, .int .i64 i)] ∧ I1 i ∧ w = w') _ _ ⟨(0 : Int), rfl, rfl, h0_1, rfl⟩ (by repeat (first | exact Sub.nil | refine Sub.cons rfl ?_)) ?_
  clear h0_1
  rintro _ _ _ ⟨i, rfl, rfl, hI1, rfl⟩
  have H := HR1 i hI1
  refine WC.seq ?_
  refine WC.seq ?_
  refine WC.region ?_
  refine WL.y rfl (Yld.pure tab_ok rfl) ?_
  refine WL.y rfl (Yld.pure tab_ok rfl) ?_
  refine WL.y rfl (Yld.pure tab_ok rfl) ?_
  refine WL.y rfl (Yld.pure tab_ok rfl) ?_
  refine WL.nil (WX.then_normal ?_)
  refine WC.cond rfl (fun b1 => ?_) (fun b1 => ?_)
  · replace H := H.1 (of_decide_eq_true b1)
    refine WC.skip (WX.then_normal ?_)
    refine WC.seq ?_
    refine WC.block ?_
    refine WC.seq ?_
    refine WC.region ?_
    refine WL.y rfl (Yld.pure tab_ok rfl) ?_
    refine WL.y rfl (Yld.pure tab_ok rfl) ?_
    obtain ⟨h1, H⟩ := H
    refine WL.y rfl (Yld.iaddrW tab_ok hl rfl rfl rfl rfl h1.1 h1.2) ?_
    refine WL.y rfl (Yld.iload [] tab_ok hl rfl rfl (iltN h1 rfl)) ?_
    refine WL.y rfl (Yld.pure tab_ok rfl) ?_
    refine WL.y rfl (Yld.pure tab_ok rfl) ?_
    refine WL.nil (WX.then_normal ?_)
    refine WC.cond rfl (fun b2 => ?_) (fun b2 => ?_)
    · replace H := H.1 (of_decide_eq_true b2)
      refine WC.seq ?_
      refine WC.region ?_
      refine WL.y rfl (Yld.pure tab_ok rfl) ?_
      refine WL.y rfl (Yld.pure tab_ok rfl) ?_
      refine WL.nil (WX.then_normal ?_)
      refine WC.ret (WX.block_ret (WX.then_ret (WX.then_ret (WX.block_ret (WX.then_ret ?_)))))
      exact WX.ret1 rfl rfl ⟨rfl, i, rfl, H⟩
    · replace H := H.2 (of_decide_eq_false b2)
      refine WC.skip (WX.block_normal (WX.then_normal ?_))
      refine WC.region ?_
      refine WL.y rfl (Yld.pure tab_ok rfl) ?_
      obtain ⟨h2, H⟩ := H
      refine WL.y rfl (Yld.add rfl rfl h2) ?_
      refine WL.y rfl (Yld.pure tab_ok rfl) ?_
      refine WL.nil ?_
      exact WX.roundF _ ⟨i + (1 : Int), rfl, rfl, H.1, rfl⟩ (by repeat (first | exact Sub.nil | refine Sub.cons rfl ?_)) H.2
  · replace H := H.2 (of_decide_eq_false b1)
    refine WC.exit (WX.then_exit (WX.then_exit (WX.block_same (WX.then_normal ?_))))
    refine WC.seq ?_
    refine WC.region ?_
    refine WL.y rfl (Yld.pure tab_ok rfl) ?_
    refine WL.nil (WX.then_normal ?_)
    refine WC.ret ?_
    exact WX.ret1 rfl rfl ⟨rfl, (-1 : Int), rfl, H⟩

set_option maxHeartbeats 8000000 in
theorem W_smithyref_SortedTexts {w : World} {l : List (List UInt8)} {A_l : Option Addr} {c_l : Nat} {n_l : Nat} {K : (List (List UInt8)) → Prop} (hl : Rd vs w A_l c_l l) (hn_l : n_l = l.length) (H : M_smithyref_SortedTexts l K) : Fn Tryd.prog 16 ⟨[.slice A_l n_l c_l]⟩ w (fun v w' => w.grownBy w' none ∧ ∃ (r : List (List UInt8)), ∃ (A_r : Option Addr), ∃ (c_r : Nat), v = .slice A_r r.length c_r ∧ Own vs w' w.heap.size 9 A_r c_r r ∧ K r) := by
  subst hn_l
  unfold M_smithyref_SortedTexts at H
  refine Fn.enter (by kernel_rfl) Tryd.func16 rfl Tryd.ntmps16 rfl ?_
  replace H := H (Nat.le_trans hl.cap hl.max)
  refine WC.seq ?_
  refine WC.region ?_
  refine WL.y rfl (Yld.pure tab_ok rfl) ?_
  refine WL.nil (WX.then_normal ?_)
  refine WC.seq ?_
  refine WC.region ?_
  refine WL.y rfl (Yld.pure tab_ok rfl) ?_
  refine WL.nil (WX.then_normal ?_)
  refine WC.seq ?_
  refine WC.seq ?_
  refine WC.region ?_
  refine WL.y rfl (Yld.pure tab_ok rfl) ?_
  refine WL.nil (WX.then_normal ?_)
  refine WC.block ?_
  obtain ⟨I1, mu1, h0_1, HR1⟩ := H
  refine WC.loopF (fun n' L' w' => ∃ (out : List (List UInt8)), ∃ (A_out : Option Addr), ∃ (c_out : Nat), ∃ (n_out : Nat), ∃ (i : Int), n' = mu1 out i ∧ L' = [(0, .slice A_l l.length c_l), (3, .slice A_out n_out c_out), (4, .int .i64 i)] ∧ I1 out i ∧ n_out = out.length ∧ w.grownBy w' none ∧ Own vs w' w.heap.size 9 A_out c_out out) _ _ ⟨[], none, 0, 0, (0 : Int), rfl, rfl, h0_1, rfl, (gr_refl _ _), (Own.nil vs w w.heap.size 9)⟩ (by repeat (first | exact Sub.nil | refine Sub.cons rfl ?_)) ?_
  clear h0_1
  rintro _ _ w1 ⟨out, A_out, c_out, n_out, i, rfl, rfl, hI1, rfl, gr1, k1⟩
  have H := HR1 out i hI1
  refine WC.seq ?_
  refine WC.seq ?_
  refine WC.region ?_
  refine WL.y rfl (Yld.pure tab_ok rfl) ?_
  refine WL.y rfl (Yld.pure tab_ok rfl) ?_
  refine WL.y rfl (Yld.pure tab_ok rfl) ?_
  refine WL.y rfl (Yld.pure tab_ok rfl) ?_
  refine WL.nil (WX.then_normal ?_)
  refine WC.cond rfl (fun b1 => ?_) (fun b1 => ?_)
  · replace H := H.1 (of_decide_eq_true b1)
    refine WC.skip (WX.then_normal ?_)
    refine WC.seq ?_
    obtain ⟨J1, H, hJ1⟩ := H
    refine WC.midF (fun L' w' => ∃ (out2 : List (List UInt8)), ∃ (A_out2 : Option Addr), ∃ (c_out2 : Nat), ∃ (n_out2 : Nat), L' = [(0, .slice A_l l.length c_l), (3, .slice A_out2 n_out2 c_out2), (4, .int .i64 i)] ∧ J1 out2 ∧ n_out2 = out2.length ∧ w.grownBy w' none ∧ Own vs w' w.heap.size 9 A_out2 c_out2 out2) ?_ (fun hQ => ?_)
    · clear H
      rintro _ w2 ⟨out2, A_out2, c_out2, n_out2, rfl, H, rfl, gr2, k2⟩
      replace H := hJ1 out2 H
      refine WX.then_normal ?_
      refine WC.region ?_
      refine WL.y rfl (Yld.pure tab_ok rfl) ?_
      obtain ⟨h1, H⟩ := H
      refine WL.y rfl (Yld.add rfl rfl h1) ?_
      refine WL.y rfl (Yld.pure tab_ok rfl) ?_
      refine WL.nil ?_
      exact WX.roundF _ ⟨out2, A_out2, c_out2, out2.length, i + (1 : Int), rfl, rfl, H.1, rfl, gr2, k2⟩ (by repeat (first | exact Sub.nil | refine Sub.cons rfl ?_)) H.2
    · clear hJ1
      refine WC.block ?_
      refine WC.seq ?_
      refine WC.region ?_
      refine WL.y rfl (Yld.pure tab_ok rfl) ?_
      refine WL.nil (WX.then_normal ?_)
      refine WC.seq ?_
      refine WC.block ?_
      obtain ⟨I2, mu2, h0_2, HR2⟩ := H
      refine WC.loopF (fun n' L' w' => ∃ (k : Int), n' = mu2 k ∧ L' = [(0, .slice A_l l.length c_l), (3, .slice A_out out.length c_out), (4, .int .i64 i), (5, .int .i64 k)] ∧ I2 k ∧ w1 = w') _ _ ⟨(0 : Int), rfl, rfl, h0_2, rfl⟩ (by repeat (first | exact Sub.nil | refine Sub.cons rfl ?_)) ?_
      clear h0_2
      rintro _ _ _ ⟨k, rfl, rfl, hI2, rfl⟩
      have H := HR2 k hI2
      refine WC.seq ?_
      refine WC.seq ?_
      refine WC.quiet mixed (by kernel_rfl) ?_
      refine WQ.y rfl (Yld.pure tab_ok rfl) ?_
      refine WQ.y rfl (Yld.pure tab_ok rfl) ?_
      refine WQ.y rfl (Yld.pure tab_ok rfl) ?_
      refine WQ.y rfl (Yld.pure tab_ok rfl) ?_
      refine WQ.y rfl (Yld.pure tab_ok rfl) ?_
      obtain ⟨h2, H⟩ := H
      obtain ⟨h3, H⟩ := H
      refine WQ.midF 10 (fun L' w' => ∃ q1 : Bool, L' = [(27, .bool q1), (0, .slice A_l l.length c_l), (3, .slice A_out out.length c_out), (4, .int .i64 i), (5, .int .i64 k)] ∧ q1 = ((decide (k < (out.length : Int))) && (Op.bytesLess (out.getD k.toNat []) (l.getD i.toNat []))) ∧ w1 = w') ?_ (fun hQ => ?_)
      · rintro _ _ ⟨q1, rfl, rfl, rfl⟩
        refine WQ.nil (WX.then_normal ?_)
        refine WC.cond rfl (fun b2 => ?_) (fun b2 => ?_)
        · replace H := H.1 (b2)
          refine WC.skip (WX.then_normal ?_)
          refine WC.block ?_
          refine WC.region ?_
          refine WL.y rfl (Yld.pure tab_ok rfl) ?_
          obtain ⟨h4, H⟩ := H
          refine WL.y rfl (Yld.add rfl rfl h4) ?_
          refine WL.y rfl (Yld.pure tab_ok rfl) ?_
          refine WL.nil (WX.block_normal ?_)
          exact WX.roundF _ ⟨k + (1 : Int), rfl, rfl, H.1, rfl⟩ (by repeat (first | exact Sub.nil | refine Sub.cons rfl ?_)) H.2
        · replace H := H.2 (b2)
          refine WC.exit (WX.then_exit (WX.then_exit (WX.block_same (WX.then_normal ?_))))
          refine WC.seq ?_
          refine WC.seq ?_
          refine WC.quiet mixed (by kernel_rfl) ?_
          refine WQ.y rfl (Yld.pure tab_ok rfl) ?_
          refine WQ.y rfl (Yld.pure tab_ok rfl) ?_
          refine WQ.y rfl (Yld.pure tab_ok rfl) ?_
          refine WQ.y rfl (Yld.pure tab_ok rfl) ?_
          refine WQ.y rfl (Yld.pure tab_ok rfl) ?_
          obtain ⟨h5, H⟩ := H
          obtain ⟨h6, H⟩ := H
          refine WQ.midF 10 (fun L' w' => ∃ q2 : Bool, L' = [(44, .bool q2), (0, .slice A_l l.length c_l), (3, .slice A_out out.length c_out), (4, .int .i64 i), (5, .int .i64 k)] ∧ q2 = ((decide (k < (out.length : Int))) && (decide ((out.getD k.toNat []) = (l.getD i.toNat [])))) ∧ w1 = w') ?_ (fun hQ => ?_)
          · rintro _ _ ⟨q2, rfl, rfl, rfl⟩
            refine WQ.nil (WX.then_normal ?_)
            refine WC.cond rfl (fun b3 => ?_) (fun b3 => ?_)
            · replace H := H.1 (b3)
              refine WC.exit (WX.then_exit (WX.block_same ?_))
              exact WX.weaken (by repeat (first | exact Sub.nil | refine Sub.cons rfl ?_)) (hQ _ _ ⟨out, A_out, c_out, out.length, rfl, H, rfl, gr1, k1⟩)
            · replace H := H.2 (b3)
              refine WC.skip (WX.then_normal ?_)
              refine WC.seq ?_
              refine WC.chainF (fun k => !(Nat.beq k 3 || Nat.beq k 7)) (LD [] (fun w' => True)) mixed (by kernel_rfl) (fun k w' h _ => trivial) ?_
              refine WJ.y rfl rfl (fun w' hw' => Yld.pure tab_ok rfl) ?_
              refine WJ.y rfl rfl (fun w' hw' => Yld.pure tab_ok rfl) ?_
              obtain ⟨h7, H⟩ := H
              refine WJ.y rfl rfl (fun w' hw' => Yld.add rfl rfl h7) ?_
              obtain ⟨h8, H⟩ := H
              refine WJ.putw rfl (wants_none) rfl (Eff.makeCI (f := vs) (B := w.heap.size) tab_ok rfl rfl rfl h8.1 h8.2.1 h8.2.2 (size_le gr1)) (fun v w' ⟨_, _, h⟩ => DD.keep trivial) ?_
              rintro _ w3 ⟨rfl, hB1, hg1⟩
              obtain ⟨g_t48, hl1⟩ : ∃ g, g = w1.heap.size := ⟨_, rfl⟩
              rw [← hl1] at hB1
              rw [← hl1]
              have hO1 : Own vs w3 w.heap.size 9 (some ⟨g_t48, 0, none⟩) (((out.length : Int) + (1 : Int)).toNat) ([] : List (List UInt8)) := hB1.base (fun g hg => by cases hg; exact Nat.le_trans (size_le gr1) (Nat.le_of_eq hl1.symm))
              have gr3 := gr_trans gr1 hg1
              have k3 := k1.grown hg1
              refine WJ.y rfl rfl (fun w' hw' => Yld.pure tab_ok rfl) ?_
              refine WJ.y rfl rfl (fun w' hw' => Yld.pure tab_ok rfl) ?_
              obtain ⟨h9, H⟩ := H
              refine WJ.y rfl rfl (fun w' hw' => Yld.ocutY tab_ok k3.rd rfl rfl rfl rfl rfl h9.1 h9.2) ?_
              obtain ⟨h10, H⟩ := H
              refine WJ.putw rfl (wants_none) rfl (Eff.append tab_ok rfl One.s hO1 rfl rfl (k3.rd.take k.toNat) rfl rfl h10 (applen h10) (size_le gr3)) (fun v w' ⟨_, _, _, _, h, _⟩ => DD.keep trivial) ?_
              rintro _ w4 ⟨A_next, c_next, rfl, hO2, hg2, hk1⟩
              have gr4 := gr_mod gr3 hg2 hO1.ge'
              have k4 := k3.go hg2 (Dj.new k1.lt' (Ge.box (Nat.le_of_eq hl1.symm)))
              refine WJ.y rfl rfl (fun w' hw' => Yld.pure tab_ok rfl) ?_
              refine WJ.nil (WX.then_normal ?_)
              refine WC.seq ?_
              refine WC.region ?_
              refine WL.y rfl (Yld.pure tab_ok rfl) ?_
              refine WL.y rfl (Yld.pure tab_ok rfl) ?_
              refine WL.y rfl (Yld.pure tab_ok rfl) ?_
              obtain ⟨h11, H⟩ := H
              refine WL.y rfl (Yld.iaddrW tab_ok (hl.grown gr4) rfl rfl rfl rfl h11.1 h11.2) ?_
              refine WL.y rfl (Yld.iload [] tab_ok (hl.grown gr4) rfl rfl (iltN h11 rfl)) ?_
              refine WL.lit tab_ok rfl rfl rfl (all1c rfl all1n) rfl (by omega) (fun g1 w5 hB2 hg3 hl2 => ?_)
              have hO3 : Own vs w5 w.heap.size 9 (some ⟨g1, 0, none⟩) 1 ([l.getD i.toNat []] : List (List UInt8)) := Own.ofBl hB2 (Nat.le_trans (size_le gr4) hl2) (by simp [maxLen]) rfl
              have gr5 := gr_trans gr4 hg3
              have k5 := k4.grown hg3
              have k6 := hO2.grown hg3
              obtain ⟨h12, H⟩ := H
              refine WL.append tab_ok rfl rfl One.s k6 rfl rfl hO3.rd rfl rfl h12 (applen h12) (size_le gr5) (fun A_next2 c_next2 w6 hO4 hg4 hk2 => ?_)
              have gr6 := gr_mod gr5 hg4 k6.ge'
              have k7 := k5.go hg4 ((Dj.app (Dj.new k1.lt' (Ge.box (Nat.le_of_eq hl1.symm))).symm k3.lt' hk1).symm)
              refine WL.y rfl (Yld.pure tab_ok rfl) ?_
              refine WL.nil (WX.then_normal ?_)
              refine WC.region ?_
              refine WL.y rfl (Yld.pure tab_ok rfl) ?_
              refine WL.y rfl (Yld.pure tab_ok rfl) ?_
              refine WL.y rfl (Yld.pure tab_ok rfl) ?_
              obtain ⟨h13, H⟩ := H
              refine WL.cutF tab_ok k7.rd rfl rfl rfl rfl rfl h13.1 h13.2.1 (fun A_t63 c_t63 hR1 hb1 => ?_)
              obtain ⟨h14, H⟩ := H
              refine WL.append tab_ok rfl rfl One.s hO4 rfl rfl hR1 rfl rfl h14 (applen h14) (size_le gr6) (fun A_out3 c_out3 w7 hO5 hg5 hk3 => ?_)
              have gr7 := gr_mod gr6 hg5 hO4.ge'
              refine WL.y rfl (Yld.pure tab_ok rfl) ?_
              refine WL.nil (WX.block_normal ?_)
              exact WX.weaken (by repeat (first | exact Sub.nil | refine Sub.cons rfl ?_)) (hQ _ _ ⟨((([] : List (List UInt8)) ++ (out.take k.toNat)) ++ ([l.getD i.toNat []] : List (List UInt8))) ++ (out.drop k.toNat), A_out3, c_out3, (((([] : List (List UInt8)) ++ (out.take k.toNat)) ++ ([l.getD i.toNat []] : List (List UInt8))) ++ (out.drop k.toNat)).length, rfl, H, rfl, gr7, hO5⟩)
          · clear H
            rcases Bool.eq_false_or_eq_true (decide (k < (out.length : Int))) with b4 | b4
            · refine WQ.gyes rfl rfl (okb b4) rfl (Yld.pure tab_ok rfl) ?_
              refine WQ.gyes rfl rfl (okb b4) rfl (Yld.pure tab_ok rfl) ?_
              refine WQ.gyes rfl rfl (okb b4) rfl (Yld.iaddrW tab_ok k1.rd rfl rfl rfl rfl (h5 b4).1 (h5 b4).2) ?_
              refine WQ.gyes rfl rfl (okb b4) rfl (Yld.iload [] tab_ok k1.rd rfl rfl (iltN (h5 b4) rfl)) ?_
              refine WQ.gyes rfl rfl (okb b4) rfl (Yld.pure tab_ok rfl) ?_
              refine WQ.gyes rfl rfl (okb b4) rfl (Yld.pure tab_ok rfl) ?_
              refine WQ.gyes rfl rfl (okb b4) rfl (Yld.iaddrW tab_ok (hl.grown gr1) rfl rfl rfl rfl (h6 b4).1 (h6 b4).2) ?_
              refine WQ.gyes rfl rfl (okb b4) rfl (Yld.iload [] tab_ok (hl.grown gr1) rfl rfl (iltN (h6 b4) rfl)) ?_
              refine WQ.gyes rfl rfl (okb b4) rfl (Yld.pure tab_ok rfl) ?_
              refine WQ.y rfl (Yld.pickT (okb b4) rfl) ?_
              exact WQ.weaken (by repeat (first | exact Sub.nil | refine Sub.cons rfl ?_)) (hQ _ _ ⟨decide ((out.getD k.toNat []) = (l.getD i.toNat [])), rfl, by rw [b4] <;> rfl, rfl⟩)
            · refine WQ.gno rfl rfl (okb b4) rfl ?_
              refine WQ.gno rfl rfl (okb b4) rfl ?_
              refine WQ.gno rfl rfl (okb b4) rfl ?_
              refine WQ.gno rfl rfl (okb b4) rfl ?_
              refine WQ.gno rfl rfl (okb b4) rfl ?_
              refine WQ.gno rfl rfl (okb b4) rfl ?_
              refine WQ.gno rfl rfl (okb b4) rfl ?_
              refine WQ.gno rfl rfl (okb b4) rfl ?_
              refine WQ.gno rfl rfl (okb b4) rfl ?_
              refine WQ.y rfl (Yld.pickF (okb b4) rfl) ?_
              exact WQ.weaken (by repeat (first | exact Sub.nil | refine Sub.cons rfl ?_)) (hQ _ _ ⟨false, rfl, by rw [b4] <;> rfl, rfl⟩)
      · clear H
        rcases Bool.eq_false_or_eq_true (decide (k < (out.length : Int))) with b5 | b5
        · refine WQ.gyes rfl rfl (okb b5) rfl (Yld.pure tab_ok rfl) ?_
          refine WQ.gyes rfl rfl (okb b5) rfl (Yld.pure tab_ok rfl) ?_
          refine WQ.gyes rfl rfl (okb b5) rfl (Yld.iaddrW tab_ok k1.rd rfl rfl rfl rfl (h2 b5).1 (h2 b5).2) ?_
          refine WQ.gyes rfl rfl (okb b5) rfl (Yld.iload [] tab_ok k1.rd rfl rfl (iltN (h2 b5) rfl)) ?_
          refine WQ.gyes rfl rfl (okb b5) rfl (Yld.pure tab_ok rfl) ?_
          refine WQ.gyes rfl rfl (okb b5) rfl (Yld.pure tab_ok rfl) ?_
          refine WQ.gyes rfl rfl (okb b5) rfl (Yld.iaddrW tab_ok (hl.grown gr1) rfl rfl rfl rfl (h3 b5).1 (h3 b5).2) ?_
          refine WQ.gyes rfl rfl (okb b5) rfl (Yld.iload [] tab_ok (hl.grown gr1) rfl rfl (iltN (h3 b5) rfl)) ?_
          refine WQ.gyes rfl rfl (okb b5) rfl (Yld.pure tab_ok rfl) ?_
          refine WQ.y rfl (Yld.pickT (okb b5) rfl) ?_
          exact WQ.weaken (by repeat (first | exact Sub.nil | refine Sub.cons rfl ?_)) (hQ _ _ ⟨Op.bytesLess (out.getD k.toNat []) (l.getD i.toNat []), rfl, by rw [b5] <;> rfl, rfl⟩)
        · refine WQ.gno rfl rfl (okb b5) rfl ?_
          refine WQ.gno rfl rfl (okb b5) rfl ?_
          refine WQ.gno rfl rfl (okb b5) rfl ?_
          refine WQ.gno rfl rfl (okb b5) rfl ?_
          refine WQ.gno rfl rfl (okb b5) rfl ?_
          refine WQ.gno rfl rfl (okb b5) rfl ?_
          refine WQ.gno rfl rfl (okb b5) rfl ?_
          refine WQ.gno rfl rfl (okb b5) rfl ?_
          refine WQ.gno rfl rfl (okb b5) rfl ?_
          refine WQ.y rfl (Yld.pickF (okb b5) rfl) ?_
          exact WQ.weaken (by repeat (first | exact Sub.nil | refine Sub.cons rfl ?_)) (hQ _ _ ⟨false, rfl, by rw [b5] <;> rfl, rfl⟩)
  · replace H := H.2 (of_decide_eq_false b1)
    refine WC.exit (WX.then_exit (WX.then_exit (WX.block_same (WX.then_normal ?_))))
    refine WC.seq ?_
    refine WC.region ?_
    refine WL.y rfl (Yld.pure tab_ok rfl) ?_
    refine WL.y rfl (Yld.pure tab_ok rfl) ?_
    refine WL.nil (WX.then_normal ?_)
    refine WC.ret ?_
    exact WX.ret1 rfl rfl ⟨gr1, out, A_out, c_out, rfl, k1, H⟩

set_option maxHeartbeats 8000000 in
theorem W_smithyworld_Texts {w : World} {l : List (List UInt8)} {A_l : Option Addr} {c_l : Nat} {most : Int} {long : Int} {n_l : Nat} {K : Bool → Prop} (hl : Rd vs w A_l c_l l) (hn_l : n_l = l.length) (H : M_smithyworld_Texts l most long K) : Fn Tryd.prog 12 ⟨[.slice A_l n_l c_l, .int .i64 most, .int .i64 long]⟩ w (fun v w' => w = w' ∧ ∃ (r : Bool), v = .bool r ∧ K r) := by
  subst hn_l
  unfold M_smithyworld_Texts at H
  refine Fn.enter (by kernel_rfl) Tryd.func12 rfl Tryd.ntmps12 rfl ?_
  replace H := H (Nat.le_trans hl.cap hl.max)
  refine WC.seq ?_
  refine WC.region ?_
  refine WL.y rfl (Yld.pure tab_ok rfl) ?_
  refine WL.nil (WX.then_normal ?_)
  refine WC.seq ?_
  refine WC.seq ?_
  refine WC.region ?_
  refine WL.y rfl (Yld.pure tab_ok rfl) ?_
  refine WL.y rfl (Yld.pure tab_ok rfl) ?_
  refine WL.y rfl (Yld.pure tab_ok rfl) ?_
  refine WL.y rfl (Yld.pure tab_ok rfl) ?_
  refine WL.nil (WX.then_normal ?_)
  refine WC.cond rfl (fun b1 => ?_) (fun b1 => ?_)
  · replace H := H.1 (of_decide_eq_true b1)
    refine WC.seq ?_
    refine WC.region ?_
    refine WL.y rfl (Yld.pure tab_ok rfl) ?_
    refine WL.nil (WX.then_normal ?_)
    refine WC.ret (WX.then_ret ?_)
    exact WX.ret1 rfl rfl ⟨rfl, false, rfl, H⟩
  · replace H := H.2 (of_decide_eq_false b1)
    refine WC.skip (WX.then_normal ?_)
    refine WC.seq ?_
    refine WC.seq ?_
    refine WC.region ?_
    refine WL.y rfl (Yld.pure tab_ok rfl) ?_
    refine WL.nil (WX.then_normal ?_)
    refine WC.block ?_
    obtain ⟨I1, mu1, h0_1, HR1⟩ := H
    refine WC.loopF (fun n' L' w' => ∃ (i : Int), n' = mu1 i ∧ L' = [(0, .slice A_l l.length c_l), (2, .int .i64 long), (7, .int .i64 i)] ∧ I1 i ∧ w = w') _ _ ⟨(0 : Int), rfl, rfl, h0_1, rfl⟩ (by repeat (first | exact Sub.nil | refine Sub.cons rfl ?_)) ?_
    clear h0_1
    rintro _ _ _ ⟨i, rfl, rfl, hI1, rfl⟩
    have H := HR1 i hI1
    refine WC.seq ?_
    refine WC.seq ?_
    refine WC.region ?_
    refine WL.y rfl (Yld.pure tab_ok rfl) ?_
    refine WL.y rfl (Yld.pure tab_ok rfl) ?_
    refine WL.y rfl (Yld.pure tab_ok rfl) ?_
    refine WL.y rfl (Yld.pure tab_ok rfl) ?_
    refine WL.nil (WX.then_normal ?_)
    refine WC.cond rfl (fun b2 => ?_) (fun b2 => ?_)
    · replace H := H.1 (of_decide_eq_true b2)
      refine WC.skip (WX.then_normal ?_)
      refine WC.seq ?_
      refine WC.block ?_
      refine WC.seq ?_
      refine WC.region ?_
      refine WL.y rfl (Yld.pure tab_ok rfl) ?_
      refine WL.y rfl (Yld.pure tab_ok rfl) ?_
      obtain ⟨h1, H⟩ := H
      refine WL.y rfl (Yld.iaddrW tab_ok hl rfl rfl rfl rfl h1.1 h1.2) ?_
      refine WL.y rfl (Yld.iload [] tab_ok hl rfl rfl (iltN h1 rfl)) ?_
      refine WL.y rfl (Yld.pure tab_ok rfl) ?_
      refine WL.y rfl (Yld.pure tab_ok rfl) ?_
      refine WL.y rfl (Yld.pure tab_ok rfl) ?_
      refine WL.nil (WX.then_normal ?_)
      refine WC.cond rfl (fun b3 => ?_) (fun b3 => ?_)
      · replace H := H.1 (of_decide_eq_true b3)
        refine WC.seq ?_
        refine WC.region ?_
        refine WL.y rfl (Yld.pure tab_ok rfl) ?_
        refine WL.nil (WX.then_normal ?_)
        refine WC.ret (WX.block_ret (WX.then_ret (WX.then_ret (WX.block_ret (WX.then_ret ?_)))))
        exact WX.ret1 rfl rfl ⟨rfl, false, rfl, H⟩
      · replace H := H.2 (of_decide_eq_false b3)
        refine WC.skip (WX.block_normal (WX.then_normal ?_))
        refine WC.region ?_
        refine WL.y rfl (Yld.pure tab_ok rfl) ?_
        obtain ⟨h2, H⟩ := H
        refine WL.y rfl (Yld.add rfl rfl h2) ?_
        refine WL.y rfl (Yld.pure tab_ok rfl) ?_
        refine WL.nil ?_
        exact WX.roundF _ ⟨i + (1 : Int), rfl, rfl, H.1, rfl⟩ (by repeat (first | exact Sub.nil | refine Sub.cons rfl ?_)) H.2
    · replace H := H.2 (of_decide_eq_false b2)
      refine WC.exit (WX.then_exit (WX.then_exit (WX.block_same (WX.then_normal ?_))))
      refine WC.seq ?_
      refine WC.region ?_
      refine WL.y rfl (Yld.pure tab_ok rfl) ?_
      refine WL.nil (WX.then_normal ?_)
      refine WC.ret ?_
      exact WX.ret1 rfl rfl ⟨rfl, true, rfl, H⟩

end Go.Proofs.YtlonpmajnglmoaaDoor

 /- Paths, plainly: cut at slashes, fair parts, what is valid. -/
namespace Go.Proofs.YtlonpmajnglmoaaDoor
open Go Go.RowKit
def cuts : List UInt8 → List (List UInt8)
  | [] => [[]]
  | c :: s => if c = 47 then [] :: cuts s else match cuts s with
    | [] => [[c]]
    | h :: t => (c :: h) :: t
theorem cuts_ne (s : List UInt8) : cuts s ≠ [] := by
  cases s with
  | nil => simp [cuts]
  | cons c s =>
    unfold cuts
    split
    · simp
    · split <;> simp
theorem split_cuts : ∀ s : List UInt8, Lib.split s [47] = cuts s
  | [] => by simp [Lib.split, Lib.count_miss, Lib.index, Lib.splitK, cuts]
  | c :: s => by
    have ih := split_cuts s
    unfold Lib.split at ih ⊢
    by_cases hc : c = 47
    · subst hc
      have hix : Lib.index (47 :: s) [47] = 0 := by rw [Lib.index]; simp [List.isPrefixOf]
      rw [Lib.count_cons_eq, Nat.add_comm, Lib.splitK, if_neg (by rw [hix]; decide), hix]
      simp only [cuts, if_true]
      rw [← ih]
      simp
    · have hp : ([47] : List UInt8).isPrefixOf (c :: s) = false := by simp [List.isPrefixOf, Ne.symm hc]
      have hix : Lib.index (c :: s) [47] = if Lib.index s [47] == -1 then -1 else Lib.index s [47] + 1 := by rw [Lib.index, hp]; simp
      rw [Lib.count_cons_ne c 47 s hc]
      simp only [cuts, if_neg hc]
      rw [← ih]
      cases hk : Lib.count s [47] with
      | zero => simp [Lib.splitK]
      | succ k =>
        have hne : Lib.index s [47] ≠ -1 := fun e => by rw [Lib.count_miss e] at hk; cases hk
        have hge := Lib.index_ge s [47]
        obtain ⟨j, hj⟩ : ∃ j : Nat, Lib.index s [47] = j := ⟨(Lib.index s [47]).toNat, by omega⟩
        have hix' : Lib.index (c :: s) [47] = ((j + 1 : Nat) : Int) := by rw [hix, if_neg (fun e => hne (beq_iff_eq.1 e)), hj]; omega
        rw [Lib.splitK, Lib.splitK, if_neg (fun e => hne (beq_iff_eq.1 e)), if_neg (by rw [hix']; simp; omega), hix', hj]
        simp
theorem splitL_cuts (s : List UInt8) : splitL [47] s = cuts s := split_cuts s
theorem cuts_length (s : List UInt8) : (cuts s).length ≤ s.length + 1 := by
  induction s with
  | nil => simp [cuts]
  | cons c s ih =>
    unfold cuts
    split
    · simp; omega
    · split
      · simp
      · rename_i h t e; rw [e] at ih; simp at ih ⊢; omega
theorem split_M {s : List UInt8} {K : List (List UInt8) → Prop} (hs : s.length ≤ 4000000000) (h : K (cuts s)) : M_strings_Split s [47] K :=
  ⟨by omega, by simp, by rw [splitL_cuts]; exact h⟩
/-- a byte that may be in a part -/
def letB (c : UInt8) : Bool := (((decide (48 ≤ c.toNat) && decide (c.toNat ≤ 57)) || (decide (65 ≤ c.toNat) && decide (c.toNat ≤ 90))) || (decide (97 ≤ c.toNat) && decide (c.toNat ≤ 122))) || ([33, 35, 37, 43, 44, 45, 46, 61, 64, 95, 126] : List UInt8).contains c
theorem indexByte_contains (l : List UInt8) (c : UInt8) : decide (0 ≤ Lib.indexByte l c) = l.contains c := by
  induction l with
  | nil => simp [Lib.indexByte]
  | cons b l ih =>
    unfold Lib.indexByte
    by_cases h : b = c
    · subst h; simp
    · have hge := Lib.indexByte_ge l c
      rw [if_neg (by simpa using h)]
      have hc : (b :: l).contains c = l.contains c := by simp [Ne.symm h]
      rw [hc, ← ih]
      by_cases h1 : Lib.indexByte l c = -1
      · rw [if_pos (by simpa using h1), h1]
      · rw [if_neg (by simpa using h1), decide_eq_decide]; omega
theorem letter_M {c : UInt8} {K : Bool → Prop} (h : K (letB c)) : M_path_letter (c.toNat : Int) K := by
  have e : ((((decide ((48 : Int) ≤ (c.toNat : Int))) && (decide ((c.toNat : Int) ≤ (57 : Int)))) || ((decide ((65 : Int) ≤ (c.toNat : Int))) && (decide ((c.toNat : Int) ≤ (90 : Int))))) || ((decide ((97 : Int) ≤ (c.toNat : Int))) && (decide ((c.toNat : Int) ≤ (122 : Int))))) = (((decide (48 ≤ c.toNat) && decide (c.toNat ≤ 57)) || (decide (65 ≤ c.toNat) && decide (c.toNat ≤ 90))) || (decide (97 ≤ c.toNat) && decide (c.toNat ≤ 122))) := by
    have d : ∀ a b : Nat, decide ((a : Int) ≤ (b : Int)) = decide (a ≤ b) := fun a b => by rw [decide_eq_decide]; omega
    have d1 : decide ((48 : Int) ≤ (c.toNat : Int)) = decide (48 ≤ c.toNat) := d 48 c.toNat
    have d2 : decide ((c.toNat : Int) ≤ (57 : Int)) = decide (c.toNat ≤ 57) := d c.toNat 57
    have d3 : decide ((65 : Int) ≤ (c.toNat : Int)) = decide (65 ≤ c.toNat) := d 65 c.toNat
    have d4 : decide ((c.toNat : Int) ≤ (90 : Int)) = decide (c.toNat ≤ 90) := d c.toNat 90
    have d5 : decide ((97 : Int) ≤ (c.toNat : Int)) = decide (97 ≤ c.toNat) := d 97 c.toNat
    have d6 : decide ((c.toNat : Int) ≤ (122 : Int)) = decide (c.toNat ≤ 122) := d c.toNat 122
    rw [d1, d2, d3, d4, d5, d6]
  unfold M_path_letter
  rw [e]
  unfold letB at h
  refine ⟨fun h1 => ?_, fun h1 => ?_⟩
  · rw [h1] at h; exact h
  · rw [h1, Bool.false_or] at h
    unfold M_strings_IndexByte
    rw [show ((c.toNat : Int).toNat.toUInt8) = c by simp]
    show K (decide (0 ≤ Lib.indexByte _ _))
    rw [indexByte_contains]
    exact h
def dotsB (s : List UInt8) : Bool := (decide (s = []) || decide (s = [46])) || decide (s = [46, 46])
def fairB (s : List UInt8) : Bool := s.all letB && !dotsB s
theorem take_all_succ {p : UInt8 → Bool} {s : List UInt8} {k : Nat} (h : (s.take k).all p = true) (hk : k < s.length) (hp : p (s.getD k 0) = true) : (s.take (k + 1)).all p = true := by
  rw [List.take_succ_eq_append_getElem hk, List.all_append, h]
  simpa [List.getD, hk] using hp
theorem fair_M {s : List UInt8} {K : Bool → Prop} (hs : s.length ≤ 4000000000) (h : K (fairB s)) : M_path_fair s K := by
  unfold M_path_fair
  refine ⟨fun i => ∃ k : Nat, i = k ∧ k ≤ s.length ∧ (s.take k).all letB = true, fun i => (s.length - i.toNat), ⟨0, rfl, by omega, by simp⟩, ?_⟩
  rintro _ ⟨k, rfl, hk, hall⟩
  refine ⟨fun hlt => ⟨by omega, letter_M ?_⟩, fun hge => ?_⟩
  · have hk' : k < s.length := by omega
    rw [Int.toNat_natCast]
    cases hl : letB (s.getD k 0) with
    | false =>
      refine ⟨fun _ => ?_, fun h1 => by simp at h1⟩
      have : s.all letB = false := by
        rw [List.all_eq_false]
        exact ⟨s.getD k 0, by simp [List.getD, hk'], by rw [hl]; simp⟩
      unfold fairB at h
      rw [this] at h
      exact h
    | true => exact ⟨fun h1 => by simp at h1, fun _ => ⟨by simp only [In]; omega, ⟨k + 1, by omega, by omega, take_all_succ hall hk' hl⟩, by dsimp only; omega⟩⟩
  · obtain rfl : k = s.length := by omega
    rw [List.take_length] at hall
    unfold fairB at h
    rw [hall, Bool.true_and] at h
    exact h
def validB (p : List UInt8) : Bool := decide (p.length ≤ 200) && (cuts p).all fairB
theorem cuts_part {s x : List UInt8} (h : x ∈ cuts s) : x.length ≤ s.length := by
  induction s generalizing x with
  | nil => simp [cuts] at h; subst h; simp
  | cons c s ih =>
    unfold cuts at h
    split at h
    · rcases List.mem_cons.1 h with rfl | h
      · simp
      · have := ih h; simp; omega
    · split at h
      · rename_i e; exact absurd e (cuts_ne s)
      · rename_i y t e
        rcases List.mem_cons.1 h with rfl | h
        · have := ih (x := y) (by rw [e]; simp); simp; omega
        · have := ih (x := x) (by rw [e]; simp [h]); simp; omega
theorem getD_mem {α : Type} {l : List α} {k : Nat} {d : α} (h : k < l.length) : l.getD k d ∈ l := by
  simp [List.getD, h]
theorem valid_M {p : List UInt8} {K : Bool → Prop} (hp : p.length ≤ 4000000000) (h : K (validB p)) : M_path_Valid p K := by
  unfold M_path_Valid
  unfold validB at h
  refine ⟨fun h1 => ?_, fun h1 => split_M hp ?_⟩
  · rw [decide_eq_false (by omega : ¬ p.length ≤ 200)] at h; exact h
  rw [decide_eq_true (by omega : p.length ≤ 200), Bool.true_and] at h
  refine ⟨fun i => ∃ k : Nat, i = k ∧ k ≤ (cuts p).length ∧ ((cuts p).take k).all fairB = true, fun i => ((cuts p).length - i.toNat), ⟨0, rfl, by omega, by simp⟩, ?_⟩
  have hcl := cuts_length p
  rintro _ ⟨k, rfl, hk, hall⟩
  refine ⟨fun hlt => ⟨by omega, ?_⟩, fun hge => ?_⟩
  · have hk' : k < (cuts p).length := by omega
    rw [Int.toNat_natCast]
    have hm : (cuts p).getD k [] ∈ cuts p := getD_mem hk'
    have hx := cuts_part hm
    refine fair_M (by omega) ?_
    cases hl : fairB ((cuts p).getD k []) with
    | false =>
      refine ⟨fun _ => ?_, fun h1 => by simp at h1⟩
      have : (cuts p).all fairB = false := by
        rw [List.all_eq_false]
        exact ⟨_, hm, by rw [hl]; simp⟩
      rw [this] at h
      exact h
    | true =>
      refine ⟨fun h1 => by simp at h1, fun _ => ⟨by simp only [In]; omega, ⟨k + 1, by omega, by omega, ?_⟩, by dsimp only; omega⟩⟩
      rw [List.take_succ_eq_append_getElem hk', List.all_append, hall]
      simpa [List.getD, hk'] using hl
  · obtain rfl : k = (cuts p).length := by omega
    rw [List.take_length] at hall
    rw [hall] at h
    exact h
/-- the last place of a byte -/
def LastIs (p : List UInt8) (c : UInt8) (r : Int) : Prop := (r = -1 ∧ ∀ j, j < p.length → p.getD j 0 ≠ c) ∨ (∃ i : Nat, r = i ∧ i < p.length ∧ p.getD i 0 = c ∧ ∀ j, i < j → j < p.length → p.getD j 0 ≠ c)
theorem last_M {p : List UInt8} {c : UInt8} {K : Int → Prop} (hp : p.length ≤ 4000000000) (h : ∀ r, LastIs p c r → K r) : M_strings_LastIndexByte p (c.toNat : Int) K := by
  unfold M_strings_LastIndexByte M_internal_bytealg_LastIndexByteString
  refine ⟨by simp only [In]; omega, fun i => -1 ≤ i ∧ i < p.length ∧ ∀ j : Nat, i < j → j < p.length → p.getD j 0 ≠ c, fun i => (i + 1).toNat, ⟨by omega, by omega, fun j h1 h2 => by omega⟩, ?_⟩
  rintro i ⟨h1, h2, h3⟩
  refine ⟨fun h0 => ⟨by omega, fun he => ?_, fun he => ⟨by simp only [In]; omega, ⟨by omega, by omega, fun j h4 h5 => ?_⟩, by dsimp only; omega⟩⟩, fun h0 => ?_⟩
  · exact h i (.inr ⟨i.toNat, by omega, by omega, UInt8.toNat_inj.mp (by omega), fun j h4 h5 => h3 j (by omega) h5⟩)
  · rcases Int.lt_or_le i j with h6 | h6
    · exact h3 j h6 h5
    · obtain rfl : j = i.toNat := by omega
      intro e
      exact he (by rw [e])
  · exact h (-1) (.inl ⟨rfl, fun j hj => h3 j (by omega) hj⟩)
end Go.Proofs.YtlonpmajnglmoaaDoor


 /- Patterns, plainly: one table for bytes and for parts. -/
namespace Go.Proofs.YtlonpmajnglmoaaDoor
open Go Go.RowKit
section
variable (star : Nat → Bool) (eq : Nat → Nat → Bool) (i j : Nat)
end
def bt (p : List UInt8) (i : Nat) : UInt8 := p.getD i 0
end Go.Proofs.YtlonpmajnglmoaaDoor


 /- Paths, plainly: clean, match. -/
namespace Go.Proofs.YtlonpmajnglmoaaDoor
open Go Go.RowKit
def glue : List (List UInt8) → List UInt8
  | [] => []
  | [x] => x
  | x :: y :: r => x ++ 47 :: glue (y :: r)
end Go.Proofs.YtlonpmajnglmoaaDoor


 /- smithylaw1.first; Dir, Base, Under; PathDirs. -/
namespace Go.Proofs.YtlonpmajnglmoaaDoor
open Go Go.RowKit
theorem base_M {p : List UInt8} {K : List UInt8 → Prop} (hp : p.length ≤ 4000000000) (h : ∀ r, LastIs p 47 r → K (p.drop (r + 1).toNat)) : M_path_Base p K := by
  unfold M_path_Base
  refine last_M (c := 47) hp fun r hr => ?_
  have hb : r < p.length ∧ -1 ≤ r := by
    rcases hr with ⟨rfl, _⟩ | ⟨i, rfl, hi, _⟩ <;> omega
  exact ⟨by simp only [In]; omega, by omega, h r hr⟩
end Go.Proofs.YtlonpmajnglmoaaDoor


 /- Patterns at work: PathStars. -/
namespace Go.Proofs.YtlonpmajnglmoaaDoor
open Go Go.RowKit
theorem valid_parts {s : List UInt8} (h : validB s = true) : ∀ x ∈ cuts s, fairB x = true := by
  unfold validB at h
  rw [Bool.and_eq_true, List.all_eq_true] at h
  exact h.2
end Go.Proofs.YtlonpmajnglmoaaDoor


 /- Clean twice: PathAgain. -/
namespace Go.Proofs.YtlonpmajnglmoaaDoor
open Go Go.RowKit
theorem glue_cuts (s : List UInt8) : glue (cuts s) = s := by
  induction s with
  | nil => rfl
  | cons c s ih =>
    have hne := cuts_ne s
    rw [cuts]
    cases hs : cuts s with
    | nil => exact absurd hs hne
    | cons h t =>
      rw [hs] at ih
      split
      · rename_i hc
        rw [glue, ih, hc]
        rfl
      · cases t with
        | nil => rw [show c :: s = c :: glue [h] by rw [ih]]; rfl
        | cons y t => rw [← ih]; rfl
end Go.Proofs.YtlonpmajnglmoaaDoor


 /- Who may use what: the plain side. -/
namespace Go.Proofs.YtlonpmajnglmoaaDoor
open Go Go.RowKit
theorem cutPrefix_M {s t : List UInt8} {K : List UInt8 → Bool → Prop} (h : K (if t.isPrefixOf s = true then s.drop t.length else s) (t.isPrefixOf s)) : M_strings_CutPrefix s t K := by
  have e : ((decide ((t.length : Int) ≤ (s.length : Int))) && (decide ((s.take (t.length : Int).toNat) = t))) = t.isPrefixOf s := by
    rw [Bool.eq_iff_iff, Bool.and_eq_true, decide_eq_true_eq, decide_eq_true_eq, List.isPrefixOf_iff_prefix, Int.toNat_natCast]
    exact ⟨fun h => List.prefix_iff_eq_take.2 h.2.symm, fun h => ⟨by have := h.length_le; omega, (List.prefix_iff_eq_take.1 h).symm⟩⟩
  refine ⟨fun h1 => ?_, ?_⟩
  · have := of_decide_eq_true h1; omega
  · rw [e]
    cases hp : t.isPrefixOf s with
    | false => rw [hp] at h; exact ⟨fun _ => h, fun h1 => by cases h1⟩
    | true =>
      rw [hp] at h
      have hl : t.length ≤ s.length := (List.isPrefixOf_iff_prefix.1 hp).length_le
      refine ⟨fun h1 => (by cases h1), fun _ => ⟨by omega, ?_⟩⟩
      rw [Int.toNat_natCast]
      exact h
theorem cut_M {s t : List UInt8} {K : List UInt8 → List UInt8 → Bool → Prop} (hs : s.length ≤ 1000000) (h : K (Lib.cut s t).1 (Lib.cut s t).2.1 (Lib.cut s t).2.2) : M_strings_Cut s t K := ⟨by omega, h⟩
def rootB (p : List UInt8) : Bool := decide (p = []) || validB p
theorem vtexts_M {l : List (List UInt8)} {most long : Int} {K : Bool → Prop} (h0 : K false) (h1 : (l.length : Int) ≤ most → l.length ≤ 1000000 → (∀ x ∈ l, (x.length : Int) ≤ long) → K true) (hl : most ≤ 1000000) : M_smithyworld_Texts l most long K := by
  intro _
  refine ⟨fun _ => h0, fun hm => ⟨fun i => 0 ≤ i ∧ i ≤ l.length ∧ ∀ j, j < i.toNat → ((l.getD j []).length : Int) ≤ long, fun i => l.length - i.toNat, ⟨by omega, by omega, by intro j hj; simp at hj⟩, fun i ⟨a0, a1, a2⟩ => ⟨fun hlt => ⟨by omega, fun _ => h0, fun hle => ⟨by simp only [In]; omega, ⟨by omega, by omega, fun j hj => ?_⟩, by (try dsimp only); omega⟩⟩, fun hge => h1 (by omega) (by omega) fun x hx => ?_⟩⟩⟩
  · by_cases e : j = i.toNat
    · rw [e]; omega
    · exact a2 j (by omega)
  · obtain ⟨j, hj, rfl⟩ := List.getElem_of_mem hx
    have := a2 j (by omega)
    simpa [List.getD, hj] using this
end Go.Proofs.YtlonpmajnglmoaaDoor


 /- Printed by a program (wip/vg): elements of several cells. -/
namespace Go.Proofs.YtlonpmajnglmoaaDoor
open Go Go.RowKit
def enc27 (x : List UInt8 × List UInt8) : List Value := [vs x.1, vs x.2]
theorem enc27_ok : OneK 2 enc27 := ⟨by omega, fun _ => rfl, fun _ => (all1c rfl (all1c rfl all1n))⟩
theorem ow25 : ckOwK Tryd.prog 25 27 2 32 = true := by kernel_rfl
end Go.Proofs.YtlonpmajnglmoaaDoor

 /- slices.Compact at labels: walked. -/
namespace Go.Proofs.YtlonpmajnglmoaaDoor
open Go Go.Proofs Go.Shelf Go.RowKit Go.Lib Go.Sort
abbrev LL := List UInt8 × List UInt8
def encLL (x : LL) : List Value := [.string ⟨⟨x.1⟩⟩, .string ⟨⟨x.2⟩⟩]
def aggLL (x : LL) : Array Value := #[.string ⟨⟨x.1⟩⟩, .string ⟨⟨x.2⟩⟩]
theorem eqLL (x y : LL) (w : World) : (binOp .eql 27 (.agg (aggLL x)) (.agg (aggLL y))).run Tryd.prog w = .ok (.bool (decide (x = y))) w := by
  have hS : Tryd.prog.underlying 27 = some (.struct (Tryd.prog.fieldsOf 27)) := by kernel_rfl
  have hp : Tryd.prog.stoodInHeld 27 = false := by kernel_rfl
  unfold aggLL
  rw [run_eql_struct, show (10000 : Nat) = 9999 + 1 from rfl, run_equalIn_agg w 9999 27 _ _ hS hp]
  simp only [Program.fieldsOf, Tryd.underlying27]
  go_simp
  obtain ⟨x1, x2⟩ := x
  obtain ⟨y1, y2⟩ := y
  by_cases h1 : x1 = y1 <;> by_cases h2 : x2 = y2 <;> simp [h1, h2]
theorem neLL (x y : LL) (w : World) : (binOp .neq 27 (.agg (aggLL x)) (.agg (aggLL y))).run Tryd.prog w = .ok (.bool (!decide (x = y))) w := by
  have hS : Tryd.prog.underlying 27 = some (.struct (Tryd.prog.fieldsOf 27)) := by kernel_rfl
  have hp : Tryd.prog.stoodInHeld 27 = false := by kernel_rfl
  unfold aggLL
  rw [run_neq_struct, show (10000 : Nat) = 9999 + 1 from rfl, run_equalIn_agg w 9999 27 _ _ hS hp]
  simp only [Program.fieldsOf, Tryd.underlying27]
  go_simp
  obtain ⟨x1, x2⟩ := x
  obtain ⟨y1, y2⟩ := y
  by_cases h1 : x1 = y1 <;> by_cases h2 : x2 = y2 <;> simp [h1, h2]
theorem gdLL (op : BinOp) (a b : Operand) (x y : LL) (w : World) : Sem.run Tryd.prog (eqGuard op 27 a b (.agg (aggLL x)) (.agg (aggLL y))) w = .ok () w :=
  run_eqGuard_agg w op 27 a b _ _ (by kernel_rfl)
theorem cellLL {w : World} {blk off : Nat} {d : Array LL} (h : HoldsK encLL 2 w blk off d) {j : Nat} (hj : j < d.size) (q : Nat) :
    (w.drewN q).cell? ⟨blk, off + j * 2, none⟩ = some (.string ⟨⟨d[j]!.1⟩⟩) ∧ (w.drewN q).cell? ⟨blk, off + j * 2 + 1, none⟩ = some (.string ⟨⟨d[j]!.2⟩⟩) := by
  rw [World.cell?_drewN, World.cell?_drewN]
  exact ⟨(h.cell (c := 0) hj (by omega)).1, (h.cell (c := 1) hj (by omega)).1⟩
theorem cellLL0 {w : World} {blk off : Nat} {d : Array LL} (h : HoldsK encLL 2 w blk off d) {j : Nat} (hj : j < d.size) :
    w.cell? ⟨blk, off + j * 2, none⟩ = some (.string ⟨⟨d[j]!.1⟩⟩) ∧ w.cell? ⟨blk, off + j * 2 + 1, none⟩ = some (.string ⟨⟨d[j]!.2⟩⟩) ∧ w.frozen? ⟨blk, off + j * 2, none⟩ = false ∧ w.frozen? ⟨blk, off + j * 2 + 1, none⟩ = false :=
  ⟨(h.cell (c := 0) hj (by omega)).1, (h.cell (c := 1) hj (by omega)).1, (h.cell (c := 0) hj (by omega)).2, (h.cell (c := 1) hj (by omega)).2⟩
theorem flat_set (d : Array LL) (s : Nat) (x : LL) (hs : s < d.size) : ((flatK encLL 2 d).setIfInBounds (s * 2) (.string ⟨⟨x.1⟩⟩)).setIfInBounds (s * 2 + 1) (.string ⟨⟨x.2⟩⟩) = flatK encLL 2 (d.setIfInBounds s x) := by
  apply Array.ext
  · simp [flatK]
  · intro t h1 h2
    have ht : t < d.size * 2 := by simpa [flatK] using h2
    have e1 : (d.setIfInBounds s x)[t / 2]! = if s = t / 2 then x else d[t / 2]! := by
      rw [getElem!_pos _ _ (by simp; omega), getElem!_pos d _ (by omega), Array.getElem_setIfInBounds]
    have k1 : t < (flatK encLL 2 d).size := by simp only [flatK, Array.size_map, Array.size_range]; omega
    have k2 : t < ((flatK encLL 2 d).setIfInBounds (s * 2) (Value.string ⟨⟨x.1⟩⟩)).size := by rw [Array.size_setIfInBounds]; exact k1
    rw [Array.getElem_setIfInBounds k2, Array.getElem_setIfInBounds k1]
    simp only [flatK, Array.getElem_map, Array.getElem_range, e1]
    by_cases h3 : s * 2 + 1 = t
    · have h4 : t / 2 = s := by omega
      have h5 : t % 2 = 1 := by omega
      simp [h3, h4, h5, encLL]
    · by_cases h6 : s * 2 = t
      · have h4 : t / 2 = s := by omega
        have h5 : t % 2 = 0 := by omega
        simp [h3, h6, h4, h5, encLL]
      · simp [h3, h6, show ¬ s = t / 2 by omega]
theorem store_LL (w : World) (blk off : Nat) (d : Array LL) (s : Nat) (x : LL) (hs : s < d.size) : ((putRowK encLL 2 w blk off d).setCell ⟨blk, off + s * 2, none⟩ (.string ⟨⟨x.1⟩⟩)).setCell ⟨blk, off + s * 2 + 1, none⟩ (.string ⟨⟨x.2⟩⟩) = putRowK encLL 2 w blk off (d.setIfInBounds s x) := by
  unfold putRowK
  have h1 := putRow_set id w blk off (flatK encLL 2 d) (s * 2) (.string ⟨⟨x.1⟩⟩) (by simp [flatK]; omega)
  rw [id] at h1
  rw [h1]
  have h2 := putRow_set id w blk off ((flatK encLL 2 d).setIfInBounds (s * 2) (.string ⟨⟨x.1⟩⟩)) (s * 2 + 1) (.string ⟨⟨x.2⟩⟩) (by simp [flatK]; omega)
  rw [id] at h2
  rw [Nat.add_assoc off, h2, flat_set d s x hs]
theorem flat_lay : ∀ (xs : List LL) (d : Array LL) (s : Nat), s + xs.length ≤ d.size → setMany (flatK encLL 2 d) (s * 2) (xs.flatMap encLL) = flatK encLL 2 (lay d s xs)
  | [], d, s, _ => rfl
  | x :: xs, d, s, h => by
    have h' : s + (xs.length + 1) ≤ d.size := h
    have ih := flat_lay xs (d.setIfInBounds s x) (s + 1) (by simp; omega)
    rw [← flat_set d s x (by omega)] at ih
    rw [List.flatMap_cons]
    show setMany (((flatK encLL 2 d).setIfInBounds (s * 2) (.string ⟨⟨x.1⟩⟩)).setIfInBounds (s * 2 + 1) (.string ⟨⟨x.2⟩⟩)) (s * 2 + 1 + 1) (xs.flatMap encLL) = flatK encLL 2 (lay (d.setIfInBounds s x) (s + 1) xs)
    rw [show s * 2 + 1 + 1 = (s + 1) * 2 by omega]
    exact ih
theorem clear_LL (w : World) (ty : TypeId) (b o n c : Nat) (hn : 0 < n) (hc : ∀ j, j < n * 2 → (w.cell? ⟨b, o + j, none⟩).isSome = true) (hf : ∀ j, j < n * 2 → w.frozen? ⟨b, o + j, none⟩ = false) :
    (Builtin.clear_ #[25] ty #[.slice (some ⟨b, o, none⟩) n c]).run Tryd.prog w = .ok (.tuple #[]) (w.setCells b o ((List.replicate n (([], []) : LL)).flatMap encLL)) := by
  have hz : ∀ w, (zeroValue 27).run Tryd.prog w = .ok (.agg #[.string ⟨⟨[]⟩⟩, .string ⟨⟨[]⟩⟩]) w := Tryd.zeroValue27
  have hzc : (Builtin.zeroCells (Value.agg #[.string ⟨⟨[]⟩⟩, .string ⟨⟨[]⟩⟩]).cells n).toList = (List.replicate n (([], []) : LL)).flatMap encLL := by
    have h1 : (Value.agg #[.string ⟨⟨[]⟩⟩, .string ⟨⟨[]⟩⟩]).cells = #[.string ⟨⟨[]⟩⟩, .string ⟨⟨[]⟩⟩] := rfl
    rw [h1]
    apply List.ext_getElem
    · simp [Builtin.zeroCells, encLL]
    · intro i k1 k2
      have hv : ((List.replicate n (([], []) : LL)).flatMap encLL)[i] = .string ⟨⟨[]⟩⟩ := by
        have hm := List.getElem_mem k2
        obtain ⟨x, hx, hxe⟩ := List.mem_flatMap.1 hm
        rw [List.eq_of_mem_replicate hx] at hxe
        simp only [encLL, List.mem_cons, List.not_mem_nil, or_false] at hxe
        rcases hxe with h | h <;> exact h
      rw [hv]
      simp only [Builtin.zeroCells, Array.getElem_toList, Array.getElem_map, Array.getElem_range]
      rcases Nat.mod_two_eq_zero_or_one i with h | h
      · show (#[Value.string ⟨⟨[]⟩⟩, .string ⟨⟨[]⟩⟩] : Array Value)[i % 2]! = _
        rw [h]; rfl
      · show (#[Value.string ⟨⟨[]⟩⟩, .string ⟨⟨[]⟩⟩] : Array Value)[i % 2]! = _
        rw [h]; rfl
  have hst := run_storeCells_cells (P := Tryd.prog) b o ((List.replicate n (([], []) : LL)).flatMap encLL) 0 w (by simpa [encLL] using hc) (by simpa [encLL] using hf) (fun v hv' => by
    obtain ⟨x, _, hx⟩ := List.mem_flatMap.1 hv'
    simp only [encLL, List.mem_cons, List.not_mem_nil, or_false] at hx
    rcases hx with rfl | rfl <;> rfl)
  simp only [Nat.add_zero] at hst
  obtain ⟨m, rfl⟩ : ∃ m, n = m + 1 := ⟨n - 1, by omega⟩
  simp [Builtin.clear_, run_underlying Tryd.underlying25, hz, hzc, hst]
set_option maxHeartbeats 4000000 in
set_option maxRecDepth 1000000 in
theorem compact_LL (blk off cap : Nat) (d : Array LL) (w : World) (hH : HoldsK encLL 2 w blk off d) (hsz : d.size ≤ 9223372036854775807) (hcap : d.size ≤ cap) :
    Calls Tryd.prog 68 #[.slice (some ⟨blk, off, none⟩) d.size cap] w fun e w' => e = .returned (.slice (some ⟨blk, off, none⟩) (compactUpTo d d.size).length cap) ∧ ∃ q, w' = putRowK encLL 2 (Sort.ahead w q) blk off (compactUpTo d d.size ++ List.replicate (d.size - (compactUpTo d d.size).length) ([], [])).toArray := by
  have same : ∀ q, (∀ j, j < d.size → keeps d j = true) → (compactUpTo d d.size).length = d.size ∧ w.drewN q = putRowK encLL 2 (Sort.ahead w q) blk off (compactUpTo d d.size ++ List.replicate (d.size - (compactUpTo d d.size).length) ([], [])).toArray := by
    intro q hall
    have e : compactUpTo d d.size = d.toList := by rw [compactUpTo_all d _ hall, range_map_get]
    rw [e]
    refine ⟨by simp, ?_⟩
    simp only [Array.length_toList, Nat.sub_self, List.replicate_zero, List.append_nil, Array.toArray_toList]
    exact (putRowK_self encLL 2 (Sort.ahead w q) blk off d (holdsK_ahead encLL 2 w q blk off d hH)).symm
  have HS : Aside (∀ q, (∀ j, j < d.size → keeps d j = true) → (compactUpTo d d.size).length = d.size ∧ w.drewN q = putRowK encLL 2 (Sort.ahead w q) blk off (compactUpTo d d.size ++ List.replicate (d.size - (compactUpTo d d.size).length) ([], [])).toArray) := same
  clear same
  by_cases h2 : d.size < 2
  · have HH : Aside (HoldsK encLL 2 w blk off d) := hH
    clear hH
    go_enter Tryd.func68, Tryd.ntmps68
    go_wp2
    go_ret
    obtain ⟨e1, e2⟩ := HS.out 0 (fun j hj => keeps_lt_one d j (by omega))
    exact ⟨by rw [e1]; rfl, 0, e2⟩
  · go_enter Tryd.func68, Tryd.ntmps68
    go_wp2
    go_loopg [3] d.size (fun g s3 wr => ∃ k q : Nat, 1 ≤ k ∧ k ≤ d.size ∧ d.size - k ≤ g ∧ s3 = .int .i64 k ∧ wr = w.drewN q ∧ ∀ j, j < k → keeps d j = true)
    case atStart => exact ⟨1, 0, Nat.le_refl _, by omega, by omega, rfl, rfl, keeps_lt_one d⟩
    case round =>
      obtain ⟨k, q, hk1, hk, hg, rfl, rfl, hall⟩ := hrel
      by_cases hlt : k < d.size
      · obtain ⟨kp, rfl⟩ : ∃ kp, k = kp + 1 := ⟨k - 1, by omega⟩
        obtain ⟨c1, c1'⟩ := cellLL hH hlt q
        obtain ⟨c0, c0'⟩ := cellLL hH (show kp < d.size by omega) q
        have A : Aside (∀ j, j < kp + 1 → keeps d j = true) := hall
        have HH : Aside (HoldsK encLL 2 w blk off d) := hH
        have he := eqLL d[kp + 1]! d[kp]!
        have hgd := fun op a b => gdLL op a b d[kp + 1]! d[kp]!
        have mixed : Tryd.prog.follows .mixedOrders = true := by kernel_rfl
        have hi1 : (kp : Int) + 1 < (d.size : Int) := by omega
        have hi1' : (0 : Int) ≤ (kp : Int) + 1 := by omega
        have hi1'' : ((kp : Int) + 1).toNat = kp + 1 := by omega
        have hi0 : (kp : Int) < (d.size : Int) := by omega
        clear hall hH
        by_cases hdup : d[kp + 1]! = d[kp]!
        · have B : Aside (d[kp + 1]! = d[kp]!) := hdup
          rw [decide_eq_true hdup] at he
          clear hdup
          unfold aggLL at he hgd
          generalize d[kp + 1]! = x at c1 c1' he hgd
          generalize d[kp]! = y at c0 c0' he hgd
          generalize hwq : w.drewN q = wq at c1 c1' c0 c0' ⊢
          have HW : Aside (w.drewN q = wq) := hwq
          clear hwq
          go_wp2_with fail
          go_quiet (fail)
          go_wp2
          clear c0 c0' c1 c1' he hgd hi1 hi1' hi1'' hi0
          go_loopg [3, 5] d.size (fun g s3 s5 wr => ∃ (kk p2 q2 : Nat) (dk : Array LL), s3 = .int .i64 kk ∧ s5 = .int .i64 ((p2 + 1 : Nat) : Int) ∧ kp + 1 + (p2 + 1) ≤ d.size ∧ d.size - (kp + 1 + (p2 + 1)) ≤ g ∧ wr = putRowK encLL 2 (Sort.ahead w q2) blk off dk ∧ CompInv d (kp + 1 + (p2 + 1)) kk dk)
          case atStart => exact ⟨kp + 1, 0, q + nq, d, rfl, rfl, by omega, by omega, by rw [← HW.out, World.drewN_drewN]; exact (putRowK_self encLL 2 (Sort.ahead w (q + nq)) blk off d (holdsK_ahead encLL 2 w (q + nq) blk off d HH.out)).symm, CompInv.start A.out (keeps_neg (by omega) B.out)⟩
          case round =>
            obtain ⟨kk, p2, q2, dk, rfl, rfl, hle, hg2, hwr, hI⟩ := hrel
            have hkk := hI.lt
            have hds := hI.size
            have hHk : HoldsK encLL 2 wr blk off dk := by rw [hwr]; exact holdsK_putRowK encLL 2 _ blk off d dk (holdsK_ahead encLL 2 w q2 blk off d HH.out) hds
            have W2 : Aside (wr = putRowK encLL 2 (Sort.ahead w q2) blk off dk) := hwr
            have I2 : Aside (CompInv d (kp + 1 + (p2 + 1)) kk dk) := hI
            clear hwr
            by_cases hlt2 : kp + 1 + (p2 + 1) < d.size
            · obtain ⟨cm, cm', _, _⟩ := cellLL0 hHk (show kp + 1 + (p2 + 1) < dk.size by omega)
              obtain ⟨cp, cp', _, _⟩ := cellLL0 hHk (show kp + 1 + p2 < dk.size by omega)
              obtain ⟨ck, ck', fk, fk'⟩ := cellLL0 hHk (show kk < dk.size by omega)
              rw [hI.high (kp + 1 + (p2 + 1)) (by omega), show off + (kp + 1 + (p2 + 1)) * 2 = off + (kp + 1) * 2 + (p2 + 1) * 2 by omega] at cm cm'
              rw [hI.high (kp + 1 + p2) (by omega), show off + (kp + 1 + p2) * 2 = off + (kp + 1) * 2 + p2 * 2 by omega] at cp cp'
              have he := neLL d[kp + 1 + (p2 + 1)]! d[kp + 1 + p2]!
              have hgd := fun op a b => gdLL op a b d[kp + 1 + (p2 + 1)]! d[kp + 1 + p2]!
              unfold aggLL at he hgd
              have hi1 : (p2 : Int) + 1 < ((d.size - (kp + 1) : Nat) : Int) := by omega
              have hi2 : (0 : Int) ≤ (p2 : Int) + 1 := by omega
              have hi3 : ((p2 : Int) + 1).toNat = p2 + 1 := by omega
              have hi4 : (p2 : Int) < ((d.size - (kp + 1) : Nat) : Int) := by omega
              have hi5 : (kk : Int) < (d.size : Int) := by omega
              clear hHk hI
              by_cases huv : d[kp + 1 + (p2 + 1)]! = d[kp + 1 + p2]!
              · have B2 : Aside (d[kp + 1 + (p2 + 1)]! = d[kp + 1 + p2]!) := huv
                rw [decide_eq_true huv] at he
                clear huv
                generalize d[kp + 1 + (p2 + 1)]! = x at cm cm' he hgd
                generalize d[kp + 1 + p2]! = y at cp cp' he hgd
                go_wp2_with fail
                go_quiet (fail)
                go_wp2
                go_roundg (d.size - (kp + 1 + (p2 + 1 + 1)))
                case measure => omega
                case rel => exact ⟨kk, p2 + 1, q2 + nq, dk, rfl, by go_num, by omega, Nat.le_refl _, by rw [W2.out]; exact putRowK_drewN encLL 2 w q2 nq blk off dk, I2.out.skip (keeps_neg (by omega) B2.out)⟩
              · have B2 : Aside (d[kp + 1 + (p2 + 1)]! ≠ d[kp + 1 + p2]!) := huv
                rw [decide_eq_false huv] at he
                clear huv
                generalize hxx : d[kp + 1 + (p2 + 1)]! = x at cm cm' he hgd
                generalize d[kp + 1 + p2]! = y at cp cp' he hgd
                have XX : Aside (d[kp + 1 + (p2 + 1)]! = x) := hxx
                clear hxx
                go_wp2_with fail
                go_quiet (fail)
                go_wp2
                go_roundg (d.size - (kp + 1 + (p2 + 1 + 1)))
                case measure => omega
                case rel => 
                  refine ⟨kk + 1, p2 + 1, q2 + nq, dk.setIfInBounds kk d[kp + 1 + (p2 + 1)]!, by go_num, by go_num, by omega, Nat.le_refl _, ?_, I2.out.keep hlt2 (keeps_pos B2.out)⟩
                  rw [W2.out, putRowK_drewN encLL 2 w q2 nq blk off dk, store_LL _ _ _ _ _ _ (by omega), XX.out]
            · have hend : kp + 1 + (p2 + 1) = d.size := by omega
              have hcl : ∀ ty, (Builtin.clear_ #[25] ty #[.slice (some ⟨blk, off + kk * 2, none⟩) (d.size - kk) (cap - kk)]).run Tryd.prog wr = .ok (.tuple #[]) (wr.setCells blk (off + kk * 2) ((List.replicate (d.size - kk) (([], []) : LL)).flatMap encLL)) :=
                fun ty => clear_LL wr ty blk (off + kk * 2) (d.size - kk) (cap - kk) (by omega) (fun j hj => by
                  have := (hHk.cell (i := kk + j / 2) (c := j % 2) (by omega) (by omega)).1
                  rw [show off + (kk + j / 2) * 2 + j % 2 = off + kk * 2 + j by omega] at this
                  rw [this]; rfl) (fun j hj => by
                  have := (hHk.cell (i := kk + j / 2) (c := j % 2) (by omega) (by omega)).2
                  rwa [show off + (kk + j / 2) * 2 + j % 2 = off + kk * 2 + j by omega] at this)
              clear hHk hI
              go_wp2
              go_ret
              have hI := I2.out
              rw [hend] at hI
              refine ⟨by rw [hI.len]; rfl, q2, ?_⟩
              rw [hI.len, ← hI.done ([], []), W2.out]
              unfold putRowK
              rw [setCells_putRow _ _ _ _ _ _ (by simp [flatK, encLL]; omega), flat_lay _ _ _ (by simp; omega)]
        · have B : Aside (d[kp + 1]! ≠ d[kp]!) := hdup
          rw [decide_eq_false hdup] at he
          clear hdup
          unfold aggLL at he hgd
          generalize d[kp + 1]! = x at c1 c1' he hgd
          generalize d[kp]! = y at c0 c0' he hgd
          generalize hwq : w.drewN q = wq at c1 c1' c0 c0' ⊢
          have HW : Aside (w.drewN q = wq) := hwq
          clear hwq
          go_wp2_with fail
          go_quiet (fail)
          go_wp2
          go_roundg (d.size - (kp + 1 + 1))
          case measure => omega
          case rel =>
            refine ⟨kp + 1 + 1, q + nq, by omega, by omega, Nat.le_refl _, by go_num, by rw [← HW.out, World.drewN_drewN], fun j hj => ?_⟩
            by_cases e : j = kp + 1
            · subst e
              exact keeps_pos B.out
            · exact A.out j (by omega)
      · have : k = d.size := by omega
        subst this
        have HH : Aside (HoldsK encLL 2 w blk off d) := hH
        clear hH
        go_wp2
        go_ret
        obtain ⟨e1, e2⟩ := HS.out q hall
        exact ⟨by rw [e1]; rfl, q, e2⟩
set_option maxHeartbeats 1000000 in
theorem compactNil_LL (w : World) : Calls Tryd.prog 68 #[.slice none 0 0] w fun e w' => e = .returned (.slice none 0 0) ∧ w' = w := by
  go_enter Tryd.func68, Tryd.ntmps68
  go_wp2
  go_ret
  exact ⟨rfl, rfl⟩
end Go.Proofs.YtlonpmajnglmoaaDoor


 /-
  DERIVED: THE SHELF's CONTRACTS AT THIS DUMP, IN PLAIN WORDS (tools/lay-plain.mjs out of 'TrydShelf3.lean', which tools/lay-shelf.mjs wrote): THE SAME DECLARATIONS UNDER THE SAME NAMES: 'import', 'namespace', 'open', 'def', 'theorem' AND NOTHING ELSE: no command of the shelf's: FOR A HAND-IN. Each laying: the table of numbers ('.._ren') and one theorem, a field a fact of the dump's own or the kernel's comparison; each contract: ONE APPLICATION.
-/
namespace Go.Proofs
open Go.Shelf
def Tryd.sortf66_ren : Go.Shelf.Ren := ⟨fun | 6 => 66 | 15 => 107 | 14 => 106 | 28 => 139 | 29 => 140 | 20 => 131 | 21 => 132 | 22 => 133 | 23 => 134 | 24 => 135 | 25 => 136 | 26 => 137 | 27 => 138 | 46 => 175 | 47 => 176 | 48 => 177 | 49 => 178 | 50 => 179 | 57 => 199 | n => n, fun | 22 => 25 | 24 => 27 | 25 => 121 | 3 => 3 | 39 => 147 | 0 => 0 | 53 => 145 | 55 => 146 | 4 => 4 | 46 => 202 | 45 => 201 | 50 => 167 | 5 => 5 | 9 => 9 | 66 => 231 | 70 => 235 | 76 => 255 | 77 => 256 | n => n, fun | n => n⟩
theorem Tryd.sortf66 : Go.Proofs.SlLaysF0.n6 Tryd.prog Tryd.sortf66_ren := {
  mixed := by kernel_rfl
  f6 := ⟨Tryd.f66.name, by decide, Tryd.func66.trans (congrArg some (by kernel_rfl))⟩
  f14 := ⟨Tryd.f106.name, by decide, Tryd.func106.trans (congrArg some (by kernel_rfl))⟩
  f15 := Tryd.func107.trans (congrArg some (by kernel_rfl))
  f20 := ⟨Tryd.f131.name, by decide, Tryd.func131.trans (congrArg some (by kernel_rfl))⟩
  f21 := ⟨Tryd.f132.name, by decide, Tryd.func132.trans (congrArg some (by kernel_rfl))⟩
  f22 := ⟨Tryd.f133.name, by decide, Tryd.func133.trans (congrArg some (by kernel_rfl))⟩
  f23 := ⟨Tryd.f134.name, by decide, Tryd.func134.trans (congrArg some (by kernel_rfl))⟩
  f24 := ⟨Tryd.f135.name, by decide, Tryd.func135.trans (congrArg some (by kernel_rfl))⟩
  f25 := ⟨Tryd.f136.name, by decide, Tryd.func136.trans (congrArg some (by kernel_rfl))⟩
  f26 := ⟨Tryd.f137.name, by decide, Tryd.func137.trans (congrArg some (by kernel_rfl))⟩
  f27 := ⟨Tryd.f138.name, by decide, Tryd.func138.trans (congrArg some (by kernel_rfl))⟩
  f28 := Tryd.func139.trans (congrArg some (by kernel_rfl))
  f29 := Tryd.func140.trans (congrArg some (by kernel_rfl))
  f46 := ⟨Tryd.f175.name, by decide, Tryd.func175.trans (congrArg some (by kernel_rfl))⟩
  f47 := Tryd.func176.trans (congrArg some (by kernel_rfl))
  f48 := Tryd.func177.trans (congrArg some (by kernel_rfl))
  f49 := ⟨Tryd.f178.name, by decide, Tryd.func178.trans (congrArg some (by kernel_rfl))⟩
  f50 := ⟨Tryd.f179.name, by decide, Tryd.func179.trans (congrArg some (by kernel_rfl))⟩
  f57 := ⟨Tryd.f199.name, by decide, Tryd.func199.trans (congrArg some (by kernel_rfl))⟩
  t0 := Tryd.underlying0
  a0 := Tryd.isAgg0
  z0 := Tryd.sizeOf0
  v0 := Tryd.zeroValue0
  t3 := Tryd.underlying3
  a3 := Tryd.isAgg3
  z3 := Tryd.sizeOf3
  v3 := Tryd.zeroValue3
  t4 := Tryd.underlying4
  a4 := Tryd.isAgg4
  z4 := Tryd.sizeOf4
  v4 := Tryd.zeroValue4
  t5 := Tryd.underlying5
  a5 := Tryd.isAgg5
  z5 := Tryd.sizeOf5
  v5 := Tryd.zeroValue5
  t9 := Tryd.underlying9
  a9 := Tryd.isAgg9
  z9 := Tryd.sizeOf9
  v9 := Tryd.zeroValue9
  t22 := Tryd.underlying25
  a22 := Tryd.isAgg25
  z22 := Tryd.sizeOf25
  v22 := Tryd.zeroValue25
  t25 := Tryd.underlying121
  a25 := Tryd.isAgg121
  z25 := Tryd.sizeOf121
  v25 := Tryd.zeroValue121
  t39 := Tryd.underlying147
  a39 := Tryd.isAgg147
  z39 := Tryd.sizeOf147
  v39 := Tryd.zeroValue147
  t45 := Tryd.underlying201
  a45 := Tryd.isAgg201
  z45 := Tryd.sizeOf201
  v45 := Tryd.zeroValue201
  t46 := Tryd.underlying202
  a46 := Tryd.isAgg202
  z46 := Tryd.sizeOf202
  v46 := Tryd.zeroValue202
  t50 := Tryd.underlying167
  a50 := Tryd.isAgg167
  z50 := Tryd.sizeOf167
  v50 := Tryd.zeroValue167
  t53 := Tryd.underlying145
  a53 := Tryd.isAgg145
  z53 := Tryd.sizeOf145
  v53 := Tryd.zeroValue145
  t55 := Tryd.underlying146
  a55 := Tryd.isAgg146
  z55 := Tryd.sizeOf146
  v55 := Tryd.zeroValue146
  t66 := Tryd.underlying231
  a66 := Tryd.isAgg231
  z66 := Tryd.sizeOf231
  v66 := Tryd.zeroValue231
  t70 := Tryd.underlying235
  a70 := Tryd.isAgg235
  z70 := Tryd.sizeOf235
  v70 := Tryd.zeroValue235
  t76 := Tryd.underlying255
  a76 := Tryd.isAgg255
  z76 := Tryd.sizeOf255
  v76 := Tryd.zeroValue255
  t77 := Tryd.underlying256
  a77 := Tryd.isAgg256
  z77 := Tryd.sizeOf256
  v77 := Tryd.zeroValue256 }
end Go.Proofs

 /- cmp.Or at two numbers; label.compare. -/
namespace Go.Proofs.YtlonpmajnglmoaaDoor
open Go Go.Proofs Go.Shelf Go.RowKit Go.Lib Go.Sort
set_option maxHeartbeats 1000000 in
theorem or_two (g : Nat) (x y : Int) (w : World) (h0 : w.cell? ⟨g, 0, none⟩ = some (.int .i64 x)) (h1 : w.cell? ⟨g, 1, none⟩ = some (.int .i64 y)) :
    Calls Tryd.prog 108 #[.slice (some ⟨g, 0, none⟩) 2 2] w fun e w' => e = .returned (.int .i64 (if x = 0 then y else x)) ∧ ∃ q, w' = w.drewN q := by
  by_cases hx : x = 0
  · subst hx
    by_cases hy : y = 0
    · subst hy
      go_enter Tryd.func108, Tryd.ntmps108
      go_wp2
      refine wp_loop_rounds 3 ?_
      rw [rounds_succ]
      go_wp2
      rw [rounds_succ]
      go_wp2
      rw [rounds_succ]
      go_wp2
      go_ret
      exact ⟨rfl, 0, rfl⟩
    · go_enter Tryd.func108, Tryd.ntmps108
      go_wp2
      refine wp_loop_rounds 3 ?_
      rw [rounds_succ]
      go_wp2
      rw [rounds_succ]
      go_wp2
      go_ret
      exact ⟨rfl, 0, rfl⟩
  · go_enter Tryd.func108, Tryd.ntmps108
    go_wp2
    refine wp_loop_rounds 3 ?_
    rw [rounds_succ]
    go_wp2
    go_ret
    refine ⟨?_, 0, rfl⟩
    simp only [hx, if_false]
    rfl
def cmpLL (x y : LL) : Int := if compareBytes x.1 y.1 = 0 then compareBytes x.2 y.2 else compareBytes x.1 y.1
set_option maxHeartbeats 4000000 in
set_option maxRecDepth 100000 in
theorem compare_LL (x y : LL) (W : World) : Calls Tryd.prog 67 #[.agg #[.string ⟨⟨x.1⟩⟩, .string ⟨⟨x.2⟩⟩], .agg #[.string ⟨⟨y.1⟩⟩, .string ⟨⟨y.2⟩⟩]] W fun e w' => e = .returned (.int .i64 (cmpLL x y)) ∧ ∃ q os', w' = grow (W.drewN q) os' := by
  have hc := fun a b w => Tryd.strings_Compare a b w
  have mixed : Tryd.prog.follows .mixedOrders = true := by kernel_rfl
  go_enter Tryd.func67, Tryd.ntmps67
  go_wp2
  generalize ho1 : Obj.cells #[Value.string { data := { toList := x.fst } }, Value.string { data := { toList := x.snd } }] 27 = o1
  generalize ho2 : Obj.cells #[Value.string { data := { toList := y.fst } }, Value.string { data := { toList := y.snd } }] 27 = o2
  have hg : (W.alloc o1).alloc o2 = grow W #[o1, o2] := by rw [alloc_eq_grow, alloc_eq_grow, grow_grow]; rfl
  generalize hW2 : (W.alloc o1).alloc o2 = W2 at hg ⊢
  have hh : W2.heap = (W.heap.push o1).push o2 := by rw [← hW2]; rfl
  have hsz : W2.heap.size = W.heap.size + 2 := by rw [hh, Array.size_push, Array.size_push]
  have e1 : W2.heap[W.heap.size]? = some o1 := by rw [hh, Array.getElem?_push, if_neg (by rw [Array.size_push]; omega), Array.getElem?_push, if_pos rfl]
  have e2 : W2.heap[W.heap.size + 1]? = some o2 := by rw [hh, Array.getElem?_push, if_pos (by rw [Array.size_push])]
  have a1 : W2.cell? ⟨W.heap.size, 0, none⟩ = some (.string ⟨⟨x.1⟩⟩) := by
    unfold World.cell?
    rw [e1, ← ho1]; rfl
  have a2 : W2.cell? ⟨W.heap.size, 1, none⟩ = some (.string ⟨⟨x.2⟩⟩) := by
    unfold World.cell?
    rw [e1, ← ho1]; rfl
  have b1 : W2.cell? ⟨W.heap.size + 1, 0, none⟩ = some (.string ⟨⟨y.1⟩⟩) := by
    unfold World.cell?
    rw [e2, ← ho2]; rfl
  have b2 : W2.cell? ⟨W.heap.size + 1, 1, none⟩ = some (.string ⟨⟨y.2⟩⟩) := by
    unfold World.cell?
    rw [e2, ← ho2]; rfl
  have HG : Aside (W2 = grow W #[o1, o2]) := hg
  have HS : Aside (W2.heap.size = W.heap.size + 2) := hsz
  clear hg hsz
  refine wp_region_still_tail 10 (by kernel_rfl) (by kernel_rfl) ?_
  simp only [List.take_succ_cons, List.take_zero, List.drop_succ_cons, List.drop_zero]
  clear hh hW2 ho1 ho2 e1 e2
  still_step
  still_step
  still_step
  still_step
  still_call (Tryd.strings_Compare ⟨⟨x.1⟩⟩ ⟨⟨y.1⟩⟩ _)
  still_step
  still_step
  still_step
  still_step
  still_call (Tryd.strings_Compare ⟨⟨x.2⟩⟩ ⟨⟨y.2⟩⟩ _)
  refine wpStill_nil ?_
  change wpList _ _ _ _ _ W2.drew
  have hor := fun g w h0 h1 => or_two g (compareBytes x.1 y.1) (compareBytes x.2 y.2) w h0 h1
  have HC : Aside (cmpLL x y = if compareBytes x.1 y.1 = 0 then compareBytes x.2 y.2 else compareBytes x.1 y.1) := rfl
  change ∀ g w, _ → _ → Calls Tryd.prog 108 _ _ _ at hor
  generalize (if compareBytes x.1 y.1 = 0 then compareBytes x.2 y.2 else compareBytes x.1 y.1) = r at hor HC
  change ∀ g w, _ → _ → Calls Tryd.prog 108 _ _ _ at hor
  generalize compareBytes x.1 y.1 = i1 at hor
  generalize compareBytes x.2 y.2 = i2 at hor
  generalize hW3 : W2.drew = W3
  have hA := hor W3.heap.size (W3.alloc (Obj.cells #[Value.int IntKind.i64 i1, Value.int IntKind.i64 i2] 3)) (by
    unfold World.cell?
    rw [show (W3.alloc (Obj.cells #[Value.int IntKind.i64 i1, Value.int IntKind.i64 i2] 3)).heap[W3.heap.size]? = some (Obj.cells #[Value.int IntKind.i64 i1, Value.int IntKind.i64 i2] 3) from Array.getElem?_push_size]; rfl) (by
    unfold World.cell?
    rw [show (W3.alloc (Obj.cells #[Value.int IntKind.i64 i1, Value.int IntKind.i64 i2] 3)).heap[W3.heap.size]? = some (Obj.cells #[Value.int IntKind.i64 i1, Value.int IntKind.i64 i2] 3) from Array.getElem?_push_size]; rfl)
  have H3 : Aside (W2.drew = W3) := hW3
  clear hor hW3
  change Calls Tryd.prog 108 _ _ _ at hA
  go_wp2_with (go_at_call 108; refine hA.mono ?_; rintro e w' ⟨rfl, q, rfl⟩)
  go_ret
  refine ⟨by rw [HC.out]; rfl, 1 + q, #[o1, o2] ++ #[Obj.cells #[Value.int IntKind.i64 i1, Value.int IntKind.i64 i2] 3], ?_⟩
  rw [← H3.out, HG.out, alloc_eq_grow]
  show grow (((grow W #[o1, o2]).drewN 1).drewN q) _ = _
  rw [World.drewN_drewN]
  show grow (grow (W.drewN (1 + q)) #[o1, o2]) _ = _
  rw [grow_grow]
end Go.Proofs.YtlonpmajnglmoaaDoor


 /- What is in order, each once, by any order that parts what is not one: plain, no program. -/
namespace Go.Proofs.YtlonpmajnglmoaaDoor
open Go
/-- an order that parts whatever two things that are not one -/
structure LtT {α : Type} (lt : α → α → Bool) : Prop where
  irrefl : ∀ x, lt x x = false
  trans : ∀ x y z, lt x y = true → lt y z = true → lt x z = true
  tot : ∀ x y, lt x y = false → lt y x = false → x = y
section
variable {α : Type} {lt : α → α → Bool}
theorem LtT.asymm (T : LtT lt) {x y : α} (h : lt x y = true) : lt y x = false := by
  cases k : lt y x with
  | false => rfl
  | true => have := T.trans x y x h k; rw [T.irrefl] at this; cases this
theorem LtT.ntrans (T : LtT lt) (x y z : α) (h : lt x y = false) (k : lt y z = false) : lt x z = false := by
  cases e : lt x z with
  | false => rfl
  | true =>
    cases f : lt z y with
    | true => rw [T.trans x z y e f] at h; cases h
    | false => have := T.tot y z k f; subst this; rw [e] at h; cases h
theorem LtT.swo [Inhabited α] (T : LtT lt) : Sort.SWO lt := ⟨T.irrefl, T.trans, T.ntrans⟩
theorem LtT.le_lt (T : LtT lt) {x y z : α} (h : lt y x = false) (k : lt y z = true) : lt x z = true := by
  cases e : lt x y with
  | true => exact T.trans x y z e k
  | false => have := T.tot x y e h; subst this; exact k
def StrictG (lt : α → α → Bool) (l : List α) : Prop := l.Pairwise fun a b => lt a b = true
theorem StrictG.nodup (T : LtT lt) {l : List α} (h : StrictG lt l) : l.Nodup := List.Pairwise.imp (fun {a b} (hab : lt a b = true) (e : a = b) => by rw [e, T.irrefl] at hab; cases hab) h
theorem strictG_uniq (T : LtT lt) : ∀ {a b : List α}, StrictG lt a → StrictG lt b → (∀ x, x ∈ a ↔ x ∈ b) → a = b
  | [], [], _, _, _ => rfl
  | [], y :: b, _, _, h => by have := (h y).2 (by simp); simp at this
  | x :: a, [], _, _, h => by have := (h x).1 (by simp); simp at this
  | x :: a, y :: b, ha, hb, h => by
    have ha' := List.pairwise_cons.1 ha
    have hb' := List.pairwise_cons.1 hb
    have hxy : x = y := by
      rcases List.mem_cons.1 ((h x).1 (by simp)) with e | hx
      · exact e
      · rcases List.mem_cons.1 ((h y).2 (by simp)) with e | hy
        · exact e.symm
        · have h1 := T.asymm (hb'.1 x hx); rw [ha'.1 y hy] at h1; cases h1
    subst hxy
    rw [strictG_uniq T ha'.2 hb'.2 (fun z => ?_)]
    constructor
    · intro hz
      rcases List.mem_cons.1 ((h z).1 (by simp [hz])) with e | hz'
      · subst e; have := ha'.1 z hz; rw [T.irrefl] at this; cases this
      · exact hz'
    · intro hz
      rcases List.mem_cons.1 ((h z).2 (by simp [hz])) with e | hz'
      · subst e; have := hb'.1 z hz; rw [T.irrefl] at this; cases this
      · exact hz'
def sortG (lt : α → α → Bool) (l : List α) : List α := l.mergeSort fun x y => !(lt y x)
theorem sortG_le (T : LtT lt) (l : List α) : (sortG lt l).Pairwise fun a b => lt b a = false := by
  have h := List.pairwise_mergeSort (le := fun (x y : α) => !(lt y x)) (fun a b c h k => by
    simp only [Bool.not_eq_true'] at h k ⊢
    exact T.ntrans c b a k h) (fun a b => by
    cases e : lt b a with
    | false => simp
    | true => simp [T.asymm e]) l
  exact h.imp fun h => by simpa using h
theorem sortG_perm (l : List α) : (sortG lt l).Perm l := List.mergeSort_perm l _
theorem sortG_mem (l : List α) (x : α) : x ∈ sortG lt l ↔ x ∈ l := (sortG_perm l).mem_iff
theorem sortG_length (l : List α) : (sortG lt l).length = l.length := List.length_mergeSort l
theorem compactUpTo_strictG [Inhabited α] [DecidableEq α] (T : LtT lt) {ys : List α} (h : ys.Pairwise fun a b => lt b a = false) : ∀ m, m ≤ ys.length → StrictG lt (Lib.compactUpTo ys.toArray m) ∧ ∀ x, x ∈ Lib.compactUpTo ys.toArray m ↔ x ∈ ys.take m
  | 0, _ => ⟨List.Pairwise.nil, fun x => by simp [Lib.compactUpTo]⟩
  | m + 1, hm => by
    obtain ⟨h1, h2⟩ := compactUpTo_strictG T h m (by omega)
    have hget : ∀ i, (hi : i < ys.length) → ys.toArray[i]! = ys[i] := fun i hi => by simp [hi]
    have hlast : ys.take (m + 1) = ys.take m ++ [ys[m]'(by omega)] := by rw [List.take_succ_eq_append_getElem (by omega)]
    rw [Lib.compactUpTo_succ, hlast, hget m (by omega)]
    have hpw := List.pairwise_iff_getElem.1 h
    cases hk : Lib.keeps ys.toArray m with
    | true =>
      simp only [if_true]
      refine ⟨List.pairwise_append.2 ⟨h1, List.pairwise_singleton _ _, fun x hx y hy => ?_⟩, fun x => by rw [List.mem_append, List.mem_append, h2]⟩
      simp only [List.mem_singleton] at hy
      subst hy
      have hx' := (h2 x).1 hx
      obtain ⟨i, hi, he⟩ := List.getElem_of_mem hx'
      simp only [List.length_take] at hi
      simp only [List.getElem_take] at he
      have h0 : m ≠ 0 := by omega
      simp only [Lib.keeps, h0, false_or, decide_eq_true_eq, ne_eq] at hk
      rw [hget m (by omega), hget (m - 1) (by omega)] at hk
      have hle : lt (ys[m - 1]'(by omega)) x = false := by
        rw [← he]
        by_cases e : i = m - 1
        · subst e; exact T.irrefl _
        · exact hpw i (m - 1) (by omega) (by omega) (by omega)
      have h3 := hpw (m - 1) m (by omega) (by omega) (by omega)
      have h4 : lt (ys[m - 1]'(by omega)) (ys[m]'(by omega)) = true := by
        cases e : lt (ys[m - 1]'(by omega)) (ys[m]'(by omega)) with
        | true => rfl
        | false => exact absurd (T.tot _ _ h3 e) hk
      exact T.le_lt hle h4
    | false =>
      simp only [Bool.false_eq_true, if_false, List.append_nil]
      refine ⟨h1, fun x => ?_⟩
      rw [h2, List.mem_append]
      refine ⟨.inl, fun hx => hx.elim id fun hx => ?_⟩
      simp only [List.mem_singleton] at hx
      subst hx
      simp only [Lib.keeps, decide_eq_false_iff_not, not_or, ne_eq, Classical.not_not] at hk
      have h0 : m ≠ 0 := hk.1
      have he := hk.2
      rw [hget m (by omega), hget (m - 1) (by omega)] at he
      rw [he]
      have : ys[m - 1]'(by omega) = (ys.take m)[m - 1]'(by simp; omega) := by simp
      rw [this]
      exact List.getElem_mem _
/-- sorted, each once -/
def uniqG [Inhabited α] [DecidableEq α] (lt : α → α → Bool) (l : List α) : List α := Lib.compact (sortG lt l)
theorem uniqG_strict [Inhabited α] [DecidableEq α] (T : LtT lt) (l : List α) : StrictG lt (uniqG lt l) := (compactUpTo_strictG T (sortG_le T l) _ (Nat.le_refl _)).1
theorem uniqG_mem [Inhabited α] [DecidableEq α] (T : LtT lt) (l : List α) (x : α) : x ∈ uniqG lt l ↔ x ∈ l := by
  have := (compactUpTo_strictG T (sortG_le T l) _ (Nat.le_refl _)).2 x
  rw [List.take_length, sortG_mem] at this
  exact this
theorem uniqG_congr [Inhabited α] [DecidableEq α] (T : LtT lt) {a b : List α} (h : ∀ x, x ∈ a ↔ x ∈ b) : uniqG lt a = uniqG lt b :=
  strictG_uniq T (uniqG_strict T a) (uniqG_strict T b) fun x => by rw [uniqG_mem T, uniqG_mem T, h]
end
/-! ### bytes -/
theorem cB_zero : ∀ a b : List UInt8, Lib.compareBytes a b = 0 ↔ a = b
  | [], [] => by simp [Lib.compareBytes]
  | [], _ :: _ => by simp [Lib.compareBytes]
  | _ :: _, [] => by simp [Lib.compareBytes]
  | a :: l, b :: r => by
    unfold Lib.compareBytes
    split
    · rename_i h
      constructor
      · intro e; cases e
      · intro e; injection e with e1 e2; subst e1; exact absurd h (UInt8.lt_irrefl _)
    · split
      · rename_i h
        constructor
        · intro e; cases e
        · intro e; injection e with e1 e2; subst e1; exact absurd h (UInt8.lt_irrefl _)
      · rename_i h k
        have e : a = b := UInt8.le_antisymm (UInt8.not_lt.1 k) (UInt8.not_lt.1 h)
        subst e
        rw [cB_zero l r]
        simp
theorem cB_neg : ∀ a b : List UInt8, Lib.compareBytes a b < 0 ↔ a < b
  | [], [] => by simp [Lib.compareBytes]
  | [], _ :: _ => by simp [Lib.compareBytes]
  | _ :: _, [] => by simp [Lib.compareBytes]
  | a :: l, b :: r => by
    unfold Lib.compareBytes
    rw [List.cons_lt_cons_iff]
    split
    · rename_i h; simp [h]
    · split
      · rename_i h k
        constructor
        · intro e; omega
        · rintro (e | ⟨rfl, _⟩)
          · exact absurd e h
          · exact absurd k h
      · rename_i h k
        have e : a = b := UInt8.le_antisymm (UInt8.not_lt.1 k) (UInt8.not_lt.1 h)
        subst e
        rw [cB_neg l r]
        simp [h]
end Go.Proofs.YtlonpmajnglmoaaDoor


 /- Slices of elements of several cells: what the library's sort, its compaction, leave, owned. -/
namespace Go.Proofs.YtlonpmajnglmoaaDoor
open Go Go.Proofs Go.RowKit Go.Sort
section
variable {α : Type} [Inhabited α] {k : Nat} {f : α → List Value} {w : World} {g : Nat} {cur : Array Value} {e : TypeId}
theorem flatK_list (h : OneK k f) (xs : List α) : flatK f k xs.toArray = (xs.flatMap f).toArray := by
  have hl := h.flen xs
  apply Array.ext
  · simp [flatK, hl]
  · intro t h1 h2
    have ht : t < xs.length * k := by simpa [flatK] using h1
    have hq : t / k < xs.length := Nat.div_lt_of_lt_mul (by rw [Nat.mul_comm]; exact ht)
    have hr : t % k < k := Nat.mod_lt _ h.pos
    have e := h.fget xs (t / k) xs[t / k] (t % k) (List.getElem?_eq_getElem hq) hr
    rw [Nat.div_add_mod'] at e
    have hx := h.len xs[t / k]
    simp only [flatK, Array.getElem_map, Array.getElem_range]
    rw [getElem!_pos xs.toArray (t / k) (by simpa using hq)]
    simp only [List.getElem_toArray]
    rw [getElem!_pos (f xs[t / k]) (t % k) (by omega)]
    rw [List.getElem?_eq_getElem (by rw [hl]; exact ht), List.getElem?_eq_getElem (by omega)] at e
    exact (Option.some.inj e).symm
theorem holds_of_blockV {us : List Value} (hb : w.heap[g]? = some (.cells cur e (0, 0))) (ht : cur.toList.take us.length = us) : Holds id w g 0 us.toArray := by
  intro j hj
  have hj' : j < us.length := by simpa using hj
  refine ⟨?_, by simp [World.frozen?, hb]⟩
  have h1 : (cur.toList.take us.length)[j]? = us[j]? := by rw [ht]
  rw [List.getElem?_take_of_lt hj'] at h1
  simp only [World.cell?, hb, Nat.zero_add]
  simp only [Option.isSome_none, Bool.false_eq_true, if_false]
  rw [← Array.getElem?_toList, h1]
  simp [hj']
theorem heap_sortedV {n : Nat} {os : Array Obj} {fr : Nat × Nat} (d : Array Value) (hb : w.heap[g]? = some (.cells cur e fr)) :
    (grow (putRow id (Sort.ahead w n) g 0 d) os).heap[g]? = some (.cells (putCells id 0 d cur) e fr) := by
  have hg : g < w.heap.size := (Array.getElem?_eq_some_iff.1 hb).1
  rw [heap_grow_old _ _ (by simpa using hg)]
  simp [putRow, mapBlock, Sort.ahead, Array.getElem?_modify, hb, onCells]
theorem grownBy_sortedV {n : Nat} {os : Array Obj} (d : Array Value) : w.grownBy (grow (putRow id (Sort.ahead w n) g 0 d) os) (some g) := by
  refine ⟨rfl, rfl, rfl, by simp, fun k hk hne => ?_⟩
  rw [heap_grow_old _ _ (by simpa using hk)]
  have : g ≠ k := fun e => hne (by rw [e])
  simp [putRow, mapBlock, Sort.ahead, Array.getElem?_modify, this]
theorem take_putCellsV (cur : Array Value) (ts : List Value) (h : ts.length ≤ cur.size) : (putCells id 0 ts.toArray cur).toList.take ts.length = ts := by
  apply List.ext_getElem?
  intro j
  by_cases hj : j < ts.length
  · rw [List.getElem?_take_of_lt hj, Array.getElem?_toList]
    simp [putCells, hj, show j < cur.size by omega]
  · rw [List.getElem?_take_eq_none (by omega), List.getElem?_eq_none (by omega)]
theorem ownK_sorted {B cap n : Nat} {os : Array Obj} {ss ts : List α} (h : OneK k f) (hl : ts.length = ss.length) (hbase : B ≤ g) (hb : w.heap[g]? = some (.cells cur e (0, 0))) (h1 : ss.length ≤ cap) (h2 : cap ≤ maxLen) (h3 : cur.size = cap * k) :
    OwnK k f (grow (putRowK f k (Sort.ahead w n) g 0 ts.toArray) os) B e (some ⟨g, 0, none⟩) cap ts := by
  unfold putRowK
  rw [flatK_list h]
  have hf := h.flen ts
  have hle : ts.length * k ≤ cur.size := by rw [h3]; exact Nat.mul_le_mul_right k (by omega)
  refine ⟨h, hf, .inr ⟨g, cap, _, rfl, hbase, heap_sortedV _ hb, by omega, h2, by simp [putCells, h3], ?_⟩⟩
  rw [← hf]
  exact take_putCellsV cur _ (by omega)
theorem sortK_fn {P : Program} {F : FuncId} {fv : Value} {le : α → α → Bool} {A : Option Addr} {c n B : Nat} {xs : List α} (hE : goesIn P F = true)
    (hS : ∀ (b cap : Nat) (d : Array α) (w1 : World), HoldsK f k w1 b 0 d → b < w1.heap.size → d.size < 4611686018427387904 → Calls P F #[.slice (some ⟨b, 0, none⟩) d.size cap, fv] w1 fun e w' => e = .returned (.tuple #[]) ∧ ∃ n os, w' = sortWorldK f k w1 b 0 n (d.toList.mergeSort le).toArray os)
    (hN : ∀ (p : Option Addr) (cap : Nat) (w1 : World), Calls P F #[.slice p 0 cap, fv] w1 fun e w' => e = .returned (.tuple #[]) ∧ w' = w1)
    (hO : OwnK k f w B e A c xs) (hn : n = xs.length) (hs : xs.length < 4611686018427387904) :
    Fn P F ⟨[.slice A n c, fv]⟩ w (fun v w' => ∃ ys : List α, v = .tuple #[] ∧ OwnK k f w' B e A c ys ∧ w.grownBy w' (blk A) ∧ ys.length = xs.length ∧ ys = xs.mergeSort le) := by
  subst hn
  refine ⟨hE, fun w1 e1 => ?_⟩
  have hO1 := hO.eqv e1
  rcases hO1.2.2 with ⟨hv, hn⟩ | ⟨b, cap, cur, hv, hb, hg, hnc, hcm, hcs, htake⟩
  · simp only [Value.slice.injEq] at hv
    obtain ⟨rfl, _, rfl⟩ := hv
    have : xs = [] := List.eq_nil_of_length_eq_zero hn
    subst this
    refine (hN none 0 w1).mono fun _ w' ⟨he, hw⟩ => ⟨_, w, he, by rw [hw]; exact e1, [], rfl, hO, gr_refl _ _, rfl, ?_⟩
    simp
  · simp only [Value.slice.injEq] at hv
    obtain ⟨rfl, _, rfl⟩ := hv
    have hH : HoldsK f k w1 b 0 xs.toArray := by
      unfold HoldsK
      rw [flatK_list hO.1]
      exact holds_of_blockV hg (by rw [hO.1.flen xs]; exact htake)
    refine (hS b c xs.toArray w1 hH (Array.getElem?_eq_some_iff.1 hg).1 (by simpa using hs)).mono fun _ w' ⟨he, q, os, hw⟩ => ?_
    have hl : (xs.mergeSort le).length = xs.length := List.length_mergeSort xs
    have h1 := ownK_sorted (n := q) (os := os) hO.1 hl hb hg hnc hcm hcs
    have h2 := grownBy_sortedV (w := w1) (g := b) (n := q) (os := os) (flatK f k (xs.mergeSort le).toArray)
    unfold sortWorldK at hw
    rw [← hw] at h1
    unfold putRowK at hw
    rw [show (xs.toArray.toList.mergeSort le) = xs.mergeSort le from rfl] at hw
    rw [← hw] at h2
    exact ⟨_, w', he, Eqv.refl _, _, rfl, h1, eqv_gr e1 h2, hl, rfl⟩
theorem headK_fn {P : Program} {F : FuncId} {cm : List α → List α} {z : α} {A : Option Addr} {c n B : Nat} {xs : List α} (hE : goesIn P F = true) (hle : (cm xs).length ≤ xs.length)
    (hS : ∀ (b cap : Nat) (w1 : World), HoldsK f k w1 b 0 xs.toArray → xs.length ≤ 9223372036854775807 → xs.length ≤ cap → Calls P F #[.slice (some ⟨b, 0, none⟩) xs.length cap] w1 fun e w' => e = .returned (.slice (some ⟨b, 0, none⟩) (cm xs).length cap) ∧ ∃ q, w' = putRowK f k (Sort.ahead w1 q) b 0 (cm xs ++ List.replicate (xs.length - (cm xs).length) z).toArray)
    (hN : xs = [] → ∀ w1 : World, Calls P F #[.slice none 0 0] w1 fun e w' => e = .returned (.slice none 0 0) ∧ w' = w1)
    (hO : OwnK k f w B e A c xs) (hn : n = xs.length) :
    Fn P F ⟨[.slice A n c]⟩ w (fun v w' => ∃ ys : List α, v = .slice A ys.length c ∧ OwnK k f w' B e A c ys ∧ w.grownBy w' (blk A) ∧ ys = cm xs) := by
  subst hn
  refine ⟨hE, fun w1 e1 => ?_⟩
  have hO1 := hO.eqv e1
  rcases hO1.2.2 with ⟨hv, hn⟩ | ⟨b, cap, cur, hv, hb, hg, hnc, hcm, hcs, htake⟩
  · simp only [Value.slice.injEq] at hv
    obtain ⟨rfl, _, rfl⟩ := hv
    have hx : xs = [] := List.eq_nil_of_length_eq_zero hn
    have hc0 : cm xs = [] := List.eq_nil_of_length_eq_zero (by omega)
    have e0 : xs.length = 0 := by rw [hx]; rfl
    rw [e0]
    refine (hN hx w1).mono fun _ w' ⟨he, hw⟩ => ⟨_, w, he, by rw [hw]; exact e1, cm xs, by rw [hc0]; rfl, ?_, gr_refl _ _, rfl⟩
    rw [hc0, ← hx]; exact hO
  · simp only [Value.slice.injEq] at hv
    obtain ⟨rfl, _, rfl⟩ := hv
    have hmx : xs.length ≤ 9223372036854775807 := by simp only [maxLen] at hcm; omega
    have hH : HoldsK f k w1 b 0 xs.toArray := by
      unfold HoldsK
      rw [flatK_list hO.1]
      exact holds_of_blockV hg (by rw [hO.1.flen xs]; exact htake)
    refine (hS b c w1 hH hmx hnc).mono fun _ w' ⟨he, q, hw⟩ => ?_
    have hl : (cm xs ++ List.replicate (xs.length - (cm xs).length) z).length = xs.length := by simp; omega
    have h1 := ownK_sorted (n := q) (os := #[]) hO.1 hl hb hg hnc hcm hcs
    have h2 := grownBy_sortedV (w := w1) (g := b) (n := q) (os := #[]) (flatK f k (cm xs ++ List.replicate (xs.length - (cm xs).length) z).toArray)
    rw [Sort.grow_empty, ← hw] at h1
    unfold putRowK at hw
    rw [Sort.grow_empty, ← hw] at h2
    have hO3 := h1.take (cm xs).length (by rw [hl]; exact hle)
    rw [List.take_left' rfl] at hO3
    exact ⟨_, w', he, Eqv.refl _, _, rfl, hO3, eqv_gr e1 h2, rfl⟩
end
end Go.Proofs.YtlonpmajnglmoaaDoor


 /- slices.SortFunc by label.compare, slices.Compact of labels: in the generator's form. -/
namespace Go.Proofs.YtlonpmajnglmoaaDoor
open Go Go.Proofs Go.RowKit Go.Sort
theorem cmpLL_neg (x y : LL) : cmpLL x y < 0 ↔ x.1 < y.1 ∨ x.1 = y.1 ∧ x.2 < y.2 := by
  unfold cmpLL
  split
  · rename_i h
    have h1 := (cB_zero _ _).1 h
    rw [cB_neg, h1]
    simp [List.lt_irrefl]
  · rename_i h
    have h1 : x.1 ≠ y.1 := fun e => h ((cB_zero _ _).2 e)
    rw [cB_neg]
    simp [h1]
theorem bs_tri (a b : List UInt8) : a < b ∨ a = b ∨ b < a := by
  by_cases h : a < b
  · exact .inl h
  · by_cases k : b < a
    · exact .inr (.inr k)
    · exact .inr (.inl (List.le_antisymm (List.not_lt.1 k) (List.not_lt.1 h)))
def ltLL : LL → LL → Bool := ltOf cmpLL
theorem ltLL_iff (x y : LL) : ltLL x y = true ↔ x.1 < y.1 ∨ x.1 = y.1 ∧ x.2 < y.2 := by
  unfold ltLL ltOf
  rw [decide_eq_true_iff, cmpLL_neg]
theorem ltLL_T : LtT ltLL where
  irrefl x := by
    cases h : ltLL x x with
    | false => rfl
    | true =>
      rcases (ltLL_iff x x).1 h with k | ⟨_, k⟩ <;> exact absurd k (List.lt_irrefl _)
  trans x y z h k := by
    rw [ltLL_iff] at *
    rcases h with h | ⟨h1, h2⟩ <;> rcases k with k | ⟨k1, k2⟩
    · exact .inl (List.lt_trans h k)
    · exact .inl (k1 ▸ h)
    · exact .inl (h1 ▸ k)
    · exact .inr ⟨h1.trans k1, List.lt_trans h2 k2⟩
  tot x y h k := by
    have h' : ¬ (x.1 < y.1 ∨ x.1 = y.1 ∧ x.2 < y.2) := fun e => by rw [(ltLL_iff x y).2 e] at h; cases h
    have k' : ¬ (y.1 < x.1 ∨ y.1 = x.1 ∧ y.2 < x.2) := fun e => by rw [(ltLL_iff y x).2 e] at k; cases k
    rcases bs_tri x.1 y.1 with e | e | e
    · exact absurd (.inl e) h'
    · rcases bs_tri x.2 y.2 with f | f | f
      · exact absurd (.inr ⟨e, f⟩) h'
      · exact Prod.ext e f
      · exact absurd (.inr ⟨e.symm, f⟩) k'
    · exact absurd (.inl e) k'
theorem encLL_eq : enc27 = encLL := rfl
def M_slices_SortFunc_label_Label_label_Label_label_compare (xs : List LL) (K : List LL → Prop) : Prop := xs.length < 4611686018427387904 ∧ K (sortG ltLL xs)
theorem W_slices_SortFunc_label_Label_label_Label_label_compare {w : World} {xs : List LL} {A : Option Addr} {c n B : Nat} {e : TypeId} {K : List LL → Prop} (hO : OwnK 2 enc27 w B e A c xs) (hn : n = xs.length) (H : M_slices_SortFunc_label_Label_label_Label_label_compare xs K) :
    Fn Tryd.prog 66 ⟨[.slice A n c, .func (.func 67) #[] #[]]⟩ w (fun v w' => ∃ ys : List LL, v = .tuple #[] ∧ OwnK 2 enc27 w' B e A c ys ∧ w.grownBy w' (blk A) ∧ ys.length = xs.length ∧ K ys) := by
  refine (sortK_fn (le := fun x y => !(ltLL y x)) (by kernel_rfl) (fun b cap d w1 hH hb hd => ?_) (fun p cap w1 => AnyF.slices_SortFunc_none Tryd.sortf66 p cap _ w1) hO hn H.1).mono ?_
  · exact AnyQ.slices_SortFunc_total Tryd.sortf66 2 Tryd.isAgg27 Tryd.sizeOf27 encLL (fun _ => rfl) (fun x v hv => by
      simp only [encLL, List.mem_cons, List.not_mem_nil, or_false] at hv
      rcases hv with rfl | rfl <;> rfl) cmpLL ltLL_T.swo 67 #[] b 0 cap d w1 (fun _ _ => by kernel_rfl) (fun _ _ _ _ x y => compare_LL x y _) hH hb hd ltLL_T.tot
  · rintro v w' ⟨ys, h1, h2, h3, h4, h5⟩
    exact ⟨ys, h1, h2, h3, h4, by rw [h5]; exact H.2⟩
def M_slices_Compact_label_Label_label_Label (xs : List LL) (K : List LL → Prop) : Prop := K (Lib.compact xs)
theorem W_slices_Compact_label_Label_label_Label {w : World} {xs : List LL} {A : Option Addr} {c n B : Nat} {e : TypeId} {K : List LL → Prop} (hO : OwnK 2 enc27 w B e A c xs) (hn : n = xs.length) (H : M_slices_Compact_label_Label_label_Label xs K) :
    Fn Tryd.prog 68 ⟨[.slice A n c]⟩ w (fun v w' => ∃ ys : List LL, v = .slice A ys.length c ∧ OwnK 2 enc27 w' B e A c ys ∧ w.grownBy w' (blk A) ∧ K ys) := by
  refine (headK_fn (cm := Lib.compact) (z := ([], [])) (by kernel_rfl) ?_ (fun b cap w1 hH h1 h2 => ?_) (fun _ w1 => ?_) hO hn).mono ?_
  · unfold Lib.compact Lib.compactUpTo
    rw [List.length_map]
    exact Nat.le_trans (List.length_filter_le _ _) (by simp)
  · have := compact_LL b 0 cap xs.toArray w1 hH (by simpa using h1) (by simpa using h2)
    rw [encLL_eq]
    unfold Lib.compact
    simpa using this
  · exact compactNil_LL w1
  · rintro v w' ⟨ys, h1, h2, h3, h4⟩
    exact ⟨ys, h1, h2, h3, by rw [h4]; exact H⟩
end Go.Proofs.YtlonpmajnglmoaaDoor


 /- Printed by a program (wip/vg): what the functions mean, plainly, and their walks. -/
namespace Go.Proofs.YtlonpmajnglmoaaDoor
open Go Go.RowKit
attribute [local irreducible] WL WC WX WQ WK WJ Yld Eff Ef0 Fn
def M_smithylaw17_first (K : Bool → Prop) : Prop :=
 M_label_Parse ([47, 47, 97, 47, 98] : List UInt8) ([120] : List UInt8) (fun (t60_Pkg : List UInt8) (t60_Name : List UInt8) (t61 : Er) =>
 M_label_Parse ([58, 120] : List UInt8) ([97] : List UInt8) (fun (t100_Pkg : List UInt8) (t100_Name : List UInt8) (t101 : Er) =>
 K ((((((decide (t61 = Er.ok)) && (decide (t101 = Er.ok))) && (decide (t60_Pkg = ([97, 47, 98] : List UInt8)))) && (decide (t60_Name = ([98] : List UInt8)))) && (decide (t100_Pkg = ([97] : List UInt8)))) && (decide (t100_Name = ([120] : List UInt8))))))

def M_slices_Clone_label_Label_label_Label (s : List (List UInt8 × List UInt8)) (K : (List (List UInt8 × List UInt8)) → Prop) : Prop :=
 (s.length ≤ maxLen →
 ((s = [] → K []) ∧
 ((((([] : List (List UInt8 × List UInt8))).length + s.length) * 32 ≤ 140737488355328) ∧
 K (([] : List (List UInt8 × List UInt8)) ++ s))))

def M_label_Sort (l : List (List UInt8 × List UInt8)) (K : (List (List UInt8 × List UInt8)) → Prop) : Prop :=
 (l.length ≤ maxLen →
 M_slices_Clone_label_Label_label_Label l (fun (out : List (List UInt8 × List UInt8)) =>
 M_slices_SortFunc_label_Label_label_Label_label_compare out (fun (ys : List (List UInt8 × List UInt8)) =>
 M_slices_Compact_label_Label_label_Label ys (fun (t2 : List (List UInt8 × List UInt8)) =>
 K t2))))

def M_smithylaw17_LabelSorts (l : List (List UInt8)) (K : Bool → Prop) : Prop :=
 (l.length ≤ maxLen →
 M_smithylaw17_first (fun (ok : Bool) =>
 (((!ok) = true → K false) ∧
 ((!ok) = false → M_smithyworld_Texts l (20 : Int) (100 : Int) (fun (t18 : Bool) =>
 ((((!t18) || (!ok)) = true → K ok) ∧
 (((!t18) || (!ok)) = false → Lp3 (fun (a : List (List UInt8 × List UInt8)) (texts : List (List UInt8)) (i : Int) kont1 => ((i < (l.length : Int) → ∃ J1 : (List (List UInt8 × List UInt8)) → (List (List UInt8)) → Prop, ((0 ≤ i ∧ i < (l.length : Nat)) ∧
 M_label_Parse (l.getD i.toNat []) ([] : List UInt8) (fun (t360_Pkg : List UInt8) (t360_Name : List UInt8) (t361 : Er) =>
 ((t361 = Er.ok → ((a.length + (([(t360_Pkg, t360_Name)] : List (List UInt8 × List UInt8))).length) * 32 ≤ 140737488355328) ∧
 M_label_Label_Text t360_Pkg t360_Name (fun (t47 : List UInt8) =>
 ((texts.length + (([t47] : List (List UInt8))).length) * 16 ≤ 140737488355328) ∧
 J1 (a ++ ([(t360_Pkg, t360_Name)] : List (List UInt8 × List UInt8))) (texts ++ ([t47] : List (List UInt8))))) ∧
 (¬ (t361 = Er.ok) → J1 a texts)))) ∧
 (∀ a2 : List (List UInt8 × List UInt8), ∀ texts2 : List (List UInt8), J1 a2 texts2 → (In .i64 (i + (1 : Int))) ∧
 kont1 a2 texts2 (i + (1 : Int)))) ∧
 (¬ (i < (l.length : Int)) → (In .i64 ((a.length : Int) - (1 : Int))) ∧
 Lp2 (fun (b : List (List UInt8 × List UInt8)) (i2 : Int) kont2 => (((0 : Int) ≤ i2 → (0 ≤ i2 ∧ i2 < (a.length : Nat)) ∧
 ((b.length + (([((a.getD i2.toNat ([], [])).1, (a.getD i2.toNat ([], [])).2)] : List (List UInt8 × List UInt8))).length) * 32 ≤ 140737488355328) ∧
 (In .i64 (i2 - (1 : Int))) ∧
 kont2 (b ++ ([((a.getD i2.toNat ([], [])).1, (a.getD i2.toNat ([], [])).2)] : List (List UInt8 × List UInt8))) (i2 - (1 : Int))) ∧
 (¬ ((0 : Int) ≤ i2) → M_label_Sort a (fun (p : List (List UInt8 × List UInt8)) =>
 M_label_Sort b (fun (q : List (List UInt8 × List UInt8)) =>
 ∃ J2 : Bool → Prop, ((((!decide ((p.length : Int) = (q.length : Int))) = true → J2 true) ∧
 ((!decide ((p.length : Int) = (q.length : Int))) = false → M_smithyref_SortedTexts texts (fun (t77 : List (List UInt8)) =>
 J2 (!decide ((p.length : Int) = (t77.length : Int))))))) ∧
 (∀ q2 : Bool, J2 q2 → ((q2 = true → K false) ∧
 (q2 = false → Lp1 (fun (i3 : Int) kont3 => ((i3 < (p.length : Int) → (0 ≤ i3 ∧ i3 < (p.length : Nat)) ∧
 M_label_Label_Text ((p.getD i3.toNat ([], [])).1) ((p.getD i3.toNat ([], [])).2) (fun (t91 : List UInt8) =>
 (0 ≤ i3 ∧ i3 < (q.length : Nat)) ∧
 M_label_Label_Text ((q.getD i3.toNat ([], [])).1) ((q.getD i3.toNat ([], [])).2) (fun (t96 : List UInt8) =>
 ∃ J3 : Bool → Prop, ((((!decide (t91 = t96)) = true → J3 true) ∧
 ((!decide (t91 = t96)) = false → (0 ≤ i3 ∧ i3 < (p.length : Nat)) ∧
 M_label_Label_Text ((p.getD i3.toNat ([], [])).1) ((p.getD i3.toNat ([], [])).2) (fun (t104 : List UInt8) =>
 M_smithyref_AmongTexts texts t104 (fun (t105 : Int) =>
 J3 (decide (t105 < (0 : Int)))))))) ∧
 (∀ q3 : Bool, J3 q3 → ∃ J4 : Bool → Prop, (((q3 = true → J4 true) ∧
 (q3 = false → (((decide ((0 : Int) < i3)) = true → (In .i64 (i3 - (1 : Int))) ∧
 (0 ≤ i3 - (1 : Int) ∧ i3 - (1 : Int) < (p.length : Nat)) ∧
 (0 ≤ i3 ∧ i3 < (p.length : Nat)) ∧
 M_label_Less ((p.getD ((i3 - (1 : Int)).toNat) ([], [])).1) ((p.getD ((i3 - (1 : Int)).toNat) ([], [])).2) ((p.getD i3.toNat ([], [])).1) ((p.getD i3.toNat ([], [])).2) (fun (t121 : Bool) =>
 J4 (!t121))) ∧
 ((decide ((0 : Int) < i3)) = false → J4 false))))) ∧
 (∀ q4 : Bool, J4 q4 → ((q4 = true → K false) ∧
 (q4 = false → (In .i64 (i3 + (1 : Int))) ∧
 kont3 (i3 + (1 : Int))))))))) ∧
 (¬ (i3 < (p.length : Int)) → K true))) (0 : Int))))))))) [] ((a.length : Int) - (1 : Int))))) [] [] (0 : Int))))))))

set_option maxHeartbeats 8000000 in
theorem W_smithylaw17_first {S : List Nat} {w : World} {K : Bool → Prop} (hG : GOK S w) (hS11 : 11 ∈ S) (hS100 : 100 ∈ S) (H : M_smithylaw17_first  K) : Fn Tryd.prog 11 ⟨[]⟩ w (fun v w' => w.grownBy w' none ∧ ∃ (r : Bool), v = .bool r ∧ K r) := by
  unfold M_smithylaw17_first at H
  refine Fn.enter (by kernel_rfl) Tryd.func11 rfl Tryd.ntmps11 rfl ?_
  refine WC.seq ?_
  refine WC.region ?_
  refine WL.y rfl (Yld.pure tab_ok rfl) ?_
  refine WL.nil (WX.then_normal ?_)
  refine WC.seq ?_
  refine WC.region ?_
  refine WL.call rfl rfl (W_label_Parse hG hS11 hS100 H) ?_
  rintro _ w1 ⟨hg1, t60_Pkg, t60_Name, v_t61, t61, rfl, ht61, H⟩
  have gr1 := hg1
  refine WL.y rfl (Yld.pure tab_ok rfl) ?_
  refine WL.y rfl (Yld.pure tab_ok rfl) ?_
  refine WL.y rfl (Yld.pure tab_ok rfl) ?_
  refine WL.alloc rfl zero27 (fun g1 w2 hB1 hg2 hl1 => ?_)
  have gr2 := gr_trans gr1 hg2
  have k1 := ht61.grown hg2
  refine WL.storeW (vs := [vs t60_Pkg, vs t60_Name]) tab_ok rfl rfl rfl (all1c rfl (all1c rfl all1n)) hB1 rfl rfl (fun w3 hB2 hg3 => ?_)
  have gr3 := gr_mod gr2 hg3 (Ge.le (Ge.box hl1) (size_le gr1))
  have k2 := ErrR.go k1 hG gr2 hg3 gr3 hB1 rfl
  refine WL.y rfl (Yld.pure tab_ok rfl) ?_
  refine WL.nil (WX.then_normal ?_)
  refine WC.seq ?_
  refine WC.region ?_
  refine WL.call rfl rfl (W_label_Parse (hG.grown gr3) hS11 hS100 H) ?_
  rintro _ w4 ⟨hg4, t100_Pkg, t100_Name, v_t101, t101, rfl, ht101, H⟩
  have gr4 := gr_trans gr3 hg4
  have k3 := k2.grown hg4
  have k4 := hB2.g0 hg4
  refine WL.y rfl (Yld.pure tab_ok rfl) ?_
  refine WL.y rfl (Yld.pure tab_ok rfl) ?_
  refine WL.y rfl (Yld.pure tab_ok rfl) ?_
  refine WL.alloc rfl zero27 (fun g2 w5 hB3 hg5 hl2 => ?_)
  have gr5 := gr_trans gr4 hg5
  have k5 := k3.grown hg5
  have k6 := k4.g0 hg5
  have k7 := ht101.grown hg5
  refine WL.storeW (vs := [vs t100_Pkg, vs t100_Name]) tab_ok rfl rfl rfl (all1c rfl (all1c rfl all1n)) hB3 rfl rfl (fun w6 hB4 hg6 => ?_)
  have gr6 := gr_mod gr5 hg6 (Ge.le (Ge.box hl2) (size_le gr4))
  have k8 := ErrR.go k5 hG gr5 hg6 gr6 hB3 rfl
  have k9 := k6.go hg6 (Dj.new k4.lt' (Ge.box hl2))
  have k10 := ErrR.go k7 hG gr5 hg6 gr6 hB3 rfl
  refine WL.y rfl (Yld.pure tab_ok rfl) ?_
  refine WL.nil (WX.then_normal ?_)
  refine WC.seq ?_
  refine WC.region ?_
  refine WL.y rfl (Yld.pure tab_ok rfl) ?_
  refine WL.y rfl (Yld.erreql Tryd.underlying29 k8 rfl) ?_
  refine WL.y rfl (Yld.pure tab_ok rfl) ?_
  refine WL.midF 3 (fun L' w' => ∃ q1 : Bool, L' = [(18, .bool q1), (1, .pointer (some ⟨g1, 0, none⟩)), (3, .pointer (some ⟨g2, 0, none⟩))] ∧ q1 = ((decide (t61 = Er.ok)) && (decide (t101 = Er.ok))) ∧ w6 = w') ?_ (fun hQ => ?_)
  · rintro _ _ ⟨q1, rfl, rfl, rfl⟩
    refine WL.y rfl (Yld.pure tab_ok rfl) ?_
    refine WL.midF 4 (fun L' w' => ∃ q2 : Bool, L' = [(23, .bool q2), (1, .pointer (some ⟨g1, 0, none⟩)), (3, .pointer (some ⟨g2, 0, none⟩))] ∧ q2 = (((decide (t61 = Er.ok)) && (decide (t101 = Er.ok))) && (decide (t60_Pkg = ([97, 47, 98] : List UInt8)))) ∧ w6 = w') ?_ (fun hQ => ?_)
    · rintro _ _ ⟨q2, rfl, rfl, rfl⟩
      refine WL.y rfl (Yld.pure tab_ok rfl) ?_
      refine WL.midF 4 (fun L' w' => ∃ q3 : Bool, L' = [(28, .bool q3), (3, .pointer (some ⟨g2, 0, none⟩))] ∧ q3 = ((((decide (t61 = Er.ok)) && (decide (t101 = Er.ok))) && (decide (t60_Pkg = ([97, 47, 98] : List UInt8)))) && (decide (t60_Name = ([98] : List UInt8)))) ∧ w6 = w') ?_ (fun hQ => ?_)
      · rintro _ _ ⟨q3, rfl, rfl, rfl⟩
        refine WL.y rfl (Yld.pure tab_ok rfl) ?_
        refine WL.midF 4 (fun L' w' => ∃ q4 : Bool, L' = [(33, .bool q4), (3, .pointer (some ⟨g2, 0, none⟩))] ∧ q4 = (((((decide (t61 = Er.ok)) && (decide (t101 = Er.ok))) && (decide (t60_Pkg = ([97, 47, 98] : List UInt8)))) && (decide (t60_Name = ([98] : List UInt8)))) && (decide (t100_Pkg = ([97] : List UInt8)))) ∧ w6 = w') ?_ (fun hQ => ?_)
        · rintro _ _ ⟨q4, rfl, rfl, rfl⟩
          refine WL.y rfl (Yld.pure tab_ok rfl) ?_
          refine WL.midF 4 (fun L' w' => ∃ q5 : Bool, L' = [(38, .bool q5)] ∧ q5 = ((((((decide (t61 = Er.ok)) && (decide (t101 = Er.ok))) && (decide (t60_Pkg = ([97, 47, 98] : List UInt8)))) && (decide (t60_Name = ([98] : List UInt8)))) && (decide (t100_Pkg = ([97] : List UInt8)))) && (decide (t100_Name = ([120] : List UInt8)))) ∧ w6 = w') ?_ (fun hQ => ?_)
          · rintro _ _ ⟨q5, rfl, rfl, rfl⟩
            refine WL.y rfl (Yld.pure tab_ok rfl) ?_
            refine WL.nil (WX.then_normal ?_)
            refine WC.ret ?_
            exact WX.ret1 rfl rfl ⟨gr6, (((((decide (t61 = Er.ok)) && (decide (t101 = Er.ok))) && (decide (t60_Pkg = ([97, 47, 98] : List UInt8)))) && (decide (t60_Name = ([98] : List UInt8)))) && (decide (t100_Pkg = ([97] : List UInt8)))) && (decide (t100_Name = ([120] : List UInt8))), rfl, H⟩
          · clear H
            rcases Bool.eq_false_or_eq_true (((((decide (t61 = Er.ok)) && (decide (t101 = Er.ok))) && (decide (t60_Pkg = ([97, 47, 98] : List UInt8)))) && (decide (t60_Name = ([98] : List UInt8)))) && (decide (t100_Pkg = ([97] : List UInt8)))) with b1 | b1
            · refine WL.gyes rfl rfl (okb b1) rfl (Yld.pure tab_ok rfl) ?_
              refine WL.gyes rfl rfl (okb b1) rfl (Yld.bload tab_ok hB4 rfl rfl rfl) ?_
              refine WL.gyes rfl rfl (okb b1) rfl (Yld.pure tab_ok rfl) ?_
              refine WL.y rfl (Yld.pickT (okb b1) rfl) ?_
              exact WL.weaken (by repeat (first | exact Sub.nil | refine Sub.cons rfl ?_)) (hQ _ _ ⟨decide (t100_Name = ([120] : List UInt8)), rfl, by rw [b1] <;> rfl, rfl⟩)
            · refine WL.gno rfl rfl (okb b1) rfl ?_
              refine WL.gno rfl rfl (okb b1) rfl ?_
              refine WL.gno rfl rfl (okb b1) rfl ?_
              refine WL.y rfl (Yld.pickF (okb b1) rfl) ?_
              exact WL.weaken (by repeat (first | exact Sub.nil | refine Sub.cons rfl ?_)) (hQ _ _ ⟨false, rfl, by rw [b1] <;> rfl, rfl⟩)
        · clear H
          rcases Bool.eq_false_or_eq_true ((((decide (t61 = Er.ok)) && (decide (t101 = Er.ok))) && (decide (t60_Pkg = ([97, 47, 98] : List UInt8)))) && (decide (t60_Name = ([98] : List UInt8)))) with b2 | b2
          · refine WL.gyes rfl rfl (okb b2) rfl (Yld.pure tab_ok rfl) ?_
            refine WL.gyes rfl rfl (okb b2) rfl (Yld.bload tab_ok hB4 rfl rfl rfl) ?_
            refine WL.gyes rfl rfl (okb b2) rfl (Yld.pure tab_ok rfl) ?_
            refine WL.y rfl (Yld.pickT (okb b2) rfl) ?_
            exact WL.weaken (by repeat (first | exact Sub.nil | refine Sub.cons rfl ?_)) (hQ _ _ ⟨decide (t100_Pkg = ([97] : List UInt8)), rfl, by rw [b2] <;> rfl, rfl⟩)
          · refine WL.gno rfl rfl (okb b2) rfl ?_
            refine WL.gno rfl rfl (okb b2) rfl ?_
            refine WL.gno rfl rfl (okb b2) rfl ?_
            refine WL.y rfl (Yld.pickF (okb b2) rfl) ?_
            exact WL.weaken (by repeat (first | exact Sub.nil | refine Sub.cons rfl ?_)) (hQ _ _ ⟨false, rfl, by rw [b2] <;> rfl, rfl⟩)
      · clear H
        rcases Bool.eq_false_or_eq_true (((decide (t61 = Er.ok)) && (decide (t101 = Er.ok))) && (decide (t60_Pkg = ([97, 47, 98] : List UInt8)))) with b3 | b3
        · refine WL.gyes rfl rfl (okb b3) rfl (Yld.pure tab_ok rfl) ?_
          refine WL.gyes rfl rfl (okb b3) rfl (Yld.bload tab_ok k9 rfl rfl rfl) ?_
          refine WL.gyes rfl rfl (okb b3) rfl (Yld.pure tab_ok rfl) ?_
          refine WL.y rfl (Yld.pickT (okb b3) rfl) ?_
          exact WL.weaken (by repeat (first | exact Sub.nil | refine Sub.cons rfl ?_)) (hQ _ _ ⟨decide (t60_Name = ([98] : List UInt8)), rfl, by rw [b3] <;> rfl, rfl⟩)
        · refine WL.gno rfl rfl (okb b3) rfl ?_
          refine WL.gno rfl rfl (okb b3) rfl ?_
          refine WL.gno rfl rfl (okb b3) rfl ?_
          refine WL.y rfl (Yld.pickF (okb b3) rfl) ?_
          exact WL.weaken (by repeat (first | exact Sub.nil | refine Sub.cons rfl ?_)) (hQ _ _ ⟨false, rfl, by rw [b3] <;> rfl, rfl⟩)
    · clear H
      rcases Bool.eq_false_or_eq_true ((decide (t61 = Er.ok)) && (decide (t101 = Er.ok))) with b4 | b4
      · refine WL.gyes rfl rfl (okb b4) rfl (Yld.pure tab_ok rfl) ?_
        refine WL.gyes rfl rfl (okb b4) rfl (Yld.bload tab_ok k9 rfl rfl rfl) ?_
        refine WL.gyes rfl rfl (okb b4) rfl (Yld.pure tab_ok rfl) ?_
        refine WL.y rfl (Yld.pickT (okb b4) rfl) ?_
        exact WL.weaken (by repeat (first | exact Sub.nil | refine Sub.cons rfl ?_)) (hQ _ _ ⟨decide (t60_Pkg = ([97, 47, 98] : List UInt8)), rfl, by rw [b4] <;> rfl, rfl⟩)
      · refine WL.gno rfl rfl (okb b4) rfl ?_
        refine WL.gno rfl rfl (okb b4) rfl ?_
        refine WL.gno rfl rfl (okb b4) rfl ?_
        refine WL.y rfl (Yld.pickF (okb b4) rfl) ?_
        exact WL.weaken (by repeat (first | exact Sub.nil | refine Sub.cons rfl ?_)) (hQ _ _ ⟨false, rfl, by rw [b4] <;> rfl, rfl⟩)
  · clear H
    rcases Bool.eq_false_or_eq_true (decide (t61 = Er.ok)) with b5 | b5
    · refine WL.gyes rfl rfl (okb b5) rfl (Yld.pure tab_ok rfl) ?_
      refine WL.gyes rfl rfl (okb b5) rfl (Yld.erreql Tryd.underlying29 k10 rfl) ?_
      refine WL.y rfl (Yld.pickT (okb b5) rfl) ?_
      exact WL.weaken (by repeat (first | exact Sub.nil | refine Sub.cons rfl ?_)) (hQ _ _ ⟨decide (t101 = Er.ok), rfl, by rw [b5] <;> rfl, rfl⟩)
    · refine WL.gno rfl rfl (okb b5) rfl ?_
      refine WL.gno rfl rfl (okb b5) rfl ?_
      refine WL.y rfl (Yld.pickF (okb b5) rfl) ?_
      exact WL.weaken (by repeat (first | exact Sub.nil | refine Sub.cons rfl ?_)) (hQ _ _ ⟨false, rfl, by rw [b5] <;> rfl, rfl⟩)

set_option maxHeartbeats 8000000 in
theorem W_slices_Clone_label_Label_label_Label {w : World} {s : List (List UInt8 × List UInt8)} {A_s : Option Addr} {c_s : Nat} {n_s : Nat} {K : (List (List UInt8 × List UInt8)) → Prop} (hs : RdK 2 enc27 w A_s c_s s) (hn_s : n_s = s.length) (H : M_slices_Clone_label_Label_label_Label s K) : Fn Tryd.prog 65 ⟨[.slice A_s n_s c_s]⟩ w (fun v w' => w.grownBy w' none ∧ ∃ (r : List (List UInt8 × List UInt8)), ∃ (A_r : Option Addr), ∃ (c_r : Nat), v = .slice A_r r.length c_r ∧ OwnK 2 enc27 w' w.heap.size 27 A_r c_r r ∧ K r) := by
  subst hn_s
  unfold M_slices_Clone_label_Label_label_Label at H
  refine Fn.enter (by kernel_rfl) Tryd.func65 rfl Tryd.ntmps65 rfl ?_
  replace H := H (Nat.le_trans hs.cap hs.max)
  refine WC.seq ?_
  refine WC.region ?_
  refine WL.y rfl (Yld.pure tab_ok rfl) ?_
  refine WL.nil (WX.then_normal ?_)
  refine WC.seq ?_
  refine WC.seq ?_
  refine WC.region ?_
  refine WL.y rfl (Yld.pure tab_ok rfl) ?_
  refine WL.y rfl (Yld.sleqnil Tryd.underlying25 rfl) ?_
  refine WL.nil (WX.then_normal ?_)
  refine WC.cond rfl (fun b1 => ?_) (fun b1 => ?_)
  · replace H := H.1 (hs.nil_of b1)
    refine WC.seq ?_
    refine WC.region ?_
    refine WL.y rfl (Yld.pure tab_ok rfl) ?_
    refine WL.nil (WX.then_normal ?_)
    refine WC.ret (WX.then_ret ?_)
    exact WX.ret1 rfl rfl ⟨(gr_refl _ _), [], none, 0, rfl, (OwnK.nil enc27_ok w w.heap.size 27), H⟩
  · replace H := H.2
    refine WC.skip (WX.then_normal ?_)
    refine WC.seq ?_
    refine WC.region ?_
    refine WL.litK (f := enc27) ([] : List (List UInt8 × List UInt8)) enc27_ok rfl ow25 rfl rfl rfl (fun g1 w1 hB1 hg1 hl1 => ?_)
    have hO1 : OwnK 2 enc27 w1 w.heap.size 27 (some ⟨g1, 0, none⟩) 0 ([] : List (List UInt8 × List UInt8)) := OwnK.ofBl enc27_ok hB1 (Nat.le_trans (Nat.le_refl _) hl1) (by simp [maxLen]) rfl
    have gr1 := hg1
    refine WL.y rfl (Yld.pure tab_ok rfl) ?_
    obtain ⟨h1, H⟩ := H
    refine WL.appendK rfl ow25 hO1 rfl rfl (hs.grown gr1) rfl rfl h1 (applen h1) (size_le gr1) (fun A_t2 c_t2 w2 hO2 hg2 hk1 => ?_)
    have gr2 := gr_mod gr1 hg2 hO1.ge'
    refine WL.y rfl (Yld.pure tab_ok rfl) ?_
    refine WL.nil (WX.then_normal ?_)
    refine WC.ret ?_
    exact WX.ret1 rfl rfl ⟨gr2, (([] : List (List UInt8 × List UInt8)) ++ s), A_t2, c_t2, rfl, hO2, H⟩

set_option maxHeartbeats 8000000 in
theorem W_label_Sort {w : World} {l : List (List UInt8 × List UInt8)} {A_l : Option Addr} {c_l : Nat} {n_l : Nat} {K : (List (List UInt8 × List UInt8)) → Prop} (hl : RdK 2 enc27 w A_l c_l l) (hn_l : n_l = l.length) (H : M_label_Sort l K) : Fn Tryd.prog 15 ⟨[.slice A_l n_l c_l]⟩ w (fun v w' => w.grownBy w' none ∧ ∃ (r : List (List UInt8 × List UInt8)), ∃ (A_r : Option Addr), ∃ (c_r : Nat), v = .slice A_r r.length c_r ∧ OwnK 2 enc27 w' w.heap.size 27 A_r c_r r ∧ K r) := by
  subst hn_l
  unfold M_label_Sort at H
  refine Fn.enter (by kernel_rfl) Tryd.func15 rfl Tryd.ntmps15 rfl ?_
  replace H := H (Nat.le_trans hl.cap hl.max)
  refine WC.seq ?_
  refine WC.region ?_
  refine WL.y rfl (Yld.pure tab_ok rfl) ?_
  refine WL.nil (WX.then_normal ?_)
  refine WC.seq ?_
  refine WC.region ?_
  refine WL.y rfl (Yld.pure tab_ok rfl) ?_
  refine WL.call rfl rfl (W_slices_Clone_label_Label_label_Label hl rfl H) ?_
  rintro _ w1 ⟨hg1, out, A_out, c_out, rfl, hout, H⟩
  have hb1 := hout.ge'
  have k1 := hout.base (fun g hg => Nat.le_trans (Nat.le_refl _) (hb1 g hg))
  have gr1 := hg1
  refine WL.y rfl (Yld.pure tab_ok rfl) ?_
  refine WL.nil (WX.then_normal ?_)
  refine WC.seq ?_
  refine WC.region ?_
  refine WL.y rfl (Yld.pure tab_ok rfl) ?_
  refine WL.call rfl rfl (W_slices_SortFunc_label_Label_label_Label_label_compare k1 rfl H) ?_
  rintro _ w2 ⟨ys, rfl, hO1, hg2, hl1, H⟩
  have gr2 := gr_mod gr1 hg2 k1.ge'
  refine WL.nil (WX.then_normal ?_)
  refine WC.seq ?_
  refine WC.region ?_
  refine WL.y rfl (Yld.pure tab_ok rfl) ?_
  refine WL.call rfl rfl (W_slices_Compact_label_Label_label_Label hO1 ((rfl : out.length = out.length).trans hl1.symm) H) ?_
  rintro _ w3 ⟨t2, rfl, hO2, hg3, H⟩
  have gr3 := gr_mod gr2 hg3 hO1.ge'
  refine WL.y rfl (Yld.pure tab_ok rfl) ?_
  refine WL.nil (WX.then_normal ?_)
  refine WC.ret ?_
  exact WX.ret1 rfl rfl ⟨gr3, t2, A_out, c_out, rfl, hO2, H⟩

set_option maxHeartbeats 8000000 in
theorem W_smithylaw17_LabelSorts {S : List Nat} {w : World} {l : List (List UInt8)} {A_l : Option Addr} {c_l : Nat} {n_l : Nat} {K : Bool → Prop} (hG : GOK S w) (hS11 : 11 ∈ S) (hS100 : 100 ∈ S) (hl : Rd vs w A_l c_l l) (hn_l : n_l = l.length) (H : M_smithylaw17_LabelSorts l K) : Fn Tryd.prog 3 ⟨[.slice A_l n_l c_l]⟩ w (fun v w' => w.grownBy w' none ∧ ∃ (r : Bool), v = .bool r ∧ K r) := by
  subst hn_l
  unfold M_smithylaw17_LabelSorts at H
  refine Fn.enter (by kernel_rfl) Tryd.func3 rfl Tryd.ntmps3 rfl ?_
  replace H := H (Nat.le_trans hl.cap hl.max)
  refine WC.seq ?_
  refine WC.region ?_
  refine WL.y rfl (Yld.pure tab_ok rfl) ?_
  refine WL.nil (WX.then_normal ?_)
  refine WC.seq ?_
  refine WC.region ?_
  refine WL.call rfl rfl (W_smithylaw17_first hG hS11 hS100 H) ?_
  rintro _ w1 ⟨hg1, ok, rfl, H⟩
  have gr1 := hg1
  refine WL.y rfl (Yld.pure tab_ok rfl) ?_
  refine WL.nil (WX.then_normal ?_)
  refine WC.seq ?_
  refine WC.seq ?_
  refine WC.region ?_
  refine WL.y rfl (Yld.pure tab_ok rfl) ?_
  refine WL.y rfl (Yld.pure tab_ok rfl) ?_
  refine WL.nil (WX.then_normal ?_)
  refine WC.cond rfl (fun b1 => ?_) (fun b1 => ?_)
  · replace H := H.1 (b1)
    refine WC.seq ?_
    refine WC.region ?_
    refine WL.y rfl (Yld.pure tab_ok rfl) ?_
    refine WL.nil (WX.then_normal ?_)
    refine WC.ret (WX.then_ret ?_)
    exact WX.ret1 rfl rfl ⟨gr1, false, rfl, H⟩
  · replace H := H.2 (b1)
    refine WC.skip (WX.then_normal ?_)
    refine WC.seq ?_
    refine WC.seq ?_
    refine WC.region ?_
    refine WL.y rfl (Yld.pure tab_ok rfl) ?_
    refine WL.call rfl rfl (W_smithyworld_Texts (hl.grown gr1) rfl H) ?_
    rintro _ _ ⟨rfl, t18, rfl, H⟩
    refine WL.y rfl (Yld.pure tab_ok rfl) ?_
    refine WL.y rfl (Yld.pure tab_ok rfl) ?_
    refine WL.midF 3 (fun L' w' => ∃ q1 : Bool, L' = [(23, .bool q1), (0, .slice A_l l.length c_l), (3, .bool ok)] ∧ q1 = ((!t18) || (!ok)) ∧ w1 = w') ?_ (fun hQ => ?_)
    · rintro _ _ ⟨q1, rfl, rfl, rfl⟩
      refine WL.nil (WX.then_normal ?_)
      refine WC.cond rfl (fun b2 => ?_) (fun b2 => ?_)
      · replace H := H.1 (b2)
        refine WC.seq ?_
        refine WC.region ?_
        refine WL.y rfl (Yld.pure tab_ok rfl) ?_
        refine WL.y rfl (Yld.pure tab_ok rfl) ?_
        refine WL.nil (WX.then_normal ?_)
        refine WC.ret (WX.then_ret ?_)
        exact WX.ret1 rfl rfl ⟨gr1, ok, rfl, H⟩
      · replace H := H.2 (b2)
        refine WC.skip (WX.then_normal ?_)
        refine WC.seq ?_
        refine WC.region ?_
        refine WL.y rfl (Yld.pure tab_ok rfl) ?_
        refine WL.y rfl (Yld.pure tab_ok rfl) ?_
        refine WL.nil (WX.then_normal ?_)
        refine WC.seq ?_
        refine WC.region ?_
        refine WL.y rfl (Yld.pure tab_ok rfl) ?_
        refine WL.nil (WX.then_normal ?_)
        refine WC.seq ?_
        refine WC.seq ?_
        refine WC.region ?_
        refine WL.y rfl (Yld.pure tab_ok rfl) ?_
        refine WL.nil (WX.then_normal ?_)
        refine WC.block ?_
        obtain ⟨I1, mu1, h0_1, HR1⟩ := H
        refine WC.loopF (fun n' L' w' => ∃ (a : List (List UInt8 × List UInt8)), ∃ (A_a : Option Addr), ∃ (c_a : Nat), ∃ (n_a : Nat), ∃ (texts : List (List UInt8)), ∃ (A_texts : Option Addr), ∃ (c_texts : Nat), ∃ (n_texts : Nat), ∃ (i : Int), n' = mu1 a texts i ∧ L' = [(0, .slice A_l l.length c_l), (4, .slice A_a n_a c_a), (5, .slice none 0 0), (6, .slice A_texts n_texts c_texts), (7, .int .i64 i)] ∧ I1 a texts i ∧ n_a = a.length ∧ n_texts = texts.length ∧ w.grownBy w' none ∧ OwnK 2 enc27 w' w.heap.size 27 A_a c_a a ∧ Own vs w' w.heap.size 9 A_texts c_texts texts ∧ Dj (blk A_a) (blk A_texts)) _ _ ⟨[], none, 0, 0, [], none, 0, 0, (0 : Int), rfl, rfl, h0_1, rfl, rfl, gr1, (OwnK.nil enc27_ok w1 w.heap.size 27), (Own.nil vs w1 w.heap.size 9), Dj.nl⟩ (by repeat (first | exact Sub.nil | refine Sub.cons rfl ?_)) ?_
        clear h0_1
        rintro _ _ w2 ⟨a, A_a, c_a, n_a, texts, A_texts, c_texts, n_texts, i, rfl, rfl, hI1, rfl, rfl, gr2, k1, k2, dj1⟩
        have H := HR1 a texts i hI1
        refine WC.seq ?_
        refine WC.seq ?_
        refine WC.region ?_
        refine WL.y rfl (Yld.pure tab_ok rfl) ?_
        refine WL.y rfl (Yld.pure tab_ok rfl) ?_
        refine WL.y rfl (Yld.pure tab_ok rfl) ?_
        refine WL.y rfl (Yld.pure tab_ok rfl) ?_
        refine WL.nil (WX.then_normal ?_)
        refine WC.cond rfl (fun b3 => ?_) (fun b3 => ?_)
        · replace H := H.1 (of_decide_eq_true b3)
          refine WC.skip (WX.then_normal ?_)
          refine WC.seq ?_
          obtain ⟨J1, H, hJ1⟩ := H
          refine WC.midF (fun L' w' => ∃ (a2 : List (List UInt8 × List UInt8)), ∃ (A_a2 : Option Addr), ∃ (c_a2 : Nat), ∃ (n_a2 : Nat), ∃ (texts2 : List (List UInt8)), ∃ (A_texts2 : Option Addr), ∃ (c_texts2 : Nat), ∃ (n_texts2 : Nat), L' = [(0, .slice A_l l.length c_l), (4, .slice A_a2 n_a2 c_a2), (5, .slice none 0 0), (6, .slice A_texts2 n_texts2 c_texts2), (7, .int .i64 i)] ∧ J1 a2 texts2 ∧ n_a2 = a2.length ∧ n_texts2 = texts2.length ∧ w.grownBy w' none ∧ OwnK 2 enc27 w' w.heap.size 27 A_a2 c_a2 a2 ∧ Own vs w' w.heap.size 9 A_texts2 c_texts2 texts2 ∧ Dj (blk A_a2) (blk A_texts2)) ?_ (fun hQ => ?_)
          · clear H
            rintro _ w3 ⟨a2, A_a2, c_a2, n_a2, texts2, A_texts2, c_texts2, n_texts2, rfl, H, rfl, rfl, gr3, k3, k4, dj2⟩
            replace H := hJ1 a2 texts2 H
            refine WX.then_normal ?_
            refine WC.region ?_
            refine WL.y rfl (Yld.pure tab_ok rfl) ?_
            obtain ⟨h1, H⟩ := H
            refine WL.y rfl (Yld.add rfl rfl h1) ?_
            refine WL.y rfl (Yld.pure tab_ok rfl) ?_
            refine WL.nil ?_
            exact WX.roundF _ ⟨a2, A_a2, c_a2, a2.length, texts2, A_texts2, c_texts2, texts2.length, i + (1 : Int), rfl, rfl, H.1, rfl, rfl, gr3, k3, k4, dj2⟩ (by repeat (first | exact Sub.nil | refine Sub.cons rfl ?_)) H.2
          · clear hJ1
            refine WC.block ?_
            refine WC.seq ?_
            refine WC.region ?_
            refine WL.y rfl (Yld.pure tab_ok rfl) ?_
            refine WL.y rfl (Yld.pure tab_ok rfl) ?_
            obtain ⟨h2, H⟩ := H
            refine WL.y rfl (Yld.iaddrW tab_ok (hl.grown gr2) rfl rfl rfl rfl h2.1 h2.2) ?_
            refine WL.y rfl (Yld.iload [] tab_ok (hl.grown gr2) rfl rfl (iltN h2 rfl)) ?_
            refine WL.call rfl rfl (W_label_Parse (hG.grown gr2) hS11 hS100 H) ?_
            rintro _ w4 ⟨hg2, t360_Pkg, t360_Name, v_t361, t361, rfl, ht361, H⟩
            have gr4 := gr_trans gr2 hg2
            have k5 := k1.grown hg2
            have k6 := k2.grown hg2
            refine WL.y rfl (Yld.pure tab_ok rfl) ?_
            refine WL.y rfl (Yld.pure tab_ok rfl) ?_
            refine WL.y rfl (Yld.pure tab_ok rfl) ?_
            refine WL.alloc rfl zero27 (fun g1 w5 hB1 hg3 hl1 => ?_)
            have gr5 := gr_trans gr4 hg3
            have k7 := k5.grown hg3
            have k8 := k6.grown hg3
            have k9 := ht361.grown hg3
            refine WL.storeW (vs := [vs t360_Pkg, vs t360_Name]) tab_ok rfl rfl rfl (all1c rfl (all1c rfl all1n)) hB1 rfl rfl (fun w6 hB2 hg4 => ?_)
            have gr6 := gr_mod gr5 hg4 (Ge.le (Ge.box hl1) (size_le gr4))
            have k10 := k7.go hg4 (Dj.new k5.lt' (Ge.box hl1))
            have k11 := k8.go hg4 (Dj.new k6.lt' (Ge.box hl1))
            have k12 := ErrR.go k9 hG gr5 hg4 gr6 hB1 rfl
            refine WL.y rfl (Yld.pure tab_ok rfl) ?_
            refine WL.nil (WX.then_normal ?_)
            refine WC.seq ?_
            refine WC.region ?_
            refine WL.y rfl (Yld.pure tab_ok rfl) ?_
            refine WL.y rfl (Yld.erreql Tryd.underlying29 k12 rfl) ?_
            refine WL.nil (WX.then_normal ?_)
            refine WC.cond rfl (fun b4 => ?_) (fun b4 => ?_)
            · replace H := H.1 (of_decide_eq_true b4)
              refine WC.seq ?_
              refine WC.region ?_
              refine WL.y rfl (Yld.pure tab_ok rfl) ?_
              refine WL.y rfl (Yld.bagg (vs := [vs t360_Pkg, vs t360_Name]) tab_ok hB2 rfl rfl rfl rfl) ?_
              refine WL.litK (f := enc27) ([(t360_Pkg, t360_Name)] : List (List UInt8 × List UInt8)) enc27_ok rfl ow25 rfl rfl rfl (fun g2 w7 hB3 hg5 hl2 => ?_)
              have hO1 : OwnK 2 enc27 w7 w.heap.size 27 (some ⟨g2, 0, none⟩) 1 ([(t360_Pkg, t360_Name)] : List (List UInt8 × List UInt8)) := OwnK.ofBl enc27_ok hB3 (Nat.le_trans (size_le gr6) hl2) (by simp [maxLen]) rfl
              have gr7 := gr_trans gr6 hg5
              have k13 := k10.grown hg5
              have k14 := k11.grown hg5
              have k15 := hB2.g0 hg5
              obtain ⟨h3, H⟩ := H
              refine WL.appendK rfl ow25 k13 rfl rfl hO1.rd rfl rfl h3 (applen h3) (size_le gr7) (fun A_a3 c_a3 w8 hO2 hg6 hk1 => ?_)
              have gr8 := gr_mod gr7 hg6 k13.ge'
              have k16 := k14.go hg6 dj1.symm
              have k17 := k15.go hg6 ((Dj.new k5.lt' (Ge.box hl1)).symm)
              refine WL.y rfl (Yld.pure tab_ok rfl) ?_
              refine WL.nil (WX.then_normal ?_)
              refine WC.region ?_
              refine WL.y rfl (Yld.pure tab_ok rfl) ?_
              refine WL.y rfl (Yld.bagg (vs := [vs t360_Pkg, vs t360_Name]) tab_ok k17 rfl rfl rfl rfl) ?_
              refine WL.call rfl rfl (W_label_Label_Text H) ?_
              rintro _ w9 ⟨hg7, t47, rfl, H⟩
              have gr9 := gr_trans gr8 hg7
              have k18 := k16.grown hg7
              have k19 := hO2.grown hg7
              refine WL.lit tab_ok rfl rfl rfl (all1c rfl all1n) rfl (by omega) (fun g3 w10 hB4 hg8 hl3 => ?_)
              have hO3 : Own vs w10 w.heap.size 9 (some ⟨g3, 0, none⟩) 1 ([t47] : List (List UInt8)) := Own.ofBl hB4 (Nat.le_trans (size_le gr9) hl3) (by simp [maxLen]) rfl
              have gr10 := gr_trans gr9 hg8
              have k20 := k18.grown hg8
              have k21 := k19.grown hg8
              obtain ⟨h4, H⟩ := H
              refine WL.append tab_ok rfl rfl One.s k20 rfl rfl hO3.rd rfl rfl h4 (applen h4) (size_le gr10) (fun A_texts3 c_texts3 w11 hO4 hg9 hk2 => ?_)
              have gr11 := gr_mod gr10 hg9 k20.ge'
              have k22 := k21.go hg9 (Dj.app dj1 k14.lt' hk1)
              refine WL.y rfl (Yld.pure tab_ok rfl) ?_
              refine WL.nil (WX.block_normal ?_)
              exact WX.weaken (by repeat (first | exact Sub.nil | refine Sub.cons rfl ?_)) (hQ _ _ ⟨a ++ ([(t360_Pkg, t360_Name)] : List (List UInt8 × List UInt8)), A_a3, c_a3, (a ++ ([(t360_Pkg, t360_Name)] : List (List UInt8 × List UInt8))).length, texts ++ ([t47] : List (List UInt8)), A_texts3, c_texts3, (texts ++ ([t47] : List (List UInt8))).length, rfl, H, rfl, rfl, gr11, k22, hO4, (Dj.app (Dj.app dj1 k14.lt' hk1).symm k21.lt' hk2).symm⟩)
            · replace H := H.2 (of_decide_eq_false b4)
              refine WC.skip (WX.block_normal ?_)
              exact WX.weaken (by repeat (first | exact Sub.nil | refine Sub.cons rfl ?_)) (hQ _ _ ⟨a, A_a, c_a, a.length, texts, A_texts, c_texts, texts.length, rfl, H, rfl, rfl, gr6, k10, k11, dj1⟩)
        · replace H := H.2 (of_decide_eq_false b3)
          refine WC.exit (WX.then_exit (WX.then_exit (WX.block_same (WX.then_normal ?_))))
          refine WC.seq ?_
          refine WC.seq ?_
          refine WC.region ?_
          refine WL.y rfl (Yld.pure tab_ok rfl) ?_
          refine WL.y rfl (Yld.pure tab_ok rfl) ?_
          obtain ⟨h5, H⟩ := H
          refine WL.y rfl (Yld.sub rfl rfl h5) ?_
          refine WL.y rfl (Yld.pure tab_ok rfl) ?_
          refine WL.nil (WX.then_normal ?_)
          refine WC.block ?_
          obtain ⟨I2, mu2, h0_2, HR2⟩ := H
          refine WC.loopF (fun n' L' w' => ∃ (b : List (List UInt8 × List UInt8)), ∃ (A_b : Option Addr), ∃ (c_b : Nat), ∃ (n_b : Nat), ∃ (i2 : Int), n' = mu2 b i2 ∧ L' = [(4, .slice A_a a.length c_a), (5, .slice A_b n_b c_b), (6, .slice A_texts texts.length c_texts), (10, .int .i64 i2)] ∧ I2 b i2 ∧ n_b = b.length ∧ w.grownBy w' none ∧ OwnK 2 enc27 w' w.heap.size 27 A_a c_a a ∧ Own vs w' w.heap.size 9 A_texts c_texts texts ∧ OwnK 2 enc27 w' w.heap.size 27 A_b c_b b ∧ Dj (blk A_a) (blk A_texts) ∧ Dj (blk A_a) (blk A_b) ∧ Dj (blk A_texts) (blk A_b)) _ _ ⟨[], none, 0, 0, (a.length : Int) - (1 : Int), rfl, rfl, h0_2, rfl, gr2, k1, k2, (OwnK.nil enc27_ok w2 w.heap.size 27), dj1, Dj.nr, Dj.nr⟩ (by repeat (first | exact Sub.nil | refine Sub.cons rfl ?_)) ?_
          clear h0_2
          rintro _ _ w12 ⟨b, A_b, c_b, n_b, i2, rfl, rfl, hI2, rfl, gr12, k23, k24, k25, dj3, dj4, dj5⟩
          have H := HR2 b i2 hI2
          refine WC.seq ?_
          refine WC.seq ?_
          refine WC.region ?_
          refine WL.y rfl (Yld.pure tab_ok rfl) ?_
          refine WL.y rfl (Yld.pure tab_ok rfl) ?_
          refine WL.nil (WX.then_normal ?_)
          refine WC.cond rfl (fun b5 => ?_) (fun b5 => ?_)
          · replace H := H.1 (of_decide_eq_true b5)
            refine WC.skip (WX.then_normal ?_)
            refine WC.seq ?_
            refine WC.block ?_
            refine WC.region ?_
            refine WL.y rfl (Yld.pure tab_ok rfl) ?_
            refine WL.y rfl (Yld.pure tab_ok rfl) ?_
            refine WL.y rfl (Yld.pure tab_ok rfl) ?_
            obtain ⟨h6, H⟩ := H
            refine WL.y rfl (Yld.iaddrK tab_ok k23.rd rfl rfl rfl rfl h6.1 h6.2) ?_
            refine WL.y rfl (Yld.iloadK ([], []) tab_ok k23.rd rfl rfl (iltN h6 rfl)) ?_
            refine WL.litK (f := enc27) ([((a.getD i2.toNat ([], [])).1, (a.getD i2.toNat ([], [])).2)] : List (List UInt8 × List UInt8)) enc27_ok rfl ow25 rfl rfl rfl (fun g4 w13 hB5 hg10 hl4 => ?_)
            have hO5 : OwnK 2 enc27 w13 w.heap.size 27 (some ⟨g4, 0, none⟩) 1 ([((a.getD i2.toNat ([], [])).1, (a.getD i2.toNat ([], [])).2)] : List (List UInt8 × List UInt8)) := OwnK.ofBl enc27_ok hB5 (Nat.le_trans (size_le gr12) hl4) (by simp [maxLen]) rfl
            have gr13 := gr_trans gr12 hg10
            have k26 := k23.grown hg10
            have k27 := k24.grown hg10
            have k28 := k25.grown hg10
            obtain ⟨h7, H⟩ := H
            refine WL.appendK rfl ow25 k28 rfl rfl hO5.rd rfl rfl h7 (applen h7) (size_le gr13) (fun A_b2 c_b2 w14 hO6 hg11 hk3 => ?_)
            have gr14 := gr_mod gr13 hg11 k28.ge'
            have k29 := k26.go hg11 dj4
            have k30 := k27.go hg11 dj5
            refine WL.y rfl (Yld.pure tab_ok rfl) ?_
            refine WL.nil (WX.block_normal (WX.then_normal ?_))
            refine WC.region ?_
            refine WL.y rfl (Yld.pure tab_ok rfl) ?_
            obtain ⟨h8, H⟩ := H
            refine WL.y rfl (Yld.sub rfl rfl h8) ?_
            refine WL.y rfl (Yld.pure tab_ok rfl) ?_
            refine WL.nil ?_
            exact WX.roundF _ ⟨b ++ ([((a.getD i2.toNat ([], [])).1, (a.getD i2.toNat ([], [])).2)] : List (List UInt8 × List UInt8)), A_b2, c_b2, (b ++ ([((a.getD i2.toNat ([], [])).1, (a.getD i2.toNat ([], [])).2)] : List (List UInt8 × List UInt8))).length, i2 - (1 : Int), rfl, rfl, H.1, rfl, gr14, k29, k30, hO6, dj3, (Dj.app dj4.symm k26.lt' hk3).symm, (Dj.app dj5.symm k27.lt' hk3).symm⟩ (by repeat (first | exact Sub.nil | refine Sub.cons rfl ?_)) H.2
          · replace H := H.2 (of_decide_eq_false b5)
            refine WC.exit (WX.then_exit (WX.then_exit (WX.block_same (WX.then_normal ?_))))
            refine WC.seq ?_
            refine WC.region ?_
            refine WL.y rfl (Yld.pure tab_ok rfl) ?_
            refine WL.call rfl rfl (W_label_Sort k23.rd rfl H) ?_
            rintro _ w15 ⟨hg12, p, A_p, c_p, rfl, hp, H⟩
            have hb1 := hp.ge'
            have k31 := hp.base (fun g hg => Nat.le_trans (size_le gr12) (hb1 g hg))
            have gr15 := gr_trans gr12 hg12
            have k32 := k24.grown hg12
            have k33 := k25.grown hg12
            refine WL.y rfl (Yld.pure tab_ok rfl) ?_
            refine WL.nil (WX.then_normal ?_)
            refine WC.seq ?_
            refine WC.region ?_
            refine WL.y rfl (Yld.pure tab_ok rfl) ?_
            refine WL.call rfl rfl (W_label_Sort k33.rd rfl H) ?_
            rintro _ w16 ⟨hg13, q, A_q, c_q, rfl, hq, H⟩
            have hb2 := hq.ge'
            have k34 := hq.base (fun g hg => Nat.le_trans (size_le gr15) (hb2 g hg))
            have gr16 := gr_trans gr15 hg13
            have k35 := k32.grown hg13
            have k36 := k31.grown hg13
            refine WL.y rfl (Yld.pure tab_ok rfl) ?_
            refine WL.nil (WX.then_normal ?_)
            refine WC.seq ?_
            refine WC.seq ?_
            refine WC.region ?_
            refine WL.y rfl (Yld.pure tab_ok rfl) ?_
            refine WL.y rfl (Yld.pure tab_ok rfl) ?_
            refine WL.y rfl (Yld.pure tab_ok rfl) ?_
            refine WL.y rfl (Yld.pure tab_ok rfl) ?_
            refine WL.y rfl (Yld.pure tab_ok rfl) ?_
            refine WL.y rfl (Yld.pure tab_ok rfl) ?_
            obtain ⟨J2, H, hJ2⟩ := H
            refine WL.midF 7 (fun L' w' => ∃ q2 : Bool, L' = [(80, .bool q2), (6, .slice A_texts texts.length c_texts), (11, .slice A_p p.length c_p), (12, .slice A_q q.length c_q)] ∧ J2 q2 ∧ w.grownBy w' none ∧ Own vs w' w.heap.size 9 A_texts c_texts texts ∧ OwnK 2 enc27 w' w.heap.size 27 A_p c_p p ∧ OwnK 2 enc27 w' w.heap.size 27 A_q c_q q) ?_ (fun hQ => ?_)
            · clear H
              rintro _ w17 ⟨q2, rfl, H, gr17, k37, k38, k39⟩
              replace H := hJ2 q2 H
              refine WL.nil (WX.then_normal ?_)
              refine WC.cond rfl (fun b6 => ?_) (fun b6 => ?_)
              · replace H := H.1 (b6)
                refine WC.seq ?_
                refine WC.region ?_
                refine WL.y rfl (Yld.pure tab_ok rfl) ?_
                refine WL.nil (WX.then_normal ?_)
                refine WC.ret (WX.then_ret ?_)
                exact WX.ret1 rfl rfl ⟨gr17, false, rfl, H⟩
              · replace H := H.2 (b6)
                refine WC.skip (WX.then_normal ?_)
                refine WC.seq ?_
                refine WC.seq ?_
                refine WC.region ?_
                refine WL.y rfl (Yld.pure tab_ok rfl) ?_
                refine WL.nil (WX.then_normal ?_)
                refine WC.block ?_
                obtain ⟨I3, mu3, h0_3, HR3⟩ := H
                refine WC.loopF (fun n' L' w' => ∃ (i3 : Int), n' = mu3 i3 ∧ L' = [(6, .slice A_texts texts.length c_texts), (11, .slice A_p p.length c_p), (12, .slice A_q q.length c_q), (13, .int .i64 i3)] ∧ I3 i3 ∧ w.grownBy w' none ∧ Own vs w' w.heap.size 9 A_texts c_texts texts ∧ OwnK 2 enc27 w' w.heap.size 27 A_p c_p p ∧ OwnK 2 enc27 w' w.heap.size 27 A_q c_q q ∧ Dj (blk A_texts) (blk A_p) ∧ Dj (blk A_texts) (blk A_q) ∧ Dj (blk A_p) (blk A_q)) _ _ ⟨(0 : Int), rfl, rfl, h0_3, gr17, k37, k38, k39, (Dj.new k24.lt' hb1), (Dj.new k32.lt' hb2), (Dj.new k31.lt' hb2)⟩ (by repeat (first | exact Sub.nil | refine Sub.cons rfl ?_)) ?_
                clear h0_3
                rintro _ _ w18 ⟨i3, rfl, rfl, hI3, gr18, k40, k41, k42, dj6, dj7, dj8⟩
                have H := HR3 i3 hI3
                refine WC.seq ?_
                refine WC.seq ?_
                refine WC.region ?_
                refine WL.y rfl (Yld.pure tab_ok rfl) ?_
                refine WL.y rfl (Yld.pure tab_ok rfl) ?_
                refine WL.y rfl (Yld.pure tab_ok rfl) ?_
                refine WL.y rfl (Yld.pure tab_ok rfl) ?_
                refine WL.nil (WX.then_normal ?_)
                refine WC.cond rfl (fun b7 => ?_) (fun b7 => ?_)
                · replace H := H.1 (of_decide_eq_true b7)
                  refine WC.skip (WX.then_normal ?_)
                  refine WC.seq ?_
                  refine WC.block ?_
                  refine WC.seq ?_
                  refine WC.chainF (fun k => !(Nat.beq k 4 || Nat.beq k 9 || Nat.beq k 17 || Nat.beq k 18 || Nat.beq k 34)) (LD [3, 8, 16, 29, 33] (fun w' => RdK 2 enc27 w' A_p c_p p ∧ RdK 2 enc27 w' A_q c_q q)) mixed (by kernel_rfl) (fun k w' h _ => ⟨(RdK.eqv h k41.rd), (RdK.eqv h k42.rd)⟩) ?_
                  refine WJ.y rfl rfl (fun w' hw' => Yld.pure tab_ok rfl) ?_
                  refine WJ.y rfl rfl (fun w' hw' => Yld.pure tab_ok rfl) ?_
                  obtain ⟨h9, H⟩ := H
                  refine WJ.y rfl rfl (fun w' hw' => Yld.iaddrK tab_ok k41.rd rfl rfl rfl rfl h9.1 h9.2) ?_
                  refine WJ.y rfl rfl (fun w' hw' => Yld.iloadK ([], []) tab_ok (hw' rfl).1 rfl rfl (iltN h9 rfl)) ?_
                  refine WJ.call rfl (wants_none) rfl rfl (W_label_Label_Text H) (fun v w' h w2 e => DD.keep (⟨(RdK.grown k41.rd (gr_eqv h.1 e)), (RdK.grown k42.rd (gr_eqv h.1 e))⟩)) ?_
                  rintro _ w19 ⟨hg14, t91, rfl, H⟩
                  have gr19 := gr_trans gr18 hg14
                  have k43 := k40.grown hg14
                  have k44 := k41.grown hg14
                  have k45 := k42.grown hg14
                  refine WJ.y rfl rfl (fun w' hw' => Yld.pure tab_ok rfl) ?_
                  refine WJ.y rfl rfl (fun w' hw' => Yld.pure tab_ok rfl) ?_
                  obtain ⟨h10, H⟩ := H
                  refine WJ.y rfl rfl (fun w' hw' => Yld.iaddrK tab_ok k45.rd rfl rfl rfl rfl h10.1 h10.2) ?_
                  refine WJ.y rfl rfl (fun w' hw' => Yld.iloadK ([], []) tab_ok (hw' rfl).2 rfl rfl (iltN h10 rfl)) ?_
                  refine WJ.call rfl (wants_none) rfl rfl (W_label_Label_Text H) (fun v w' h w2 e => DD.keep (⟨(RdK.grown k44.rd (gr_eqv h.1 e)), (RdK.grown k45.rd (gr_eqv h.1 e))⟩)) ?_
                  rintro _ w20 ⟨hg15, t96, rfl, H⟩
                  have gr20 := gr_trans gr19 hg15
                  have k46 := k43.grown hg15
                  have k47 := k44.grown hg15
                  have k48 := k45.grown hg15
                  refine WJ.y rfl rfl (fun w' hw' => Yld.pure tab_ok rfl) ?_
                  refine WJ.y rfl rfl (fun w' hw' => Yld.pure tab_ok rfl) ?_
                  obtain ⟨J3, H, hJ3⟩ := H
                  refine WJ.midF 9 (fun L' w' => ∃ q3 : Bool, L' = [(107, .bool q3), (6, .slice A_texts texts.length c_texts), (11, .slice A_p p.length c_p), (12, .slice A_q q.length c_q), (13, .int .i64 i3)] ∧ J3 q3 ∧ w.grownBy w' none ∧ Own vs w' w.heap.size 9 A_texts c_texts texts ∧ OwnK 2 enc27 w' w.heap.size 27 A_p c_p p ∧ OwnK 2 enc27 w' w.heap.size 27 A_q c_q q) ?_ (fun hQ => ?_)
                  · clear H
                    rintro _ w21 ⟨q3, rfl, H, gr21, k49, k50, k51⟩
                    replace H := hJ3 q3 H
                    refine WJ.y rfl rfl (fun w' hw' => Yld.pure tab_ok rfl) ?_
                    obtain ⟨J4, H, hJ4⟩ := H
                    refine WJ.midF 16 (fun L' w' => ∃ q4 : Bool, L' = [(124, .bool q4), (6, .slice A_texts texts.length c_texts), (11, .slice A_p p.length c_p), (12, .slice A_q q.length c_q), (13, .int .i64 i3)] ∧ J4 q4 ∧ w.grownBy w' none ∧ Own vs w' w.heap.size 9 A_texts c_texts texts ∧ OwnK 2 enc27 w' w.heap.size 27 A_p c_p p ∧ OwnK 2 enc27 w' w.heap.size 27 A_q c_q q) ?_ (fun hQ => ?_)
                    · clear H
                      rintro _ w22 ⟨q4, rfl, H, gr22, k52, k53, k54⟩
                      replace H := hJ4 q4 H
                      refine WJ.nil (WX.then_normal ?_)
                      refine WC.cond rfl (fun b8 => ?_) (fun b8 => ?_)
                      · replace H := H.1 (b8)
                        refine WC.seq ?_
                        refine WC.region ?_
                        refine WL.y rfl (Yld.pure tab_ok rfl) ?_
                        refine WL.nil (WX.then_normal ?_)
                        refine WC.ret (WX.block_ret (WX.then_ret (WX.then_ret (WX.block_ret (WX.then_ret ?_)))))
                        exact WX.ret1 rfl rfl ⟨gr22, false, rfl, H⟩
                      · replace H := H.2 (b8)
                        refine WC.skip (WX.block_normal (WX.then_normal ?_))
                        refine WC.region ?_
                        refine WL.y rfl (Yld.pure tab_ok rfl) ?_
                        obtain ⟨h11, H⟩ := H
                        refine WL.y rfl (Yld.add rfl rfl h11) ?_
                        refine WL.y rfl (Yld.pure tab_ok rfl) ?_
                        refine WL.nil ?_
                        exact WX.roundF _ ⟨i3 + (1 : Int), rfl, rfl, H.1, gr22, k52, k53, k54, dj6, dj7, dj8⟩ (by repeat (first | exact Sub.nil | refine Sub.cons rfl ?_)) H.2
                    · clear hJ4
                      rcases Bool.eq_false_or_eq_true (q3) with b9 | b9
                      · replace H := H.1 b9
                        refine WJ.no rfl rfl (okb b9) rfl ?_
                        refine WJ.no rfl rfl (okb b9) rfl ?_
                        refine WJ.no rfl rfl (okb b9) rfl ?_
                        refine WJ.gun rfl rfl rfl rfl ?_
                        refine WJ.gun rfl rfl rfl rfl ?_
                        refine WJ.gun rfl rfl rfl rfl ?_
                        refine WJ.gun rfl rfl rfl rfl ?_
                        refine WJ.gun rfl rfl rfl rfl ?_
                        refine WJ.gun rfl rfl rfl rfl ?_
                        refine WJ.gun rfl rfl rfl rfl ?_
                        refine WJ.gun rfl rfl rfl rfl ?_
                        refine WJ.gun rfl rfl rfl rfl ?_
                        refine WJ.gun rfl rfl rfl rfl ?_
                        refine WJ.gun rfl rfl rfl rfl ?_
                        refine WJ.no rfl rfl (okb b9) rfl ?_
                        refine WJ.y rfl rfl (fun w' hw' => Yld.pickT (okb b9) rfl) ?_
                        exact WJ.weaken (by repeat (first | exact Sub.nil | refine Sub.cons rfl ?_)) (hQ _ _ ⟨true, rfl, H, gr21, k49, k50, k51⟩)
                      · replace H := H.2 b9
                        refine WJ.yw rfl (wants_some rfl rfl (okb b9)) rfl (fun w' hw' => Yld.pure tab_ok rfl) ?_
                        refine WJ.yw rfl (wants_some rfl rfl (okb b9)) rfl (fun w' hw' => Yld.pure tab_ok rfl) ?_
                        refine WJ.yw rfl (wants_some rfl rfl (okb b9)) rfl (fun w' hw' => Yld.pure tab_ok rfl) ?_
                        rcases Bool.eq_false_or_eq_true (decide ((0 : Int) < i3)) with b10 | b10
                        · replace H := H.1 b10
                          refine WJ.yw rfl (wants_some rfl rfl (okb b10)) rfl (fun w' hw' => Yld.pure tab_ok rfl) ?_
                          refine WJ.yw rfl (wants_some rfl rfl (okb b10)) rfl (fun w' hw' => Yld.pure tab_ok rfl) ?_
                          obtain ⟨h12, H⟩ := H
                          refine WJ.yw rfl (wants_some rfl rfl (okb b10)) rfl (fun w' hw' => Yld.sub rfl rfl h12) ?_
                          obtain ⟨h13, H⟩ := H
                          refine WJ.yw rfl (wants_some rfl rfl (okb b10)) rfl (fun w' hw' => Yld.iaddrK tab_ok k50.rd rfl rfl rfl rfl h13.1 h13.2) ?_
                          refine WJ.yw rfl (wants_some rfl rfl (okb b10)) rfl (fun w' hw' => Yld.iloadK ([], []) tab_ok (hw' rfl).1 rfl rfl (iltN h13 rfl)) ?_
                          refine WJ.yw rfl (wants_some rfl rfl (okb b10)) rfl (fun w' hw' => Yld.pure tab_ok rfl) ?_
                          refine WJ.yw rfl (wants_some rfl rfl (okb b10)) rfl (fun w' hw' => Yld.pure tab_ok rfl) ?_
                          obtain ⟨h14, H⟩ := H
                          refine WJ.yw rfl (wants_some rfl rfl (okb b10)) rfl (fun w' hw' => Yld.iaddrK tab_ok k50.rd rfl rfl rfl rfl h14.1 h14.2) ?_
                          refine WJ.yw rfl (wants_some rfl rfl (okb b10)) rfl (fun w' hw' => Yld.iloadK ([], []) tab_ok (hw' rfl).1 rfl rfl (iltN h14 rfl)) ?_
                          refine WJ.call rfl (wants_some rfl rfl (okb b10)) rfl rfl (W_label_Less H) (fun v w' h w2 e => DD.keep (⟨(RdK.grown k50.rd (gr_eqv h.1 e)), (RdK.grown k51.rd (gr_eqv h.1 e))⟩)) ?_
                          rintro _ w23 ⟨hg16, t121, rfl, H⟩
                          have gr23 := gr_trans gr21 hg16
                          have k55 := k49.grown hg16
                          have k56 := k50.grown hg16
                          have k57 := k51.grown hg16
                          refine WJ.yw rfl (wants_some rfl rfl (okb b10)) rfl (fun w' hw' => Yld.pure tab_ok rfl) ?_
                          refine WJ.yw rfl (wants_some rfl rfl (okb b9)) rfl (fun w' hw' => Yld.pickT (okb b10) rfl) ?_
                          refine WJ.y rfl rfl (fun w' hw' => Yld.pickF (okb b9) rfl) ?_
                          exact WJ.weaken (by repeat (first | exact Sub.nil | refine Sub.cons rfl ?_)) (hQ _ _ ⟨!t121, rfl, H, gr23, k55, k56, k57⟩)
                        · replace H := H.2 b10
                          refine WJ.no rfl rfl (okb b10) rfl ?_
                          refine WJ.no rfl rfl (okb b10) rfl ?_
                          refine WJ.no rfl rfl (okb b10) rfl ?_
                          refine WJ.no rfl rfl (okb b10) rfl ?_
                          refine WJ.no rfl rfl (okb b10) rfl ?_
                          refine WJ.no rfl rfl (okb b10) rfl ?_
                          refine WJ.no rfl rfl (okb b10) rfl ?_
                          refine WJ.no rfl rfl (okb b10) rfl ?_
                          refine WJ.no rfl rfl (okb b10) rfl ?_
                          refine WJ.no rfl rfl (okb b10) rfl ?_
                          refine WJ.no rfl rfl (okb b10) rfl ?_
                          refine WJ.yw rfl (wants_some rfl rfl (okb b9)) rfl (fun w' hw' => Yld.pickF (okb b10) rfl) ?_
                          refine WJ.y rfl rfl (fun w' hw' => Yld.pickF (okb b9) rfl) ?_
                          exact WJ.weaken (by repeat (first | exact Sub.nil | refine Sub.cons rfl ?_)) (hQ _ _ ⟨false, rfl, H, gr21, k49, k50, k51⟩)
                  · clear hJ3
                    rcases Bool.eq_false_or_eq_true (!decide (t91 = t96)) with b11 | b11
                    · replace H := H.1 b11
                      refine WJ.no rfl rfl (okb b11) rfl ?_
                      refine WJ.no rfl rfl (okb b11) rfl ?_
                      refine WJ.no rfl rfl (okb b11) rfl ?_
                      refine WJ.no rfl rfl (okb b11) rfl ?_
                      refine WJ.no rfl rfl (okb b11) rfl ?_
                      refine WJ.no rfl rfl (okb b11) rfl ?_
                      refine WJ.no rfl rfl (okb b11) rfl ?_
                      refine WJ.no rfl rfl (okb b11) rfl ?_
                      refine WJ.y rfl rfl (fun w' hw' => Yld.pickT (okb b11) rfl) ?_
                      exact WJ.weaken (by repeat (first | exact Sub.nil | refine Sub.cons rfl ?_)) (hQ _ _ ⟨true, rfl, H, gr20, k46, k47, k48⟩)
                    · replace H := H.2 b11
                      refine WJ.yw rfl (wants_some rfl rfl (okb b11)) rfl (fun w' hw' => Yld.pure tab_ok rfl) ?_
                      refine WJ.yw rfl (wants_some rfl rfl (okb b11)) rfl (fun w' hw' => Yld.pure tab_ok rfl) ?_
                      refine WJ.yw rfl (wants_some rfl rfl (okb b11)) rfl (fun w' hw' => Yld.pure tab_ok rfl) ?_
                      obtain ⟨h15, H⟩ := H
                      refine WJ.yw rfl (wants_some rfl rfl (okb b11)) rfl (fun w' hw' => Yld.iaddrK tab_ok k47.rd rfl rfl rfl rfl h15.1 h15.2) ?_
                      refine WJ.yw rfl (wants_some rfl rfl (okb b11)) rfl (fun w' hw' => Yld.iloadK ([], []) tab_ok (hw' rfl).1 rfl rfl (iltN h15 rfl)) ?_
                      refine WJ.call rfl (wants_some rfl rfl (okb b11)) rfl rfl (W_label_Label_Text H) (fun v w' h w2 e => DD.keep (⟨(RdK.grown k47.rd (gr_eqv h.1 e)), (RdK.grown k48.rd (gr_eqv h.1 e))⟩)) ?_
                      rintro _ w24 ⟨hg17, t104, rfl, H⟩
                      have gr24 := gr_trans gr20 hg17
                      have k58 := k46.grown hg17
                      have k59 := k47.grown hg17
                      have k60 := k48.grown hg17
                      refine WJ.call rfl (wants_some rfl rfl (okb b11)) rfl rfl (W_smithyref_AmongTexts k58.rd rfl H) (fun v w' h w2 e => DD.keep (⟨(RdK.eqv (eqvL h.1 e) k59.rd), (RdK.eqv (eqvL h.1 e) k60.rd)⟩)) ?_
                      rintro _ _ ⟨rfl, t105, rfl, H⟩
                      refine WJ.yw rfl (wants_some rfl rfl (okb b11)) rfl (fun w' hw' => Yld.pure tab_ok rfl) ?_
                      refine WJ.y rfl rfl (fun w' hw' => Yld.pickF (okb b11) rfl) ?_
                      exact WJ.weaken (by repeat (first | exact Sub.nil | refine Sub.cons rfl ?_)) (hQ _ _ ⟨decide (t105 < (0 : Int)), rfl, H, gr24, k58, k59, k60⟩)
                · replace H := H.2 (of_decide_eq_false b7)
                  refine WC.exit (WX.then_exit (WX.then_exit (WX.block_same (WX.then_normal ?_))))
                  refine WC.seq ?_
                  refine WC.region ?_
                  refine WL.y rfl (Yld.pure tab_ok rfl) ?_
                  refine WL.nil (WX.then_normal ?_)
                  refine WC.ret ?_
                  exact WX.ret1 rfl rfl ⟨gr18, true, rfl, H⟩
            · clear hJ2
              rcases Bool.eq_false_or_eq_true (!decide ((p.length : Int) = (q.length : Int))) with b12 | b12
              · replace H := H.1 b12
                refine WL.gno rfl rfl (okb b12) rfl ?_
                refine WL.gno rfl rfl (okb b12) rfl ?_
                refine WL.gno rfl rfl (okb b12) rfl ?_
                refine WL.gno rfl rfl (okb b12) rfl ?_
                refine WL.gno rfl rfl (okb b12) rfl ?_
                refine WL.gno rfl rfl (okb b12) rfl ?_
                refine WL.y rfl (Yld.pickT (okb b12) rfl) ?_
                exact WL.weaken (by repeat (first | exact Sub.nil | refine Sub.cons rfl ?_)) (hQ _ _ ⟨true, rfl, H, gr16, k35, k36, k34⟩)
              · replace H := H.2 b12
                refine WL.gyes rfl rfl (okb b12) rfl (Yld.pure tab_ok rfl) ?_
                refine WL.gyes rfl rfl (okb b12) rfl (Yld.pure tab_ok rfl) ?_
                refine WL.gyes rfl rfl (okb b12) rfl (Yld.pure tab_ok rfl) ?_
                refine WL.callw (wants_some rfl rfl (okb b12)) rfl rfl (W_smithyref_SortedTexts k35.rd rfl H) ?_
                rintro _ w25 ⟨hg18, t77, A_t77, c_t77, rfl, ht77, H⟩
                have hb3 := ht77.ge'
                have k61 := ht77.base (fun g hg => Nat.le_trans (size_le gr16) (hb3 g hg))
                have gr25 := gr_trans gr16 hg18
                have k62 := k35.grown hg18
                have k63 := k36.grown hg18
                have k64 := k34.grown hg18
                refine WL.gyes rfl rfl (okb b12) rfl (Yld.pure tab_ok rfl) ?_
                refine WL.gyes rfl rfl (okb b12) rfl (Yld.pure tab_ok rfl) ?_
                refine WL.y rfl (Yld.pickF (okb b12) rfl) ?_
                exact WL.weaken (by repeat (first | exact Sub.nil | refine Sub.cons rfl ?_)) (hQ _ _ ⟨!decide ((p.length : Int) = (t77.length : Int)), rfl, H, gr25, k62, k63, k64⟩)
    · clear H
      rcases Bool.eq_false_or_eq_true (!t18) with b13 | b13
      · refine WL.gno rfl rfl (okb b13) rfl ?_
        refine WL.gno rfl rfl (okb b13) rfl ?_
        refine WL.y rfl (Yld.pickT (okb b13) rfl) ?_
        exact WL.weaken (by repeat (first | exact Sub.nil | refine Sub.cons rfl ?_)) (hQ _ _ ⟨true, rfl, by rw [b13] <;> rfl, rfl⟩)
      · refine WL.gyes rfl rfl (okb b13) rfl (Yld.pure tab_ok rfl) ?_
        refine WL.gyes rfl rfl (okb b13) rfl (Yld.pure tab_ok rfl) ?_
        refine WL.y rfl (Yld.pickF (okb b13) rfl) ?_
        exact WL.weaken (by repeat (first | exact Sub.nil | refine Sub.cons rfl ?_)) (hQ _ _ ⟨!ok, rfl, by rw [b13] <;> rfl, rfl⟩)

end Go.Proofs.YtlonpmajnglmoaaDoor

 /- Printed by a program (wip/vg): what the functions mean, plainly, and their walks. -/
namespace Go.Proofs.YtlonpmajnglmoaaDoor
open Go Go.RowKit
attribute [local irreducible] WL WC WX WQ WK WJ Yld Eff Ef0 Fn
end Go.Proofs.YtlonpmajnglmoaaDoor

 /- smithysee.sentinel: the number of one of api's variables. -/
namespace Go.Proofs.YtlonpmajnglmoaaDoor
open Go Go.RowKit
attribute [local irreducible] WL WC WX WQ WK WJ Yld Eff Ef0 Fn
end Go.Proofs.YtlonpmajnglmoaaDoor


 /- Printed by a program (wip/vg): what the functions mean, plainly, and their walks. -/
namespace Go.Proofs.YtlonpmajnglmoaaDoor
open Go Go.RowKit
attribute [local irreducible] WL WC WX WQ WK WJ Yld Eff Ef0 Fn
end Go.Proofs.YtlonpmajnglmoaaDoor

 /- smithysee.Is, plainly. -/
namespace Go.Proofs.YtlonpmajnglmoaaDoor
open Go Go.RowKit
end Go.Proofs.YtlonpmajnglmoaaDoor


 /- The chapter's own words for paths (smithyref1), and PathSays. -/
namespace Go.Proofs.YtlonpmajnglmoaaDoor
open Go Go.RowKit
theorem last_uniq {o : List UInt8} {r s : Int} (hr : LastIs o 47 r) (hs : LastIs o 47 s) : r = s := by
  rcases hr with ⟨rfl, h1⟩ | ⟨i, rfl, hi, hc, hno⟩
  · rcases hs with ⟨rfl, _⟩ | ⟨j, rfl, hj, hd, _⟩
    · rfl
    · exact absurd hd (h1 j hj)
  · rcases hs with ⟨rfl, h1⟩ | ⟨j, rfl, hj, hd, hno'⟩
    · exact absurd hc (h1 i hi)
    · rcases Nat.lt_trichotomy i j with h2 | h2 | h2
      · exact absurd hd (hno j h2 hj)
      · rw [h2]
      · exact absurd hc (hno' i h2 hi)
end Go.Proofs.YtlonpmajnglmoaaDoor


 /- Labels: the plain side; LabelBack. -/
namespace Go.Proofs.YtlonpmajnglmoaaDoor
open Go Go.RowKit
theorem letB_colon : letB 58 = false := by decide
theorem valid_colon {p : List UInt8} (h : validB p = true) : (58 : UInt8) ∉ p := fun hm => by
  have h2 := (valid_parts h)
  rw [← glue_cuts p] at hm
  have : ∀ l : List (List UInt8), (58 : UInt8) ∈ glue l → ∃ x ∈ l, (58 : UInt8) ∈ x := by
    intro l
    induction l with
    | nil => intro h; simp [glue] at h
    | cons x l ih =>
      intro h
      cases l with
      | nil => simp only [glue] at h; exact ⟨x, by simp, by simpa using h⟩
      | cons y l =>
        simp only [glue, List.mem_append, List.mem_cons] at h
        rcases h with h | h | h
        · exact ⟨x, by simp, h⟩
        · cases h
        · obtain ⟨z, hz, hz2⟩ := ih h
          exact ⟨z, by simp at hz ⊢; exact .inr hz, hz2⟩
  obtain ⟨x, hx, hx2⟩ := this _ hm
  have hf := h2 x hx
  unfold fairB at hf
  rw [Bool.and_eq_true, List.all_eq_true] at hf
  have := hf.1 58 hx2
  rw [letB_colon] at this
  cases this
theorem root_colon {p : List UInt8} (h : rootB p = true) : (58 : UInt8) ∉ p := by
  unfold rootB at h
  rw [Bool.or_eq_true, decide_eq_true_eq] at h
  rcases h with rfl | h
  · simp
  · exact valid_colon h
theorem validR_M {p : List UInt8} {K : Bool → Prop} (hp : p.length ≤ 100000) (h : K (!rootB p)) : ∃ J1 : Bool → Prop, ((((!decide (p = ([] : List UInt8))) = true → M_path_Valid p (fun (t18 : Bool) => J1 (!t18))) ∧ ((!decide (p = ([] : List UInt8))) = false → J1 false))) ∧ (∀ q1 : Bool, J1 q1 → K q1) := by
  refine ⟨fun b => b = !rootB p, ⟨fun hn => valid_M (by omega) ?_, fun hn => ?_⟩, fun q hq => by rw [hq]; exact h⟩
  · show _ = _
    have : decide (p = []) = false := by simpa using hn
    rw [rootB, this, Bool.false_or]
  · show false = _
    have : decide (p = []) = true := by simpa using hn
    rw [rootB, this]; rfl
/-- what Parse goes on with, once it has a package and a name -/
theorem parseEnd_M {p n : List UInt8} {K : List UInt8 → List UInt8 → Er → Prop} (hp : p.length ≤ 100000) (hn : n.length ≤ 100000) (h0 : K [] [] (.e 11)) (h1 : rootB p = true → validB n = true → K p n .ok) :
    ∃ J3 : Bool → Prop, ((((!decide (p = ([] : List UInt8))) = true → M_path_Valid p (fun (t61 : Bool) => J3 (!t61))) ∧ ((!decide (p = ([] : List UInt8))) = false → J3 false))) ∧
      (∀ q2 : Bool, J3 q2 → ∃ J4 : Bool → Prop, (((q2 = true → J4 true) ∧ (q2 = false → M_path_Valid n (fun (t67 : Bool) => J4 (!t67))))) ∧ (∀ q3 : Bool, J4 q3 → ((q3 = true → K ([] : List UInt8) ([] : List UInt8) (Er.e 11)) ∧ (q3 = false → K p n Er.ok)))) := by
  refine validR_M hp ⟨fun b => b = (!rootB p || !validB n), ⟨fun ht => by rw [ht]; rfl, fun hf => valid_M (by omega) (by rw [hf]; rfl)⟩, fun q hq => ⟨fun _ => h0, fun hf => ?_⟩⟩
  rw [hq, Bool.or_eq_false_iff] at hf
  exact h1 (by simpa using hf.1) (by simpa using hf.2)
/-- whatever is parsed: it is none, or a package and a name that may be -/
theorem parse_M {s pkg : List UInt8} {K : List UInt8 → List UInt8 → Er → Prop} (hs : s.length ≤ 10000) (hp : pkg.length ≤ 10000) (h0 : K [] [] (.e 11)) (h1 : ∀ P N, rootB pkg = true → rootB P = true → validB N = true → P.length ≤ 10000 → N.length ≤ 10000 → K P N .ok) : M_label_Parse s pkg K := by
  refine validR_M (by omega) ⟨fun _ => h0, fun hok => ?_⟩
  have hroot : rootB pkg = true := by simpa using hok
  have fin : ∀ P N : List UInt8, P.length ≤ 10000 ∧ N.length ≤ 10000 → _ := fun P N h => parseEnd_M (K := K) (p := P) (n := N) (by omega) (by omega) h0 (fun a b => h1 P N hroot a b h.1 h.2)
  refine ⟨fun P N => P.length ≤ 10000 ∧ N.length ≤ 10000, cutPrefix_M ⟨fun hc => ?_, fun hc => ?_⟩, fun P N hPN => fin P N hPN⟩
  · rw [if_pos hc]
    have hl : (s.drop ([47, 47] : List UInt8).length).length ≤ 10000 := by simp; omega
    generalize s.drop ([47, 47] : List UInt8).length = t at *
    refine base_M (by omega) fun r _ => cut_M (by omega) ⟨fun hb => ?_, fun hb => ⟨hl, by simp; omega⟩⟩
    unfold Lib.cut
    split
    · exact ⟨by simp; omega, by simp; omega⟩
    · exact ⟨hl, by simp⟩
  · refine cutPrefix_M ⟨fun hc2 => ?_, fun hc2 => ?_⟩
    · rw [if_pos hc2]; exact ⟨hp, by simp; omega⟩
    · exact ⟨hp, hs⟩
/-- a name behind a colon -/
theorem parseColon_M {P N : List UInt8} {K : List UInt8 → List UInt8 → Er → Prop} (hP : P.length ≤ 10000) (hN : N.length ≤ 10000) (hr : rootB P = true) (hv : validB N = true) (h1 : K P N .ok) : M_label_Parse ([58] ++ N) P K := by
  refine validR_M (by omega) ⟨fun hb => by rw [hr] at hb; simp at hb, fun _ => ?_⟩
  refine ⟨fun a b => a = P ∧ b = N, cutPrefix_M ⟨fun hc => ?_, fun hc => ?_⟩, ?_⟩
  · simp [List.isPrefixOf] at hc
  · refine cutPrefix_M ⟨fun hc2 => ?_, fun hc2 => ?_⟩
    · rw [if_pos hc2]; exact ⟨rfl, by simp⟩
    · simp [List.isPrefixOf] at hc2
  · rintro _ _ ⟨rfl, rfl⟩
    refine validR_M (by omega) ?_
    rw [hr]
    refine ⟨fun b => b = false, ⟨fun h => by simp at h, fun _ => valid_M (by omega) (by rw [hv]; rfl)⟩, fun q hq => ⟨fun h => by rw [hq] at h; exact absurd h (by simp), fun _ => h1⟩⟩
theorem ltext_M {P N : List UInt8} {K : List UInt8 → Prop} (hP : P.length ≤ 10000) (hN : N.length ≤ 10000) (h : K ([47, 47] ++ P ++ [58] ++ N)) : M_label_Label_Text P N K :=
  ⟨by simp only [List.length_cons, List.length_nil]; omega, by simp only [List.length_append, List.length_cons, List.length_nil]; omega, by simp only [List.length_append, List.length_cons, List.length_nil]; omega, h⟩
theorem lfirst_M {K : Bool → Prop} (h : K true) : M_smithylaw17_first K := by
  have hroot : rootB ([120] : List UInt8) = true := by decide +kernel
  refine validR_M (by simp) ⟨fun hb => by rw [hroot] at hb; simp at hb, fun _ => ?_⟩
  have hpre : ([47, 47] : List UInt8).isPrefixOf ([47, 47, 97, 47, 98] : List UInt8) = true := by decide
  refine ⟨fun a b => a = [97, 47, 98] ∧ b = [98], cutPrefix_M ⟨fun _ => ?_, fun hc => by rw [hpre] at hc; cases hc⟩, ?_⟩
  · rw [if_pos hpre]
    have hcut : (Lib.cut ([97, 47, 98] : List UInt8) [58]).2.2 = false := by decide +kernel
    refine base_M (p := [97, 47, 98]) (by simp) fun r hr => cut_M (s := [97, 47, 98]) (by simp) ⟨fun hb => ?_, fun _ => ⟨rfl, ?_⟩⟩
    · rw [hcut] at hb; cases hb
    · have h1 : LastIs ([97, 47, 98] : List UInt8) 47 1 := .inr ⟨1, rfl, by decide, by decide, fun j h1 h2 => by
        simp only [List.length_cons, List.length_nil] at h2
        obtain rfl : j = 2 := by omega
        decide⟩
      rw [last_uniq hr h1]; rfl
  · rintro _ _ ⟨rfl, rfl⟩
    have hr : rootB ([97, 47, 98] : List UInt8) = true := by decide +kernel
    have hv : validB ([98] : List UInt8) = true := by decide +kernel
    refine validR_M (by simp) ?_
    rw [hr]
    refine ⟨fun b => b = false, ⟨fun h => by simp at h, fun _ => valid_M (by simp) (by rw [hv]; rfl)⟩, fun q hq => ⟨fun h => by rw [hq] at h; exact absurd h (by simp), fun _ => ?_⟩⟩
    refine parseColon_M (P := [97]) (N := [120]) (by simp) (by simp) (by decide +kernel) (by decide +kernel) ?_
    simpa using h
end Go.Proofs.YtlonpmajnglmoaaDoor


 /- Texts in order, each once: plain, no program. -/
namespace Go.Proofs.YtlonpmajnglmoaaDoor
open Go
abbrev Bs := List UInt8
theorem bs_lt_or (a b : Bs) : a < b ∨ a = b ∨ b < a := by
  by_cases h : a < b
  · exact .inl h
  · by_cases k : b < a
    · exact .inr (.inr k)
    · exact .inr (.inl (List.le_antisymm (List.not_lt.1 k) (List.not_lt.1 h)))
theorem bs_lt_of {a b : Bs} (h : a ≤ b) (hne : a ≠ b) : a < b := by
  rcases bs_lt_or a b with h1 | h1 | h1
  · exact h1
  · exact absurd h1 hne
  · exact absurd h1 (List.not_lt.2 h)
theorem bs_le_lt {a b c : Bs} (h : a ≤ b) (k : b < c) : a < c := by
  by_cases e : a = b
  · rw [e]; exact k
  · exact List.lt_trans (bs_lt_of h e) k
def Strict (l : List Bs) : Prop := l.Pairwise (· < ·)
theorem Strict.nodup {l : List Bs} (h : Strict l) : l.Nodup := List.Pairwise.imp (fun {a b} (hab : a < b) (e : a = b) => List.lt_irrefl b (e ▸ hab)) h
theorem strict_uniq : ∀ {a b : List Bs}, Strict a → Strict b → (∀ x, x ∈ a ↔ x ∈ b) → a = b
  | [], [], _, _, _ => rfl
  | [], y :: b, _, _, h => by have := (h y).2 (by simp); simp at this
  | x :: a, [], _, _, h => by have := (h x).1 (by simp); simp at this
  | x :: a, y :: b, ha, hb, h => by
    have ha' := List.pairwise_cons.1 ha
    have hb' := List.pairwise_cons.1 hb
    have hxy : x = y := by
      rcases List.mem_cons.1 ((h x).1 (by simp)) with e | hx
      · exact e
      · rcases List.mem_cons.1 ((h y).2 (by simp)) with e | hy
        · exact e.symm
        · exact absurd (ha'.1 y hy) (List.lt_asymm (hb'.1 x hx))
    subst hxy
    rw [strict_uniq ha'.2 hb'.2 (fun z => ?_)]
    constructor
    · intro hz
      rcases List.mem_cons.1 ((h z).1 (by simp [hz])) with e | hz'
      · subst e; exact absurd (ha'.1 z hz) (List.lt_irrefl z)
      · exact hz'
    · intro hz
      rcases List.mem_cons.1 ((h z).2 (by simp [hz])) with e | hz'
      · subst e; exact absurd (hb'.1 z hz) (List.lt_irrefl z)
      · exact hz'
def sortB (l : List Bs) : List Bs := l.mergeSort fun x y => decide (x ≤ y)
theorem sortB_le (l : List Bs) : (sortB l).Pairwise (· ≤ ·) := by
  have h := List.pairwise_mergeSort (le := fun (x y : Bs) => decide (x ≤ y)) (fun a b c h k => by
    simp only [decide_eq_true_eq] at h k ⊢
    exact List.le_trans h k) (fun a b => by
    simp only [Bool.or_eq_true, decide_eq_true_eq]
    exact List.le_total a b) l
  exact h.imp fun h => by simpa using h
theorem sortB_mem (l : List Bs) (x : Bs) : x ∈ sortB l ↔ x ∈ l := (List.mergeSort_perm l _).mem_iff
theorem compactUpTo_strict {ys : List Bs} (h : ys.Pairwise (· ≤ ·)) : ∀ m, m ≤ ys.length → Strict (Lib.compactUpTo ys.toArray m) ∧ ∀ x, x ∈ Lib.compactUpTo ys.toArray m ↔ x ∈ ys.take m
  | 0, _ => ⟨List.Pairwise.nil, fun x => by simp [Lib.compactUpTo]⟩
  | m + 1, hm => by
    obtain ⟨h1, h2⟩ := compactUpTo_strict h m (by omega)
    have hget : ∀ i, i < ys.length → ys.toArray[i]! = ys.getD i [] := fun i hi => by simp [List.getD, hi]
    have hlast : ys.take (m + 1) = ys.take m ++ [ys.getD m []] := by rw [List.take_succ_eq_append_getElem (by omega)]; simp [List.getD, show m < ys.length by omega]
    rw [Lib.compactUpTo_succ, hlast, hget m (by omega)]
    cases hk : Lib.keeps ys.toArray m with
    | true =>
      simp only [if_true]
      refine ⟨List.pairwise_append.2 ⟨h1, List.pairwise_singleton _ _, fun x hx y hy => ?_⟩, fun x => by rw [List.mem_append, List.mem_append, h2]⟩
      simp only [List.mem_singleton] at hy
      subst hy
      have hx' := (h2 x).1 hx
      obtain ⟨i, hi, he⟩ := List.getElem_of_mem hx'
      simp only [List.length_take] at hi
      simp only [List.getElem_take] at he
      have hpw := List.pairwise_iff_getElem.1 h
      have h0 : m ≠ 0 := by omega
      simp only [Lib.keeps, h0, false_or, decide_eq_true_eq, ne_eq] at hk
      rw [hget m (by omega), hget (m - 1) (by omega)] at hk
      have hle : x ≤ ys.getD (m - 1) [] := by
        have e1 : ys.getD (m - 1) [] = ys[m - 1]'(by omega) := by simp [List.getD, show m - 1 < ys.length by omega]
        rw [e1, ← he]
        by_cases e : i = m - 1
        · subst e; exact List.le_refl _
        · exact hpw i (m - 1) (by omega) (by omega) (by omega)
      refine bs_le_lt hle (bs_lt_of ?_ (fun e => hk e.symm))
      have e1 : ys.getD (m - 1) [] = ys[m - 1]'(by omega) := by simp [List.getD, show m - 1 < ys.length by omega]
      have e2 : ys.getD m [] = ys[m]'(by omega) := by simp [List.getD, show m < ys.length by omega]
      rw [e1, e2]
      exact hpw (m - 1) m (by omega) (by omega) (by omega)
    | false =>
      simp only [Bool.false_eq_true, if_false, List.append_nil]
      refine ⟨h1, fun x => ?_⟩
      rw [h2, List.mem_append]
      refine ⟨.inl, fun hx => hx.elim id fun hx => ?_⟩
      simp only [List.mem_singleton] at hx
      subst hx
      simp only [Lib.keeps, decide_eq_false_iff_not, not_or, ne_eq, Classical.not_not] at hk
      have h0 : m ≠ 0 := hk.1
      have he := hk.2
      rw [hget m (by omega), hget (m - 1) (by omega)] at he
      rw [he]
      have : ys.getD (m - 1) [] = (ys.take m)[m - 1]'(by simp; omega) := by simp [List.getD, show m - 1 < ys.length by omega]
      rw [this]
      exact List.getElem_mem _
/-- sorted, each once -/
def sortU (l : List Bs) : List Bs := Lib.compact (sortB l)
theorem sortU_strict (l : List Bs) : Strict (sortU l) := (compactUpTo_strict (sortB_le l) _ (Nat.le_refl _)).1
theorem sortU_mem (l : List Bs) (x : Bs) : x ∈ sortU l ↔ x ∈ l := by
  have := (compactUpTo_strict (sortB_le l) _ (Nat.le_refl _)).2 x
  rw [List.take_length, sortB_mem] at this
  exact this
theorem sortU_of {a l : List Bs} (h : Strict a) (k : ∀ x, x ∈ a ↔ x ∈ l) : a = sortU l := strict_uniq h (sortU_strict l) fun x => (k x).trans (sortU_mem l x).symm
theorem compactUpTo_len {α : Type} [Inhabited α] [DecidableEq α] (d : Array α) (m : Nat) : (Lib.compactUpTo d m).length ≤ m := by
  unfold Lib.compactUpTo
  rw [List.length_map]
  exact Nat.le_trans (List.length_filter_le _ _) (by simp)
/-- laid in where it belongs -/
theorem strict_insert {out : List Bs} {x : Bs} {k : Nat} (h : Strict out) (hk : k ≤ out.length) (h1 : ∀ j, j < k → out.getD j [] < x) (h2 : k < out.length → x < out.getD k []) : Strict (out.take k ++ ([x] ++ out.drop k)) := by
  have hp := List.pairwise_iff_getElem.1 h
  refine List.pairwise_append.2 ⟨List.Pairwise.take h, List.pairwise_append.2 ⟨List.pairwise_singleton _ _, List.Pairwise.drop h, fun a ha b hb => ?_⟩, fun a ha b hb => ?_⟩
  · simp only [List.mem_singleton] at ha
    subst ha
    obtain ⟨i, hi, rfl⟩ := List.getElem_of_mem hb
    simp only [List.length_drop] at hi
    rw [List.getElem_drop]
    have hk' : k < out.length := by omega
    have e : out.getD k [] = out[k] := by simp [List.getD, hk']
    have h3 := h2 hk'
    rw [e] at h3
    by_cases h0 : i = 0
    · subst h0; exact h3
    · exact List.lt_trans h3 (hp k (k + i) hk' (by omega) (by omega))
  · obtain ⟨i, hi, rfl⟩ := List.getElem_of_mem ha
    simp only [List.length_take] at hi
    rw [List.getElem_take]
    have h3 : out[i]'(by omega) < x := by
      have := h1 i (by omega)
      rwa [show out.getD i [] = out[i]'(by omega) by simp [List.getD, show i < out.length by omega]] at this
    rcases List.mem_append.1 hb with hb | hb
    · simp only [List.mem_singleton] at hb
      subst hb; exact h3
    · obtain ⟨j, hj, rfl⟩ := List.getElem_of_mem hb
      simp only [List.length_drop] at hj
      rw [List.getElem_drop]
      exact hp i (k + j) (by omega) (by omega) (by omega)
end Go.Proofs.YtlonpmajnglmoaaDoor


 /- Globs: the plain side. -/
namespace Go.Proofs.YtlonpmajnglmoaaDoor
open Go Go.RowKit
theorem amongTexts_M {l : List Bs} {s : Bs} {K : Int → Prop} (hl : l.length ≤ 1000000000) (h0 : s ∉ l → K (-1)) (h1 : ∀ i : Int, 0 ≤ i → s ∈ l → K i) : M_smithyref_AmongTexts l s K := by
  intro _
  refine ⟨fun i => 0 ≤ i ∧ i ≤ l.length ∧ ∀ j, j < i.toNat → l.getD j [] ≠ s, fun i => l.length - i.toNat, ⟨by omega, by omega, by intro j hj; simp at hj⟩, fun i ⟨a0, a1, a2⟩ => ⟨fun hlt => ⟨by omega, fun he => ?_, fun hne => ⟨by simp only [In]; omega, ⟨by omega, by omega, fun j hj => ?_⟩, by (try dsimp only); omega⟩⟩, fun hge => ?_⟩⟩
  · refine h1 i a0 ?_
    rw [← he]
    exact getD_mem (by omega)
  · by_cases e : j = i.toNat
    · rw [e]; exact hne
    · exact a2 j (by omega)
  · refine h0 fun hm => ?_
    obtain ⟨j, hj, he⟩ := List.getElem_of_mem hm
    refine a2 j (by omega) ?_
    simp [List.getD, hj, he]
theorem bytesLess_lt (a b : Bs) : Op.bytesLess a b = decide (a < b) := bytesLess_eq a b
theorem sortedTexts_M {l : List Bs} {K : List Bs → Prop} (hl : l.length ≤ 1000000) (h : K (sortU l)) : M_smithyref_SortedTexts l K := by
  intro _
  refine ⟨fun out i => 0 ≤ i ∧ i ≤ l.length ∧ Strict out ∧ (∀ x, x ∈ out ↔ x ∈ l.take i.toNat) ∧ out.length ≤ i.toNat, fun _ i => l.length - i.toNat, ⟨by omega, by omega, List.Pairwise.nil, by simp, by simp⟩, fun out i ⟨a0, a1, a2, a3, a4⟩ => ⟨fun hlt => ?_, fun hge => ?_⟩⟩
  · generalize hx : l.getD i.toNat [] = x
    have htk : ∀ y, y ∈ l.take (i + 1).toNat ↔ y ∈ l.take i.toNat ∨ y = x := fun y => by
      rw [show (i + 1).toNat = i.toNat + 1 by omega, List.take_succ_eq_append_getElem (by omega), List.mem_append, List.mem_singleton, ← hx]
      simp [List.getD, show i.toNat < l.length by omega]
    refine ⟨fun o => Strict o ∧ (∀ y, y ∈ o ↔ y ∈ l.take (i + 1).toNat) ∧ o.length ≤ i.toNat + 1, ?_, fun o ⟨h1, h2, h3⟩ => ⟨by simp only [In]; omega, ⟨by omega, by omega, h1, h2, by omega⟩, by (try dsimp only); omega⟩⟩
    refine ⟨fun k => 0 ≤ k ∧ k ≤ out.length ∧ ∀ j, j < k.toNat → out.getD j [] < x, fun k => out.length - k.toNat, ⟨by omega, by omega, by intro j hj; simp at hj⟩, fun k ⟨b0, b1, b2⟩ => ⟨fun hd => ?_, fun hd => ?_, fun hc => ?_, fun hc => ⟨fun hd => ?_, fun hd => ?_, fun he => ?_, fun he => ?_⟩⟩⟩
    · simp only [decide_eq_true_eq] at hd; omega
    · omega
    · rw [Bool.and_eq_true, bytesLess_lt, decide_eq_true_eq, decide_eq_true_eq] at hc
      refine ⟨by simp only [In]; omega, ⟨by omega, by omega, fun j hj => ?_⟩, by (try dsimp only); omega⟩
      by_cases e : j = k.toNat
      · rw [e]; exact hc.2
      · exact b2 j (by omega)
    · simp only [decide_eq_true_eq] at hd; omega
    · omega
    · rw [Bool.and_eq_true, decide_eq_true_eq, decide_eq_true_eq] at he
      refine ⟨a2, fun y => ?_, by omega⟩
      rw [htk, a3]
      refine ⟨.inl, fun h => h.elim id fun h => ?_⟩
      rw [h, ← a3, ← he.2]
      exact getD_mem (by omega)
    · have hlen : (out.take k.toNat).length = k.toNat := by simp; omega
      refine ⟨by simp only [In]; omega, by omega, by omega, ?_, by omega, ?_, by omega, ?_, ?_⟩
      · simp only [List.length_nil, hlen]; omega
      · simp only [List.nil_append, List.length_cons, List.length_nil, hlen]; omega
      · simp only [List.nil_append, List.length_append, List.length_cons, List.length_nil, List.length_drop, hlen]; omega
      · rw [List.nil_append, List.append_assoc]
        refine ⟨strict_insert a2 (by omega) b2 fun hk => ?_, fun y => ?_, ?_⟩
        · have hk' : k < out.length := by omega
          rw [bytesLess_lt, decide_eq_true hk', Bool.true_and, decide_eq_false_iff_not] at hc
          rw [decide_eq_true hk', Bool.true_and, decide_eq_false_iff_not] at he
          rcases bs_lt_or (out.getD k.toNat []) x with h1 | h1 | h1
          · exact absurd h1 hc
          · exact absurd h1 he
          · exact h1
        · rw [htk, ← a3, List.mem_append, List.mem_append, List.mem_singleton]
          conv => rhs; lhs; rw [← List.take_append_drop k.toNat out, List.mem_append]
          constructor
          · rintro (h | h | h)
            · exact .inl (.inl h)
            · exact .inr h
            · exact .inl (.inr h)
          · rintro ((h | h) | h)
            · exact .inl h
            · exact .inr (.inr h)
            · exact .inr (.inl h)
        · simp only [List.length_append, List.length_cons, List.length_nil, List.length_drop, hlen]; omega
  · have e : i.toNat = l.length := by omega
    rw [e, List.take_length] at a3
    rw [sortU_of a2 a3]
    exact h
end Go.Proofs.YtlonpmajnglmoaaDoor


 /- LabelSorts, plainly. -/
namespace Go.Proofs.YtlonpmajnglmoaaDoor
open Go Go.RowKit
theorem cmpOr2 {x y : Int} {K : Int → Prop} (h : K (if x = 0 then y else x)) : M_cmp_Or_int [x, y] K := by
  intro _
  refine ⟨fun i => 0 ≤ i ∧ i ≤ 2 ∧ (0 < i → x = 0) ∧ (1 < i → y = 0), fun i => 2 - i.toNat, ⟨by omega, by omega, by omega, by omega⟩, fun i ⟨a0, a1, a2, a3⟩ => ⟨fun hlt => ⟨⟨a0, hlt⟩, fun hne => ?_, fun he => ?_⟩, fun hge => ?_⟩⟩
  · have hl : i < 2 := by simpa using hlt
    by_cases e : i = 0
    · subst e
      have hx : x ≠ 0 := hne
      rw [if_neg hx] at h
      exact h
    · obtain rfl : i = 1 := by omega
      rw [if_pos (a2 (by omega))] at h
      exact h
  · have hl : i < 2 := by simpa using hlt
    refine ⟨by simp only [In]; omega, ⟨by omega, by omega, ?_, ?_⟩, by (try dsimp only); omega⟩
    · intro _
      by_cases e : i = 0
      · subst e; exact he
      · exact a2 (by omega)
    · intro h1
      obtain rfl : i = 1 := by omega
      exact he
  · have hl : ¬ i < 2 := by simpa using hge
    obtain rfl : i = 2 := by omega
    rw [if_pos (a2 (by omega)), a3 (by omega)] at h
    exact h
theorem less_M {x y : LL} {K : Bool → Prop} (h : K (ltLL x y)) : M_label_Less x.1 x.2 y.1 y.2 K := cmpOr2 h
theorem lsort_M {l : List LL} {K : List LL → Prop} (hl : l.length ≤ 1000000) (h : K (uniqG ltLL l)) : M_label_Sort l K := by
  intro _ _
  refine ⟨fun e => ?_, by simp; omega, ?_⟩
  · subst e
    exact ⟨by simp, h⟩
  · rw [List.nil_append]
    exact ⟨by omega, h⟩
def textLL (x : LL) : List UInt8 := [47, 47] ++ x.1 ++ [58] ++ x.2
theorem sep_inj : ∀ {a b c d : List UInt8}, (58 : UInt8) ∉ a → (58 : UInt8) ∉ b → a ++ 58 :: c = b ++ 58 :: d → a = b ∧ c = d
  | [], [], _, _, _, _, h => by simpa using h
  | [], y :: b, _, _, _, hb, h => by
    simp only [List.nil_append, List.cons_append, List.cons.injEq] at h
    exact absurd (by rw [← h.1]; simp) hb
  | x :: a, [], _, _, ha, _, h => by
    simp only [List.nil_append, List.cons_append, List.cons.injEq] at h
    exact absurd (by rw [h.1]; simp) ha
  | x :: a, y :: b, c, d, ha, hb, h => by
    simp only [List.cons_append, List.cons.injEq] at h
    have := sep_inj (a := a) (b := b) (fun k => ha (List.mem_cons_of_mem _ k)) (fun k => hb (List.mem_cons_of_mem _ k)) h.2
    exact ⟨by rw [h.1, this.1], this.2⟩
theorem textLL_inj {x y : LL} (hx : rootB x.1 = true) (hy : rootB y.1 = true) (h : textLL x = textLL y) : x = y := by
  unfold textLL at h
  simp only [List.append_assoc, List.cons_append, List.nil_append, List.cons.injEq, true_and] at h
  have := sep_inj (root_colon hx) (root_colon hy) h
  exact Prod.ext this.1 this.2
def GoodLL (x : LL) : Prop := rootB x.1 = true ∧ x.1.length ≤ 10000 ∧ x.2.length ≤ 10000
theorem texts_uniq {a : List LL} (h : ∀ x ∈ a, GoodLL x) : (uniqG ltLL a).length = (sortU (a.map textLL)).length := by
  have hm := uniqG_mem ltLL_T a
  have h1 : ((uniqG ltLL a).map textLL).Nodup := by
    have hn := (uniqG_strict ltLL_T a).nodup ltLL_T
    rw [List.nodup_iff_pairwise_ne, List.pairwise_map]
    rw [List.nodup_iff_pairwise_ne] at hn
    exact hn.imp_of_mem fun {x y} hx hy hne e => hne (textLL_inj (h x ((hm x).1 hx)).1 (h y ((hm y).1 hy)).1 e)
  have h2 : ((uniqG ltLL a).map textLL).Perm (sortU (a.map textLL)) := (List.perm_ext_iff_of_nodup h1 (sortU_strict _).nodup).2 fun t => by
    rw [sortU_mem, List.mem_map, List.mem_map]
    exact ⟨fun ⟨x, hx, e⟩ => ⟨x, (hm x).1 hx, e⟩, fun ⟨x, hx, e⟩ => ⟨x, (hm x).2 hx, e⟩⟩
  rw [← h2.length_eq, List.length_map]
theorem lsorts_ok {l : List (List UInt8)} {K : Bool → Prop} (_ : ∀ x ∈ l, x.length ≤ maxLen) (H : K true) : M_smithylaw17_LabelSorts l K := by
  intro _
  refine lfirst_M ⟨fun h => by simp at h, fun _ => ?_⟩
  refine vtexts_M ⟨fun _ => H, fun h => by simp at h⟩ (fun hl20 _ hlen => ⟨fun h => by simp at h, fun _ => ?_⟩) (by omega)
  refine ⟨fun a texts i => 0 ≤ i ∧ i ≤ l.length ∧ a.length ≤ i.toNat ∧ texts = a.map textLL ∧ ∀ x ∈ a, GoodLL x, fun _ _ i => l.length - i.toNat, ⟨by omega, by omega, by simp, rfl, by simp⟩, fun a texts i ⟨a0, a1, a2, a3, a4⟩ => ⟨fun hlt => ?_, fun hge => ?_⟩⟩
  · have hmem : l.getD i.toNat [] ∈ l := getD_mem (by omega)
    have h100 := hlen _ hmem
    refine ⟨fun a' texts' => a'.length ≤ i.toNat + 1 ∧ texts' = a'.map textLL ∧ ∀ x ∈ a', GoodLL x, ⟨⟨a0, hlt⟩, ?_⟩, fun a' texts' ⟨b1, b2, b3⟩ => ⟨by simp only [In]; omega, ⟨by omega, by omega, by omega, b2, b3⟩, by (try dsimp only); omega⟩⟩
    refine parse_M (by omega) (by simp) ⟨fun h => (by cases h), fun _ => ⟨by omega, a3, a4⟩⟩ (fun P N _ hr hv lP lN => ⟨fun _ => ⟨by simp; omega, ltext_M lP lN ⟨by rw [a3]; simp; omega, ?_, ?_, ?_⟩⟩, fun h => absurd rfl h⟩)
    · simp; omega
    · rw [a3, List.map_append]; rfl
    · intro x hx
      rcases List.mem_append.1 hx with hx | hx
      · exact a4 x hx
      · simp only [List.mem_cons, List.not_mem_nil, or_false] at hx
        subst hx
        exact ⟨hr, lP, lN⟩
  · refine ⟨by simp only [In]; omega, fun b i2 => -1 ≤ i2 ∧ i2 < a.length ∧ (∀ x, x ∈ b ↔ x ∈ a.drop (i2 + 1).toNat) ∧ b.length + (i2 + 1).toNat ≤ a.length, fun _ i2 => (i2 + 1).toNat, ⟨by omega, by omega, ?_, by simp⟩, fun b i2 ⟨b0, b1, b2, b3⟩ => ⟨fun hge2 => ?_, fun hlt2 => ?_⟩⟩
    · intro x
      rw [show ((a.length : Int) - 1 + 1).toNat = a.length by omega]
      simp
    · have hi : i2.toNat < a.length := by omega
      refine ⟨⟨hge2, by omega⟩, by simp; omega, by simp only [In]; omega, ⟨by omega, by omega, fun x => ?_, by simp; omega⟩, by (try dsimp only); omega⟩
      rw [List.mem_append, b2, show (i2 - 1 + 1).toNat = i2.toNat by omega, show (i2 + 1).toNat = i2.toNat + 1 by omega, List.drop_eq_getElem_cons hi, List.mem_cons]
      have e : a.getD i2.toNat ([], []) = a[i2.toNat] := by simp [List.getD, hi]
      rw [e]
      simp only [List.mem_cons, List.not_mem_nil, or_false]
      exact or_comm
    · obtain rfl : i2 = -1 := by omega
      have hab : uniqG ltLL b = uniqG ltLL a := uniqG_congr ltLL_T fun x => by rw [b2]; simp
      refine lsort_M (by omega) (lsort_M (by omega) ?_)
      rw [hab]
      have hm := uniqG_mem ltLL_T a
      have hst := uniqG_strict ltLL_T a
      have hu := texts_uniq a4
      have hpl : (uniqG ltLL a).length ≤ a.length := by
        have h1 := compactUpTo_len (sortG ltLL a).toArray (sortG ltLL a).length
        rw [sortG_length] at h1
        unfold uniqG Lib.compact
        rw [sortG_length]
        exact h1
      rw [← a3] at hu
      generalize uniqG ltLL a = p at hm hst hu hpl ⊢
      refine ⟨fun r => r = false, ⟨fun h => by simp at h, fun _ => sortedTexts_M (by rw [a3]; simp; omega) (by rw [hu]; simp)⟩, fun q2 hq2 => ⟨fun h => (by rw [hq2] at h; cases h), fun _ => ?_⟩⟩
      refine ⟨fun i3 => 0 ≤ i3 ∧ i3 ≤ p.length, fun i3 => p.length - i3.toNat, ⟨by omega, by omega⟩, fun i3 ⟨c0, c1⟩ => ⟨fun h3 => ?_, fun _ => H⟩⟩
      have hi : i3.toNat < p.length := by omega
      have e : p.getD i3.toNat ([], []) = p[i3.toNat] := by simp [List.getD, hi]
      have hmem : p[i3.toNat] ∈ a := (hm _).1 (List.getElem_mem hi)
      have hg := a4 _ hmem
      rw [e]
      generalize hx : p[i3.toNat] = x at hmem hg ⊢
      refine ⟨⟨c0, h3⟩, ltext_M hg.2.1 hg.2.2 ⟨⟨c0, h3⟩, ltext_M hg.2.1 hg.2.2 ?_⟩⟩
      refine ⟨fun r => r = false, ⟨fun h => by simp at h, fun _ => ⟨⟨c0, h3⟩, ltext_M hg.2.1 hg.2.2 (amongTexts_M (by rw [a3]; simp; omega) (fun hn => absurd ?_ hn) (fun j hj _ => by simp; omega))⟩⟩, fun q3 hq3 => ?_⟩
      · rw [a3]
        exact List.mem_map.2 ⟨x, hmem, rfl⟩
      · subst hq3
        refine ⟨fun r => r = false, ⟨fun h => (by cases h), fun _ => ⟨fun hpos => ?_, fun _ => rfl⟩⟩, fun q4 hq4 => ⟨fun h => (by rw [hq4] at h; cases h), fun _ => ⟨by simp only [In]; omega, ⟨by omega, by omega⟩, by (try dsimp only); omega⟩⟩⟩
        have hpos' : 0 < i3 := of_decide_eq_true hpos
        have hj : (i3 - 1).toNat < p.length := by omega
        have ej : p.getD (i3 - 1).toNat ([], []) = p[(i3 - 1).toNat] := by rw [List.getD, List.getElem?_eq_getElem hj]; rfl
        refine ⟨by simp only [In]; omega, ⟨by omega, by omega⟩, ⟨c0, h3⟩, ?_⟩
        rw [ej, ← hx]
        refine less_M ?_
        have := List.pairwise_iff_getElem.1 hst (i3 - 1).toNat i3.toNat hj hi (by omega)
        rw [this]
        rfl
end Go.Proofs.YtlonpmajnglmoaaDoor


 