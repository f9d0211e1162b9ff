/- Texts of this claim, joined by a program: GDl, PathD, PathE, PathF, PathG, PathH, DiskL, DiskF. -/
import Derived.Test.YtlonpmajnglmoaaDoorJ3
/- Printed by a program (wip/vg): what the functions mean, plainly, and their walks. -/
namespace Go.Proofs.YtlonpmajnglmoaaDoor
open Go Go.RowKit
attribute [local irreducible] WL WC WX WQ WK WJ Yld Eff Ef0 Fn
def M_smithylaw3_first (K : Bool → Prop) : Prop :=
 M_disk_New [] (fun (t111 : Er) =>
 K false) (fun (t110_files : List (List UInt8 × List UInt8 × Bool × List UInt8 × Bool × List (Int × List UInt8))) (t110_ops : Int) (t110_left : Int) (t110_down : Bool) (t1112 : Er) =>
 ((¬ (t1112 = Er.ok) → K false) ∧
 (t1112 = Er.ok → M_pdisk_Disk_Write t110_files t110_ops t110_left t110_down ([97] : List UInt8) ([120] : List UInt8) (fun (a : Er) (t110_ : List (List UInt8 × List UInt8 × Bool × List UInt8 × Bool × List (Int × List UInt8))) (t110_2 : Int) (t110_3 : Int) (t110_4 : Bool) =>
 M_pdisk_Disk_Sync t110_ t110_2 t110_3 t110_4 ([97] : List UInt8) (fun (b : Er) (t110_5 : List (List UInt8 × List UInt8 × Bool × List UInt8 × Bool × List (Int × List UInt8))) (t110_6 : Int) (t110_7 : Int) (t110_8 : Bool) =>
 M_pdisk_Disk_Append t110_5 t110_6 t110_7 t110_8 ([97] : List UInt8) ([121, 122] : List UInt8) (fun (c : Er) (t110_9 : List (List UInt8 × List UInt8 × Bool × List UInt8 × Bool × List (Int × List UInt8))) (t110_10 : Int) (t110_11 : Int) (t110_12 : Bool) =>
 M_pdisk_Disk_Arm t110_9 t110_10 t110_11 t110_12 (1 : Int) (fun (t110_13 : List (List UInt8 × List UInt8 × Bool × List UInt8 × Bool × List (Int × List UInt8))) (t110_14 : Int) (t110_15 : Int) (t110_16 : Bool) =>
 M_pdisk_Disk_Sync t110_13 t110_14 t110_15 t110_16 ([97] : List UInt8) (fun (f : Er) (t110_17 : List (List UInt8 × List UInt8 × Bool × List UInt8 × Bool × List (Int × List UInt8))) (t110_18 : Int) (t110_19 : Int) (t110_20 : Bool) =>
 M_pdisk_Disk_Rise t110_17 t110_18 t110_19 t110_20 (0 : Int) (1 : Int) (fun (t110_21 : List (List UInt8 × List UInt8 × Bool × List UInt8 × Bool × List (Int × List UInt8))) (t110_22 : Int) (t110_23 : Int) (t110_24 : Bool) =>
 M_pdisk_Disk_Read t110_21 t110_22 t110_23 t110_24 ([97] : List UInt8) (fun (t340 : List UInt8) (t341 : Bool) (t342 : Er) (t110_25 : List (List UInt8 × List UInt8 × Bool × List UInt8 × Bool × List (Int × List UInt8))) (t110_26 : Int) (t110_27 : Int) (t110_28 : Bool) =>
 ∃ J1 : Bool → Prop, ((((((decide (a = Er.ok)) && (decide (b = Er.ok))) && (decide (c = Er.ok))) = true → M_smithysee_Is f (116 : Int) (fun (t50 : Bool) =>
 J1 t50)) ∧
 ((((decide (a = Er.ok)) && (decide (b = Er.ok))) && (decide (c = Er.ok))) = false → J1 false))) ∧
 (∀ q5 : Bool, J1 q5 → K (((q5 && (decide (t340 = ([120, 121] : List UInt8)))) && t341) && (decide (t342 = Er.ok))))))))))))))

def M_smithylaw3_DiskFiles (l : List (Int × Int × Int × List UInt8 × List UInt8)) (K : Bool → Prop) : Prop :=
 (l.length ≤ maxLen →
 M_smithylaw3_first (fun (ok : Bool) =>
 (((!ok) = true → K false) ∧
 ((!ok) = false → ((((decide ((40 : Int) < (l.length : Int))) || (!ok)) = true → K ok) ∧
 (((decide ((40 : Int) < (l.length : Int))) || (!ok)) = false → M_disk_New [] (fun (t321 : Er) =>
 K false) (fun (t320_files : List (List UInt8 × List UInt8 × Bool × List UInt8 × Bool × List (Int × List UInt8))) (t320_ops : Int) (t320_left : Int) (t320_down : Bool) (t3212 : Er) =>
 ((¬ (t3212 = Er.ok) → K false) ∧
 (t3212 = Er.ok → Lp7 (fun (i : Int) (t3200 : List (List UInt8 × List UInt8 × Bool × List UInt8 × Bool × List (Int × List UInt8))) (t3201 : Int) (t3202 : Int) (t3203 : Bool) (have_ : List Bool) (text : List (List UInt8)) kont1 => 3 = have_.length → 3 = text.length → ((i < (l.length : Int) → (0 ≤ i ∧ i < (l.length : Nat)) ∧
 M_smithyworld_Number ((l.getD i.toNat (0, 0, 0, [], [])).2.1) (3 : Int) (fun (k : Int) =>
 (0 ≤ i ∧ i < (l.length : Nat)) ∧
 (((100 : Int) < (((l.getD i.toNat (0, 0, 0, [], [])).2.2.2.2).length : Int) → K true) ∧
 (¬ ((100 : Int) < (((l.getD i.toNat (0, 0, 0, [], [])).2.2.2.2).length : Int)) → ∃ J1 : Er → (List (List UInt8 × List UInt8 × Bool × List UInt8 × Bool × List (Int × List UInt8))) → Int → Int → Bool → (List Bool) → (List (List UInt8)) → Prop, ((0 ≤ i ∧ i < (l.length : Nat)) ∧
 ((((l.getD i.toNat (0, 0, 0, [], [])).1) = (1 : Int) → (0 ≤ k ∧ k < (3 : Nat)) ∧
 (0 ≤ i ∧ i < (l.length : Nat)) ∧
 M_pdisk_Disk_Write t3200 t3201 t3202 t3203 (([([97] : List UInt8), ([98, 47, 99] : List UInt8), ([100] : List UInt8)] : List (List UInt8)).getD k.toNat []) ((l.getD i.toNat (0, 0, 0, [], [])).2.2.2.2) (fun (f2 : Er) (t320_5 : List (List UInt8 × List UInt8 × Bool × List UInt8 × Bool × List (Int × List UInt8))) (t320_6 : Int) (t320_7 : Int) (t320_8 : Bool) =>
 (0 ≤ k ∧ k < (3 : Nat)) ∧
 (0 ≤ i ∧ i < (l.length : Nat)) ∧
 (0 ≤ k ∧ k < (3 : Nat)) ∧
 J1 f2 t320_5 t320_6 t320_7 t320_8 (have_.set k.toNat true) (text.set k.toNat ((l.getD i.toNat (0, 0, 0, [], [])).2.2.2.2)))) ∧
 (¬ (((l.getD i.toNat (0, 0, 0, [], [])).1) = (1 : Int)) → ((((l.getD i.toNat (0, 0, 0, [], [])).1) = (2 : Int) → (0 ≤ k ∧ k < (3 : Nat)) ∧
 (0 ≤ i ∧ i < (l.length : Nat)) ∧
 M_pdisk_Disk_Append t3200 t3201 t3202 t3203 (([([97] : List UInt8), ([98, 47, 99] : List UInt8), ([100] : List UInt8)] : List (List UInt8)).getD k.toNat []) ((l.getD i.toNat (0, 0, 0, [], [])).2.2.2.2) (fun (f3 : Er) (t320_9 : List (List UInt8 × List UInt8 × Bool × List UInt8 × Bool × List (Int × List UInt8))) (t320_10 : Int) (t320_11 : Int) (t320_12 : Bool) =>
 (0 ≤ k ∧ k < (3 : Nat)) ∧
 (0 ≤ k ∧ k < (3 : Nat)) ∧
 (0 ≤ i ∧ i < (l.length : Nat)) ∧
 ((text.getD k.toNat []).length + ((l.getD i.toNat (0, 0, 0, [], [])).2.2.2.2).length ≤ 9223372036854775807) ∧
 (0 ≤ k ∧ k < (3 : Nat)) ∧
 J1 f3 t320_9 t320_10 t320_11 t320_12 (have_.set k.toNat true) (text.set k.toNat ((text.getD k.toNat []) ++ ((l.getD i.toNat (0, 0, 0, [], [])).2.2.2.2))))) ∧
 (¬ (((l.getD i.toNat (0, 0, 0, [], [])).1) = (2 : Int)) → ((((l.getD i.toNat (0, 0, 0, [], [])).1) = (3 : Int) → (0 ≤ k ∧ k < (3 : Nat)) ∧
 M_pdisk_Disk_Remove t3200 t3201 t3202 t3203 (([([97] : List UInt8), ([98, 47, 99] : List UInt8), ([100] : List UInt8)] : List (List UInt8)).getD k.toNat []) (fun (f4 : Er) (t320_13 : List (List UInt8 × List UInt8 × Bool × List UInt8 × Bool × List (Int × List UInt8))) (t320_14 : Int) (t320_15 : Int) (t320_16 : Bool) =>
 (0 ≤ k ∧ k < (3 : Nat)) ∧
 (0 ≤ k ∧ k < (3 : Nat)) ∧
 J1 f4 t320_13 t320_14 t320_15 t320_16 (have_.set k.toNat false) (text.set k.toNat ([] : List UInt8)))) ∧
 (¬ (((l.getD i.toNat (0, 0, 0, [], [])).1) = (3 : Int)) → (0 ≤ k ∧ k < (3 : Nat)) ∧
 M_pdisk_Disk_Sync t3200 t3201 t3202 t3203 (([([97] : List UInt8), ([98, 47, 99] : List UInt8), ([100] : List UInt8)] : List (List UInt8)).getD k.toNat []) (fun (f5 : Er) (t320_17 : List (List UInt8 × List UInt8 × Bool × List UInt8 × Bool × List (Int × List UInt8))) (t320_18 : Int) (t320_19 : Int) (t320_20 : Bool) =>
 J1 f5 t320_17 t320_18 t320_19 t320_20 have_ text)))))))) ∧
 (∀ f : Er, ∀ t32002 : List (List UInt8 × List UInt8 × Bool × List UInt8 × Bool × List (Int × List UInt8)), ∀ t32012 : Int, ∀ t32022 : Int, ∀ t32032 : Bool, ∀ xs : List Bool, ∀ xs2 : List (List UInt8), J1 f t32002 t32012 t32022 t32032 xs xs2 → 3 = xs.length → 3 = xs2.length → (0 ≤ k ∧ k < (3 : Nat)) ∧
 M_pdisk_Disk_Read t32002 t32012 t32022 t32032 (([([97] : List UInt8), ([98, 47, 99] : List UInt8), ([100] : List UInt8)] : List (List UInt8)).getD k.toNat []) (fun (t1470 : List UInt8) (t1471 : Bool) (t1472 : Er) (t320_ : List (List UInt8 × List UInt8 × Bool × List UInt8 × Bool × List (Int × List UInt8))) (t320_2 : Int) (t320_3 : Int) (t320_4 : Bool) =>
 (((!decide (f = Er.ok)) || (!decide (t1472 = Er.ok))) = false → (0 ≤ k ∧ k < (3 : Nat))) ∧
 ((((!decide (f = Er.ok)) || (!decide (t1472 = Er.ok))) || (!decide (t1470 = (xs2.getD k.toNat [])))) = false → (0 ≤ k ∧ k < (3 : Nat))) ∧
 ∃ J2 : Bool → Prop, (((((((!decide (f = Er.ok)) || (!decide (t1472 = Er.ok))) || (!decide (t1470 = (xs2.getD k.toNat [])))) || (!(t1471 == (xs.getD k.toNat false)))) = true → J2 true) ∧
 (((((!decide (f = Er.ok)) || (!decide (t1472 = Er.ok))) || (!decide (t1470 = (xs2.getD k.toNat [])))) || (!(t1471 == (xs.getD k.toNat false)))) = false → M_pdisk_Disk_Ops t320_ t320_2 t320_3 t320_4 (fun (t175 : Int) =>
 (In .i64 ((2 : Int) * i)) ∧
 (In .i64 (((2 : Int) * i) + (2 : Int))) ∧
 J2 (!decide (t175 = (((2 : Int) * i) + (2 : Int)))))))) ∧
 (∀ q7 : Bool, J2 q7 → ((q7 = true → K false) ∧
 (q7 = false → (In .i64 (i + (1 : Int))) ∧
 kont1 (i + (1 : Int)) t320_ t320_2 t320_3 t320_4 xs xs2))))))))) ∧
 (¬ (i < (l.length : Int)) → Lp2 (fun (want : List (List UInt8)) (k_2 : Int) kont2 => ((k_2 < (3 : Int) → ∃ J3 : (List (List UInt8)) → Prop, ((0 ≤ k_2 ∧ k_2 < (3 : Nat)) ∧
 (((have_.getD k_2.toNat false) = true → (0 ≤ k_2 ∧ k_2 < (3 : Nat)) ∧
 ((want.length + (([([([97] : List UInt8), ([98, 47, 99] : List UInt8), ([100] : List UInt8)] : List (List UInt8)).getD k_2.toNat []] : List (List UInt8))).length) * 16 ≤ 140737488355328) ∧
 J3 (want ++ ([([([97] : List UInt8), ([98, 47, 99] : List UInt8), ([100] : List UInt8)] : List (List UInt8)).getD k_2.toNat []] : List (List UInt8)))) ∧
 ((have_.getD k_2.toNat false) = false → J3 want))) ∧
 (∀ want2 : List (List UInt8), J3 want2 → (In .i64 (k_2 + (1 : Int))) ∧
 kont2 want2 (k_2 + (1 : Int)))) ∧
 (¬ (k_2 < (3 : Int)) → M_pdisk_Disk_List t3200 t3201 t3202 t3203 (fun (t1980 : List (List UInt8)) (t1981 : Er) (t320_21 : List (List UInt8 × List UInt8 × Bool × List UInt8 × Bool × List (Int × List UInt8))) (t320_22 : Int) (t320_23 : Int) (t320_24 : Bool) =>
 M_pdisk_Disk_Dump t320_21 t320_22 t320_23 t320_24 (fun (all : List (List UInt8 × List UInt8)) =>
 ∃ J4 : Bool → Prop, ((((!decide (t1981 = Er.ok)) = true → J4 true) ∧
 ((!decide (t1981 = Er.ok)) = false → M_smithyref_SameTexts t1980 want (fun (t208 : Bool) =>
 J4 (!t208))))) ∧
 (∀ q8 : Bool, J4 q8 → (((q8 || (!decide ((all.length : Int) = (want.length : Int)))) = true → K false) ∧
 ((q8 || (!decide ((all.length : Int) = (want.length : Int)))) = false → M_pdisk_Disk_Write t320_21 t320_22 t320_23 t320_24 ([97, 47, 47, 98] : List UInt8) ([] : List UInt8) (fun (t219 : Er) (t320_25 : List (List UInt8 × List UInt8 × Bool × List UInt8 × Bool × List (Int × List UInt8))) (t320_26 : Int) (t320_27 : Int) (t320_28 : Bool) =>
 M_smithysee_Is t219 (112 : Int) (fun (t220 : Bool) =>
 ∃ J5 : Bool → Prop, (((t220 = true → M_pdisk_Disk_Remove t320_25 t320_26 t320_27 t320_28 ([] : List UInt8) (fun (t223 : Er) (t320_29 : List (List UInt8 × List UInt8 × Bool × List UInt8 × Bool × List (Int × List UInt8))) (t320_30 : Int) (t320_31 : Int) (t320_32 : Bool) =>
 M_smithysee_Is t223 (112 : Int) (fun (t224 : Bool) =>
 J5 t224))) ∧
 (t220 = false → J5 false))) ∧
 (∀ q10 : Bool, J5 q10 → K q10))))))))))) [] (0 : Int)))) (0 : Int) t320_files t320_ops t320_left t320_down ([false, false, false] : List Bool) ([([] : List UInt8), ([] : List UInt8), ([] : List UInt8)] : List (List UInt8)))))))))))

set_option maxHeartbeats 8000000 in
theorem W_smithylaw3_first {S : List Nat} {w : World} {K : Bool → Prop} (hG : GOK S w) (hS0 : 0 ∈ S) (hS1 : 1 ∈ S) (hS2 : 2 ∈ S) (hS3 : 3 ∈ S) (hS4 : 4 ∈ S) (hS5 : 5 ∈ S) (hS6 : 6 ∈ S) (hS7 : 7 ∈ S) (hS8 : 8 ∈ S) (hS9 : 9 ∈ S) (hS10 : 10 ∈ S) (hS11 : 11 ∈ S) (hS12 : 12 ∈ S) (hS13 : 13 ∈ S) (hS14 : 14 ∈ S) (hS15 : 15 ∈ S) (hS16 : 16 ∈ S) (hS100 : 100 ∈ S) (H : M_smithylaw3_first  K) : Fn Tryd.prog 19 ⟨[]⟩ w (fun v w' => w.grownBy w' none ∧ ∃ (r : Bool), v = .bool r ∧ K r) := by
  unfold M_smithylaw3_first at H
  refine Fn.enter (by kernel_rfl) Tryd.func19 rfl Tryd.ntmps19 rfl ?_
  refine WC.seq ?_
  refine WC.region ?_
  refine WL.y rfl (Yld.pure tab_ok rfl) ?_
  refine WL.nil (WX.then_normal ?_)
  refine WC.seq ?_
  refine WC.region ?_
  refine WL.call rfl rfl (W_disk_New hG hS9 hS11 hS100 (OwnK.nil enc43_ok w w.heap.size 43).rd rfl H) ?_
  rintro v_ w1 ⟨hg_, hc_ | hc_⟩
  · obtain ⟨v_t111, t111, rfl, ht111, H⟩ := hc_
    have hg1 := hg_
    have gr1 := hg1
    refine WL.y rfl (Yld.pure tab_ok rfl) ?_
    refine WL.y rfl (Yld.pure tab_ok rfl) ?_
    refine WL.y rfl (Yld.pure tab_ok rfl) ?_
    refine WL.y rfl (Yld.pure tab_ok rfl) ?_
    refine WL.y rfl (Yld.pure tab_ok rfl) ?_
    refine WL.nil (WX.then_normal ?_)
    refine WC.seq ?_
    refine WC.seq ?_
    refine WC.region ?_
    refine WL.y rfl (Yld.pure tab_ok rfl) ?_
    refine WL.y rfl (Yld.peqnil Tryd.underlying39 rfl rfl) ?_
    refine WL.y rfl (Yld.pure tab_ok rfl) ?_
    refine WL.midF 3 (fun L' w' => ∃ q1 : Bool, L' = [(19, .bool q1), (1, .pointer none)] ∧ q1 = true ∧ w1 = w') ?_ (fun hQ => ?_)
    · rintro _ _ ⟨q1, rfl, rfl, rfl⟩
      refine WL.nil (WX.then_normal ?_)
      refine WC.cond rfl (fun _ => ?_) (fun h => by cases h)
      refine WC.seq ?_
      refine WC.region ?_
      refine WL.y rfl (Yld.pure tab_ok rfl) ?_
      refine WL.nil (WX.then_normal ?_)
      refine WC.ret (WX.then_ret ?_)
      exact WX.ret1 rfl rfl ⟨gr1, false, rfl, H⟩
    · clear H
      refine WL.gno rfl rfl (rfl) rfl ?_
      refine WL.gno rfl rfl (rfl) rfl ?_
      refine WL.y rfl (Yld.pickT (rfl) rfl) ?_
      exact WL.weaken (by repeat (first | exact Sub.nil | refine Sub.cons rfl ?_)) (hQ _ _ ⟨true, rfl, rfl, rfl⟩)
  · obtain ⟨g_t110, g_t110_files, hs_t110_files, t110_files, t110_ops, t110_left, t110_down, v_t1112, t1112, rfl, ht1112, ht110_files, hge1, ht110, hge2, dj1, H⟩ := hc_
    have hg2 := hg_
    have gr2 := hg2
    refine WL.y rfl (Yld.pure tab_ok rfl) ?_
    refine WL.y rfl (Yld.pure tab_ok rfl) ?_
    refine WL.y rfl (Yld.pure tab_ok rfl) ?_
    refine WL.y rfl (Yld.pure tab_ok rfl) ?_
    refine WL.y rfl (Yld.pure tab_ok rfl) ?_
    refine WL.nil (WX.then_normal ?_)
    refine WC.seq ?_
    refine WC.seq ?_
    refine WC.region ?_
    refine WL.y rfl (Yld.pure tab_ok rfl) ?_
    refine WL.y rfl (Yld.peqnil Tryd.underlying39 rfl rfl) ?_
    refine WL.y rfl (Yld.pure tab_ok rfl) ?_
    refine WL.midF 3 (fun L' w' => ∃ q2 : Bool, L' = [(19, .bool q2), (1, .pointer (some ⟨g_t110, 0, none⟩))] ∧ q2 = (!decide (t1112 = Er.ok)) ∧ w1 = w') ?_ (fun hQ => ?_)
    · rintro _ _ ⟨q2, rfl, rfl, rfl⟩
      refine WL.nil (WX.then_normal ?_)
      refine WC.cond rfl (fun b1 => ?_) (fun b1 => ?_)
      · replace H := H.1 (nd_true b1)
        refine WC.seq ?_
        refine WC.region ?_
        refine WL.y rfl (Yld.pure tab_ok rfl) ?_
        refine WL.nil (WX.then_normal ?_)
        refine WC.ret (WX.then_ret ?_)
        exact WX.ret1 rfl rfl ⟨gr2, false, rfl, H⟩
      · replace H := H.2 (nd_false b1)
        refine WC.skip (WX.then_normal ?_)
        refine WC.seq ?_
        refine WC.region ?_
        refine WL.y rfl (Yld.pure tab_ok rfl) ?_
        refine WL.call rfl rfl (W_pdisk_Disk_Write (GB.grown hG gr2) (size_le gr2) (apC (Ge.le hge2 (Nat.le_refl _)) (fun p hp => Ge.le (hge1 p hp) (Nat.le_refl _))) hS9 hS11 hS15 hS100 ht110_files ht110 dj1 H) ?_
        rintro v_a w4 ⟨hgl1, _, a, hs_t110_, t110_, t110_2, t110_3, t110_4, rfl, ha, hB1, hM1, hi1, dj2, H⟩
        have gr3 := gr_modL gr2 hgl1 (apC (Ge.le hge2 (Nat.le_refl _)) (fun p hp => Ge.le (hge1 p hp) (Nat.le_refl _)))
        refine WL.y rfl (Yld.pure tab_ok rfl) ?_
        refine WL.nil (WX.then_normal ?_)
        refine WC.seq ?_
        refine WC.region ?_
        refine WL.y rfl (Yld.pure tab_ok rfl) ?_
        refine WL.call rfl rfl (W_pdisk_Disk_Sync (GB.grown hG gr3) (size_le gr3) (apC (Ge.le hge2 (Nat.le_refl _)) (InA.toGe hi1 (apC (Ge.le hge2 (Nat.le_refl _)) (fun p hp => Ge.le (hge1 p hp) (Nat.le_refl _))) (size_le gr2))) hS11 hS15 hS100 hM1 hB1 dj2 H) ?_
        rintro v_b w5 ⟨hgl2, _, b, hs_t110_2, t110_5, t110_6, t110_7, t110_8, rfl, hb, hB2, hM2, hi2, dj3, H⟩
        have gr4 := gr_modL gr3 hgl2 (apC (Ge.le hge2 (Nat.le_refl _)) (InA.toGe hi1 (apC (Ge.le hge2 (Nat.le_refl _)) (fun p hp => Ge.le (hge1 p hp) (Nat.le_refl _))) (size_le gr2)))
        have k1 := ErrR.goB ha (GB.grown hG gr3) hgl2 (apC (Ge.le hge2 (Nat.le_refl _)) (InA.toGe hi1 (apC (Ge.le hge2 (Nat.le_refl _)) (fun p hp => Ge.le (hge1 p hp) (Nat.le_refl _))) (size_le gr2))) (apC (NoAt.bl hB1 rfl) hM1.noats)
        refine WL.y rfl (Yld.pure tab_ok rfl) ?_
        refine WL.nil (WX.then_normal ?_)
        refine WC.seq ?_
        refine WC.region ?_
        refine WL.y rfl (Yld.pure tab_ok rfl) ?_
        refine WL.call rfl rfl (W_pdisk_Disk_Append (GB.grown hG gr4) (size_le gr4) (apC (Ge.le hge2 (Nat.le_refl _)) (InA.toGe hi2 (apC (Ge.le hge2 (Nat.le_refl _)) (InA.toGe hi1 (apC (Ge.le hge2 (Nat.le_refl _)) (fun p hp => Ge.le (hge1 p hp) (Nat.le_refl _))) (size_le gr2))) (size_le gr3))) hS9 hS11 hS15 hS100 hM2 hB2 dj3 H) ?_
        rintro v_c w6 ⟨hgl3, _, c, hs_t110_3, t110_9, t110_10, t110_11, t110_12, rfl, hc, hB3, hM3, hi3, dj4, H⟩
        have gr5 := gr_modL gr4 hgl3 (apC (Ge.le hge2 (Nat.le_refl _)) (InA.toGe hi2 (apC (Ge.le hge2 (Nat.le_refl _)) (InA.toGe hi1 (apC (Ge.le hge2 (Nat.le_refl _)) (fun p hp => Ge.le (hge1 p hp) (Nat.le_refl _))) (size_le gr2))) (size_le gr3)))
        have k2 := ErrR.goB k1 (GB.grown hG gr4) hgl3 (apC (Ge.le hge2 (Nat.le_refl _)) (InA.toGe hi2 (apC (Ge.le hge2 (Nat.le_refl _)) (InA.toGe hi1 (apC (Ge.le hge2 (Nat.le_refl _)) (fun p hp => Ge.le (hge1 p hp) (Nat.le_refl _))) (size_le gr2))) (size_le gr3))) (apC (NoAt.bl hB2 rfl) hM2.noats)
        have k3 := ErrR.goB hb (GB.grown hG gr4) hgl3 (apC (Ge.le hge2 (Nat.le_refl _)) (InA.toGe hi2 (apC (Ge.le hge2 (Nat.le_refl _)) (InA.toGe hi1 (apC (Ge.le hge2 (Nat.le_refl _)) (fun p hp => Ge.le (hge1 p hp) (Nat.le_refl _))) (size_le gr2))) (size_le gr3))) (apC (NoAt.bl hB2 rfl) hM2.noats)
        refine WL.y rfl (Yld.pure tab_ok rfl) ?_
        refine WL.nil (WX.then_normal ?_)
        refine WC.seq ?_
        refine WC.region ?_
        refine WL.y rfl (Yld.pure tab_ok rfl) ?_
        refine WL.call rfl rfl (W_pdisk_Disk_Arm hM3 hB3 dj4 H) ?_
        rintro _ w7 ⟨hgl4, hs_t110_4, t110_13, t110_14, t110_15, t110_16, rfl, hB4, hM4, hi4, dj5, H⟩
        have gr6 := gr_modL gr5 hgl4 (apC (Ge.le hge2 (Nat.le_refl _)) (InA.toGe hi3 (apC (Ge.le hge2 (Nat.le_refl _)) (InA.toGe hi2 (apC (Ge.le hge2 (Nat.le_refl _)) (InA.toGe hi1 (apC (Ge.le hge2 (Nat.le_refl _)) (fun p hp => Ge.le (hge1 p hp) (Nat.le_refl _))) (size_le gr2))) (size_le gr3))) (size_le gr4)))
        have k4 := ErrR.goB k2 (GB.grown hG gr5) hgl4 (apC (Ge.le hge2 (Nat.le_refl _)) (InA.toGe hi3 (apC (Ge.le hge2 (Nat.le_refl _)) (InA.toGe hi2 (apC (Ge.le hge2 (Nat.le_refl _)) (InA.toGe hi1 (apC (Ge.le hge2 (Nat.le_refl _)) (fun p hp => Ge.le (hge1 p hp) (Nat.le_refl _))) (size_le gr2))) (size_le gr3))) (size_le gr4))) (apC (NoAt.bl hB3 rfl) hM3.noats)
        have k5 := ErrR.goB k3 (GB.grown hG gr5) hgl4 (apC (Ge.le hge2 (Nat.le_refl _)) (InA.toGe hi3 (apC (Ge.le hge2 (Nat.le_refl _)) (InA.toGe hi2 (apC (Ge.le hge2 (Nat.le_refl _)) (InA.toGe hi1 (apC (Ge.le hge2 (Nat.le_refl _)) (fun p hp => Ge.le (hge1 p hp) (Nat.le_refl _))) (size_le gr2))) (size_le gr3))) (size_le gr4))) (apC (NoAt.bl hB3 rfl) hM3.noats)
        have k6 := ErrR.goB hc (GB.grown hG gr5) hgl4 (apC (Ge.le hge2 (Nat.le_refl _)) (InA.toGe hi3 (apC (Ge.le hge2 (Nat.le_refl _)) (InA.toGe hi2 (apC (Ge.le hge2 (Nat.le_refl _)) (InA.toGe hi1 (apC (Ge.le hge2 (Nat.le_refl _)) (fun p hp => Ge.le (hge1 p hp) (Nat.le_refl _))) (size_le gr2))) (size_le gr3))) (size_le gr4))) (apC (NoAt.bl hB3 rfl) hM3.noats)
        refine WL.nil (WX.then_normal ?_)
        refine WC.seq ?_
        refine WC.region ?_
        refine WL.y rfl (Yld.pure tab_ok rfl) ?_
        refine WL.call rfl rfl (W_pdisk_Disk_Sync (GB.grown hG gr6) (size_le gr6) (apC (Ge.le hge2 (Nat.le_refl _)) (InA.toGe hi4 (apC (Ge.le hge2 (Nat.le_refl _)) (InA.toGe hi3 (apC (Ge.le hge2 (Nat.le_refl _)) (InA.toGe hi2 (apC (Ge.le hge2 (Nat.le_refl _)) (InA.toGe hi1 (apC (Ge.le hge2 (Nat.le_refl _)) (fun p hp => Ge.le (hge1 p hp) (Nat.le_refl _))) (size_le gr2))) (size_le gr3))) (size_le gr4))) (size_le gr5))) hS11 hS15 hS100 hM4 hB4 dj5 H) ?_
        rintro v_f w8 ⟨hgl5, _, f, hs_t110_5, t110_17, t110_18, t110_19, t110_20, rfl, hf, hB5, hM5, hi5, dj6, H⟩
        have gr7 := gr_modL gr6 hgl5 (apC (Ge.le hge2 (Nat.le_refl _)) (InA.toGe hi4 (apC (Ge.le hge2 (Nat.le_refl _)) (InA.toGe hi3 (apC (Ge.le hge2 (Nat.le_refl _)) (InA.toGe hi2 (apC (Ge.le hge2 (Nat.le_refl _)) (InA.toGe hi1 (apC (Ge.le hge2 (Nat.le_refl _)) (fun p hp => Ge.le (hge1 p hp) (Nat.le_refl _))) (size_le gr2))) (size_le gr3))) (size_le gr4))) (size_le gr5)))
        have k7 := ErrR.goB k4 (GB.grown hG gr6) hgl5 (apC (Ge.le hge2 (Nat.le_refl _)) (InA.toGe hi4 (apC (Ge.le hge2 (Nat.le_refl _)) (InA.toGe hi3 (apC (Ge.le hge2 (Nat.le_refl _)) (InA.toGe hi2 (apC (Ge.le hge2 (Nat.le_refl _)) (InA.toGe hi1 (apC (Ge.le hge2 (Nat.le_refl _)) (fun p hp => Ge.le (hge1 p hp) (Nat.le_refl _))) (size_le gr2))) (size_le gr3))) (size_le gr4))) (size_le gr5))) (apC (NoAt.bl hB4 rfl) hM4.noats)
        have k8 := ErrR.goB k5 (GB.grown hG gr6) hgl5 (apC (Ge.le hge2 (Nat.le_refl _)) (InA.toGe hi4 (apC (Ge.le hge2 (Nat.le_refl _)) (InA.toGe hi3 (apC (Ge.le hge2 (Nat.le_refl _)) (InA.toGe hi2 (apC (Ge.le hge2 (Nat.le_refl _)) (InA.toGe hi1 (apC (Ge.le hge2 (Nat.le_refl _)) (fun p hp => Ge.le (hge1 p hp) (Nat.le_refl _))) (size_le gr2))) (size_le gr3))) (size_le gr4))) (size_le gr5))) (apC (NoAt.bl hB4 rfl) hM4.noats)
        have k9 := ErrR.goB k6 (GB.grown hG gr6) hgl5 (apC (Ge.le hge2 (Nat.le_refl _)) (InA.toGe hi4 (apC (Ge.le hge2 (Nat.le_refl _)) (InA.toGe hi3 (apC (Ge.le hge2 (Nat.le_refl _)) (InA.toGe hi2 (apC (Ge.le hge2 (Nat.le_refl _)) (InA.toGe hi1 (apC (Ge.le hge2 (Nat.le_refl _)) (fun p hp => Ge.le (hge1 p hp) (Nat.le_refl _))) (size_le gr2))) (size_le gr3))) (size_le gr4))) (size_le gr5))) (apC (NoAt.bl hB4 rfl) hM4.noats)
        refine WL.y rfl (Yld.pure tab_ok rfl) ?_
        refine WL.nil (WX.then_normal ?_)
        refine WC.seq ?_
        refine WC.region ?_
        refine WL.y rfl (Yld.pure tab_ok rfl) ?_
        refine WL.call rfl rfl (W_pdisk_Disk_Rise hM5 hB5 dj6 H) ?_
        rintro _ w9 ⟨hgl6, hs_t110_6, t110_21, t110_22, t110_23, t110_24, rfl, hB6, hM6, hi6, dj7, H⟩
        have gr8 := gr_modL gr7 hgl6 (apC (Ge.le hge2 (Nat.le_refl _)) (InA.toGe hi5 (apC (Ge.le hge2 (Nat.le_refl _)) (InA.toGe hi4 (apC (Ge.le hge2 (Nat.le_refl _)) (InA.toGe hi3 (apC (Ge.le hge2 (Nat.le_refl _)) (InA.toGe hi2 (apC (Ge.le hge2 (Nat.le_refl _)) (InA.toGe hi1 (apC (Ge.le hge2 (Nat.le_refl _)) (fun p hp => Ge.le (hge1 p hp) (Nat.le_refl _))) (size_le gr2))) (size_le gr3))) (size_le gr4))) (size_le gr5))) (size_le gr6)))
        have k10 := ErrR.goB k7 (GB.grown hG gr7) hgl6 (apC (Ge.le hge2 (Nat.le_refl _)) (InA.toGe hi5 (apC (Ge.le hge2 (Nat.le_refl _)) (InA.toGe hi4 (apC (Ge.le hge2 (Nat.le_refl _)) (InA.toGe hi3 (apC (Ge.le hge2 (Nat.le_refl _)) (InA.toGe hi2 (apC (Ge.le hge2 (Nat.le_refl _)) (InA.toGe hi1 (apC (Ge.le hge2 (Nat.le_refl _)) (fun p hp => Ge.le (hge1 p hp) (Nat.le_refl _))) (size_le gr2))) (size_le gr3))) (size_le gr4))) (size_le gr5))) (size_le gr6))) (apC (NoAt.bl hB5 rfl) hM5.noats)
        have k11 := ErrR.goB k8 (GB.grown hG gr7) hgl6 (apC (Ge.le hge2 (Nat.le_refl _)) (InA.toGe hi5 (apC (Ge.le hge2 (Nat.le_refl _)) (InA.toGe hi4 (apC (Ge.le hge2 (Nat.le_refl _)) (InA.toGe hi3 (apC (Ge.le hge2 (Nat.le_refl _)) (InA.toGe hi2 (apC (Ge.le hge2 (Nat.le_refl _)) (InA.toGe hi1 (apC (Ge.le hge2 (Nat.le_refl _)) (fun p hp => Ge.le (hge1 p hp) (Nat.le_refl _))) (size_le gr2))) (size_le gr3))) (size_le gr4))) (size_le gr5))) (size_le gr6))) (apC (NoAt.bl hB5 rfl) hM5.noats)
        have k12 := ErrR.goB k9 (GB.grown hG gr7) hgl6 (apC (Ge.le hge2 (Nat.le_refl _)) (InA.toGe hi5 (apC (Ge.le hge2 (Nat.le_refl _)) (InA.toGe hi4 (apC (Ge.le hge2 (Nat.le_refl _)) (InA.toGe hi3 (apC (Ge.le hge2 (Nat.le_refl _)) (InA.toGe hi2 (apC (Ge.le hge2 (Nat.le_refl _)) (InA.toGe hi1 (apC (Ge.le hge2 (Nat.le_refl _)) (fun p hp => Ge.le (hge1 p hp) (Nat.le_refl _))) (size_le gr2))) (size_le gr3))) (size_le gr4))) (size_le gr5))) (size_le gr6))) (apC (NoAt.bl hB5 rfl) hM5.noats)
        have k13 := ErrR.goB hf (GB.grown hG gr7) hgl6 (apC (Ge.le hge2 (Nat.le_refl _)) (InA.toGe hi5 (apC (Ge.le hge2 (Nat.le_refl _)) (InA.toGe hi4 (apC (Ge.le hge2 (Nat.le_refl _)) (InA.toGe hi3 (apC (Ge.le hge2 (Nat.le_refl _)) (InA.toGe hi2 (apC (Ge.le hge2 (Nat.le_refl _)) (InA.toGe hi1 (apC (Ge.le hge2 (Nat.le_refl _)) (fun p hp => Ge.le (hge1 p hp) (Nat.le_refl _))) (size_le gr2))) (size_le gr3))) (size_le gr4))) (size_le gr5))) (size_le gr6))) (apC (NoAt.bl hB5 rfl) hM5.noats)
        refine WL.nil (WX.then_normal ?_)
        refine WC.seq ?_
        refine WC.region ?_
        refine WL.y rfl (Yld.pure tab_ok rfl) ?_
        refine WL.call rfl rfl (W_pdisk_Disk_Read (GB.grown hG gr8) (size_le gr8) (apC (Ge.le hge2 (Nat.le_refl _)) (InA.toGe hi6 (apC (Ge.le hge2 (Nat.le_refl _)) (InA.toGe hi5 (apC (Ge.le hge2 (Nat.le_refl _)) (InA.toGe hi4 (apC (Ge.le hge2 (Nat.le_refl _)) (InA.toGe hi3 (apC (Ge.le hge2 (Nat.le_refl _)) (InA.toGe hi2 (apC (Ge.le hge2 (Nat.le_refl _)) (InA.toGe hi1 (apC (Ge.le hge2 (Nat.le_refl _)) (fun p hp => Ge.le (hge1 p hp) (Nat.le_refl _))) (size_le gr2))) (size_le gr3))) (size_le gr4))) (size_le gr5))) (size_le gr6))) (size_le gr7))) hS15 hM6 hB6 dj7 H) ?_
        rintro _ w10 ⟨hgl7, t340, t341, v_t342, t342, hs_t110_7, t110_25, t110_26, t110_27, t110_28, rfl, ht342, hB7, hM7, hi7, dj8, H⟩
        have gr9 := gr_modL gr8 hgl7 (apC (Ge.le hge2 (Nat.le_refl _)) (InA.toGe hi6 (apC (Ge.le hge2 (Nat.le_refl _)) (InA.toGe hi5 (apC (Ge.le hge2 (Nat.le_refl _)) (InA.toGe hi4 (apC (Ge.le hge2 (Nat.le_refl _)) (InA.toGe hi3 (apC (Ge.le hge2 (Nat.le_refl _)) (InA.toGe hi2 (apC (Ge.le hge2 (Nat.le_refl _)) (InA.toGe hi1 (apC (Ge.le hge2 (Nat.le_refl _)) (fun p hp => Ge.le (hge1 p hp) (Nat.le_refl _))) (size_le gr2))) (size_le gr3))) (size_le gr4))) (size_le gr5))) (size_le gr6))) (size_le gr7)))
        have k14 := ErrR.goB k10 (GB.grown hG gr8) hgl7 (apC (Ge.le hge2 (Nat.le_refl _)) (InA.toGe hi6 (apC (Ge.le hge2 (Nat.le_refl _)) (InA.toGe hi5 (apC (Ge.le hge2 (Nat.le_refl _)) (InA.toGe hi4 (apC (Ge.le hge2 (Nat.le_refl _)) (InA.toGe hi3 (apC (Ge.le hge2 (Nat.le_refl _)) (InA.toGe hi2 (apC (Ge.le hge2 (Nat.le_refl _)) (InA.toGe hi1 (apC (Ge.le hge2 (Nat.le_refl _)) (fun p hp => Ge.le (hge1 p hp) (Nat.le_refl _))) (size_le gr2))) (size_le gr3))) (size_le gr4))) (size_le gr5))) (size_le gr6))) (size_le gr7))) (apC (NoAt.bl hB6 rfl) hM6.noats)
        have k15 := ErrR.goB k11 (GB.grown hG gr8) hgl7 (apC (Ge.le hge2 (Nat.le_refl _)) (InA.toGe hi6 (apC (Ge.le hge2 (Nat.le_refl _)) (InA.toGe hi5 (apC (Ge.le hge2 (Nat.le_refl _)) (InA.toGe hi4 (apC (Ge.le hge2 (Nat.le_refl _)) (InA.toGe hi3 (apC (Ge.le hge2 (Nat.le_refl _)) (InA.toGe hi2 (apC (Ge.le hge2 (Nat.le_refl _)) (InA.toGe hi1 (apC (Ge.le hge2 (Nat.le_refl _)) (fun p hp => Ge.le (hge1 p hp) (Nat.le_refl _))) (size_le gr2))) (size_le gr3))) (size_le gr4))) (size_le gr5))) (size_le gr6))) (size_le gr7))) (apC (NoAt.bl hB6 rfl) hM6.noats)
        have k16 := ErrR.goB k12 (GB.grown hG gr8) hgl7 (apC (Ge.le hge2 (Nat.le_refl _)) (InA.toGe hi6 (apC (Ge.le hge2 (Nat.le_refl _)) (InA.toGe hi5 (apC (Ge.le hge2 (Nat.le_refl _)) (InA.toGe hi4 (apC (Ge.le hge2 (Nat.le_refl _)) (InA.toGe hi3 (apC (Ge.le hge2 (Nat.le_refl _)) (InA.toGe hi2 (apC (Ge.le hge2 (Nat.le_refl _)) (InA.toGe hi1 (apC (Ge.le hge2 (Nat.le_refl _)) (fun p hp => Ge.le (hge1 p hp) (Nat.le_refl _))) (size_le gr2))) (size_le gr3))) (size_le gr4))) (size_le gr5))) (size_le gr6))) (size_le gr7))) (apC (NoAt.bl hB6 rfl) hM6.noats)
        have k17 := ErrR.goB k13 (GB.grown hG gr8) hgl7 (apC (Ge.le hge2 (Nat.le_refl _)) (InA.toGe hi6 (apC (Ge.le hge2 (Nat.le_refl _)) (InA.toGe hi5 (apC (Ge.le hge2 (Nat.le_refl _)) (InA.toGe hi4 (apC (Ge.le hge2 (Nat.le_refl _)) (InA.toGe hi3 (apC (Ge.le hge2 (Nat.le_refl _)) (InA.toGe hi2 (apC (Ge.le hge2 (Nat.le_refl _)) (InA.toGe hi1 (apC (Ge.le hge2 (Nat.le_refl _)) (fun p hp => Ge.le (hge1 p hp) (Nat.le_refl _))) (size_le gr2))) (size_le gr3))) (size_le gr4))) (size_le gr5))) (size_le gr6))) (size_le gr7))) (apC (NoAt.bl hB6 rfl) hM6.noats)
        refine WL.y rfl (Yld.pure tab_ok rfl) ?_
        refine WL.y rfl (Yld.pure tab_ok rfl) ?_
        refine WL.y rfl (Yld.pure tab_ok rfl) ?_
        refine WL.y rfl (Yld.pure tab_ok rfl) ?_
        refine WL.y rfl (Yld.pure tab_ok rfl) ?_
        refine WL.y rfl (Yld.pure tab_ok rfl) ?_
        refine WL.y rfl (Yld.pure tab_ok rfl) ?_
        refine WL.nil (WX.then_normal ?_)
        refine WC.seq ?_
        refine WC.region ?_
        refine WL.y rfl (Yld.pure tab_ok rfl) ?_
        refine WL.y rfl (Yld.erreql Tryd.underlying29 k14 rfl) ?_
        refine WL.y rfl (Yld.pure tab_ok rfl) ?_
        refine WL.midF 3 (fun L' w' => ∃ q3 : Bool, L' = [(43, .bool q3), (5, v_c), (6, v_f), (7, vs t340), (8, .bool t341), (9, v_t342)] ∧ q3 = ((decide (a = Er.ok)) && (decide (b = Er.ok))) ∧ w10 = w') ?_ (fun hQ => ?_)
        · rintro _ _ ⟨q3, rfl, rfl, rfl⟩
          refine WL.y rfl (Yld.pure tab_ok rfl) ?_
          refine WL.midF 3 (fun L' w' => ∃ q4 : Bool, L' = [(47, .bool q4), (6, v_f), (7, vs t340), (8, .bool t341), (9, v_t342)] ∧ q4 = (((decide (a = Er.ok)) && (decide (b = Er.ok))) && (decide (c = Er.ok))) ∧ w10 = w') ?_ (fun hQ => ?_)
          · rintro _ _ ⟨q4, rfl, rfl, rfl⟩
            refine WL.y rfl (Yld.pure tab_ok rfl) ?_
            obtain ⟨J1, H, hJ1⟩ := H
            refine WL.midF 3 (fun L' w' => ∃ q5 : Bool, L' = [(51, .bool q5), (7, vs t340), (8, .bool t341), (9, v_t342)] ∧ J1 q5 ∧ w.grownBy w' none ∧ ErrR S w' v_t342 t342) ?_ (fun hQ => ?_)
            · clear H
              rintro _ w11 ⟨q5, rfl, H, gr10, k18⟩
              replace H := hJ1 q5 H
              refine WL.y rfl (Yld.pure tab_ok rfl) ?_
              refine WL.midF 3 (fun L' w' => ∃ q6 : Bool, L' = [(55, .bool q6), (8, .bool t341), (9, v_t342)] ∧ q6 = (q5 && (decide (t340 = ([120, 121] : List UInt8)))) ∧ w11 = w') ?_ (fun hQ => ?_)
              · rintro _ _ ⟨q6, rfl, rfl, rfl⟩
                refine WL.y rfl (Yld.pure tab_ok rfl) ?_
                refine WL.midF 2 (fun L' w' => ∃ q7 : Bool, L' = [(58, .bool q7), (9, v_t342)] ∧ q7 = ((q5 && (decide (t340 = ([120, 121] : List UInt8)))) && t341) ∧ w11 = w') ?_ (fun hQ => ?_)
                · rintro _ _ ⟨q7, rfl, rfl, rfl⟩
                  refine WL.y rfl (Yld.pure tab_ok rfl) ?_
                  refine WL.midF 3 (fun L' w' => ∃ q8 : Bool, L' = [(62, .bool q8)] ∧ q8 = (((q5 && (decide (t340 = ([120, 121] : List UInt8)))) && t341) && (decide (t342 = Er.ok))) ∧ w11 = w') ?_ (fun hQ => ?_)
                  · rintro _ _ ⟨q8, rfl, rfl, rfl⟩
                    refine WL.y rfl (Yld.pure tab_ok rfl) ?_
                    refine WL.nil (WX.then_normal ?_)
                    refine WC.ret ?_
                    exact WX.ret1 rfl rfl ⟨gr10, ((q5 && (decide (t340 = ([120, 121] : List UInt8)))) && t341) && (decide (t342 = Er.ok)), rfl, H⟩
                  · clear H
                    rcases Bool.eq_false_or_eq_true ((q5 && (decide (t340 = ([120, 121] : List UInt8)))) && t341) with b2 | b2
                    · refine WL.gyes rfl rfl (okb b2) rfl (Yld.pure tab_ok rfl) ?_
                      refine WL.gyes rfl rfl (okb b2) rfl (Yld.erreql Tryd.underlying29 k18 rfl) ?_
                      refine WL.y rfl (Yld.pickT (okb b2) rfl) ?_
                      exact WL.weaken (by repeat (first | exact Sub.nil | refine Sub.cons rfl ?_)) (hQ _ _ ⟨decide (t342 = Er.ok), rfl, by rw [b2] <;> rfl, rfl⟩)
                    · refine WL.gno rfl rfl (okb b2) rfl ?_
                      refine WL.gno rfl rfl (okb b2) rfl ?_
                      refine WL.y rfl (Yld.pickF (okb b2) rfl) ?_
                      exact WL.weaken (by repeat (first | exact Sub.nil | refine Sub.cons rfl ?_)) (hQ _ _ ⟨false, rfl, by rw [b2] <;> rfl, rfl⟩)
                · clear H
                  rcases Bool.eq_false_or_eq_true (q5 && (decide (t340 = ([120, 121] : List UInt8)))) with b3 | b3
                  · refine WL.gyes rfl rfl (okb b3) rfl (Yld.pure tab_ok rfl) ?_
                    refine WL.y rfl (Yld.pickT (okb b3) rfl) ?_
                    exact WL.weaken (by repeat (first | exact Sub.nil | refine Sub.cons rfl ?_)) (hQ _ _ ⟨t341, rfl, by rw [b3] <;> rfl, rfl⟩)
                  · refine WL.gno rfl rfl (okb b3) rfl ?_
                    refine WL.y rfl (Yld.pickF (okb b3) rfl) ?_
                    exact WL.weaken (by repeat (first | exact Sub.nil | refine Sub.cons rfl ?_)) (hQ _ _ ⟨false, rfl, by rw [b3] <;> rfl, rfl⟩)
              · clear H
                rcases Bool.eq_false_or_eq_true (q5) with b4 | b4
                · refine WL.gyes rfl rfl (okb b4) rfl (Yld.pure tab_ok rfl) ?_
                  refine WL.gyes rfl rfl (okb b4) rfl (Yld.pure tab_ok rfl) ?_
                  refine WL.y rfl (Yld.pickT (okb b4) rfl) ?_
                  exact WL.weaken (by repeat (first | exact Sub.nil | refine Sub.cons rfl ?_)) (hQ _ _ ⟨decide (t340 = ([120, 121] : List UInt8)), rfl, by rw [b4] <;> rfl, rfl⟩)
                · refine WL.gno rfl rfl (okb b4) rfl ?_
                  refine WL.gno rfl rfl (okb b4) rfl ?_
                  refine WL.y rfl (Yld.pickF (okb b4) rfl) ?_
                  exact WL.weaken (by repeat (first | exact Sub.nil | refine Sub.cons rfl ?_)) (hQ _ _ ⟨false, rfl, by rw [b4] <;> rfl, rfl⟩)
            · clear hJ1
              rcases Bool.eq_false_or_eq_true (((decide (a = Er.ok)) && (decide (b = Er.ok))) && (decide (c = Er.ok))) with b5 | b5
              · replace H := H.1 b5
                refine WL.gyes rfl rfl (okb b5) rfl (Yld.pure tab_ok rfl) ?_
                refine WL.callw (wants_some rfl rfl (okb b5)) rfl rfl (W_smithysee_Is (hG.grown gr9) hS0 hS1 hS2 hS3 hS4 hS5 hS6 hS7 hS8 hS9 hS10 hS11 hS12 hS13 hS14 hS15 hS16 k17 H) ?_
                rintro _ w12 ⟨hg3, t50, rfl, H⟩
                have gr11 := gr_trans gr9 hg3
                have k19 := k17.grown hg3
                have k20 := ht342.grown hg3
                refine WL.y rfl (Yld.pickT (okb b5) rfl) ?_
                exact WL.weaken (by repeat (first | exact Sub.nil | refine Sub.cons rfl ?_)) (hQ _ _ ⟨t50, rfl, H, gr11, k20⟩)
              · replace H := H.2 b5
                refine WL.gno rfl rfl (okb b5) rfl ?_
                refine WL.gno rfl rfl (okb b5) rfl ?_
                refine WL.y rfl (Yld.pickF (okb b5) rfl) ?_
                exact WL.weaken (by repeat (first | exact Sub.nil | refine Sub.cons rfl ?_)) (hQ _ _ ⟨false, rfl, H, gr9, ht342⟩)
          · clear H
            rcases Bool.eq_false_or_eq_true ((decide (a = Er.ok)) && (decide (b = Er.ok))) with b6 | b6
            · refine WL.gyes rfl rfl (okb b6) rfl (Yld.pure tab_ok rfl) ?_
              refine WL.gyes rfl rfl (okb b6) rfl (Yld.erreql Tryd.underlying29 k16 rfl) ?_
              refine WL.y rfl (Yld.pickT (okb b6) rfl) ?_
              exact WL.weaken (by repeat (first | exact Sub.nil | refine Sub.cons rfl ?_)) (hQ _ _ ⟨decide (c = Er.ok), rfl, by rw [b6] <;> rfl, rfl⟩)
            · refine WL.gno rfl rfl (okb b6) rfl ?_
              refine WL.gno rfl rfl (okb b6) rfl ?_
              refine WL.y rfl (Yld.pickF (okb b6) rfl) ?_
              exact WL.weaken (by repeat (first | exact Sub.nil | refine Sub.cons rfl ?_)) (hQ _ _ ⟨false, rfl, by rw [b6] <;> rfl, rfl⟩)
        · clear H
          rcases Bool.eq_false_or_eq_true (decide (a = Er.ok)) with b7 | b7
          · refine WL.gyes rfl rfl (okb b7) rfl (Yld.pure tab_ok rfl) ?_
            refine WL.gyes rfl rfl (okb b7) rfl (Yld.erreql Tryd.underlying29 k15 rfl) ?_
            refine WL.y rfl (Yld.pickT (okb b7) rfl) ?_
            exact WL.weaken (by repeat (first | exact Sub.nil | refine Sub.cons rfl ?_)) (hQ _ _ ⟨decide (b = Er.ok), rfl, by rw [b7] <;> rfl, rfl⟩)
          · refine WL.gno rfl rfl (okb b7) rfl ?_
            refine WL.gno rfl rfl (okb b7) rfl ?_
            refine WL.y rfl (Yld.pickF (okb b7) rfl) ?_
            exact WL.weaken (by repeat (first | exact Sub.nil | refine Sub.cons rfl ?_)) (hQ _ _ ⟨false, rfl, by rw [b7] <;> rfl, rfl⟩)
    · clear H
      refine WL.gyes rfl rfl (rfl) rfl (Yld.pure tab_ok rfl) ?_
      refine WL.gyes rfl rfl (rfl) rfl (Yld.errneq Tryd.underlying29 ht1112 rfl) ?_
      refine WL.y rfl (Yld.pickF (rfl) rfl) ?_
      exact WL.weaken (by repeat (first | exact Sub.nil | refine Sub.cons rfl ?_)) (hQ _ _ ⟨!decide (t1112 = Er.ok), rfl, rfl, rfl⟩)

set_option maxHeartbeats 8000000 in
theorem W_smithylaw3_DiskFiles {S : List Nat} {w : World} {l : List (Int × Int × Int × List UInt8 × List UInt8)} {A_l : Option Addr} {c_l : Nat} {n_l : Nat} {K : Bool → Prop} (hG : GOK S w) (hS0 : 0 ∈ S) (hS1 : 1 ∈ S) (hS2 : 2 ∈ S) (hS3 : 3 ∈ S) (hS4 : 4 ∈ S) (hS5 : 5 ∈ S) (hS6 : 6 ∈ S) (hS7 : 7 ∈ S) (hS8 : 8 ∈ S) (hS9 : 9 ∈ S) (hS10 : 10 ∈ S) (hS11 : 11 ∈ S) (hS12 : 12 ∈ S) (hS13 : 13 ∈ S) (hS14 : 14 ∈ S) (hS15 : 15 ∈ S) (hS16 : 16 ∈ S) (hS100 : 100 ∈ S) (hl : RdK 5 enc54 w A_l c_l l) (hn_l : n_l = l.length) (H : M_smithylaw3_DiskFiles l K) : Fn Tryd.prog 6 ⟨[.slice A_l n_l c_l]⟩ w (fun v w' => w.grownBy w' none ∧ ∃ (r : Bool), v = .bool r ∧ K r) := by
  subst hn_l
  unfold M_smithylaw3_DiskFiles at H
  refine Fn.enter (by kernel_rfl) Tryd.func6 rfl Tryd.ntmps6 rfl ?_
  replace H := H (Nat.le_trans hl.cap hl.max)
  refine WC.seq ?_
  refine WC.region ?_
  refine WL.y rfl (Yld.pure tab_ok rfl) ?_
  refine WL.nil (WX.then_normal ?_)
  refine WC.seq ?_
  refine WC.region ?_
  refine WL.call rfl rfl (W_smithylaw3_first hG hS0 hS1 hS2 hS3 hS4 hS5 hS6 hS7 hS8 hS9 hS10 hS11 hS12 hS13 hS14 hS15 hS16 hS100 H) ?_
  rintro _ w1 ⟨hg1, ok, rfl, H⟩
  have gr1 := hg1
  refine WL.y rfl (Yld.pure tab_ok rfl) ?_
  refine WL.nil (WX.then_normal ?_)
  refine WC.seq ?_
  refine WC.seq ?_
  refine WC.region ?_
  refine WL.y rfl (Yld.pure tab_ok rfl) ?_
  refine WL.y rfl (Yld.pure tab_ok rfl) ?_
  refine WL.nil (WX.then_normal ?_)
  refine WC.cond rfl (fun b1 => ?_) (fun b1 => ?_)
  · replace H := H.1 (b1)
    refine WC.seq ?_
    refine WC.region ?_
    refine WL.y rfl (Yld.pure tab_ok rfl) ?_
    refine WL.nil (WX.then_normal ?_)
    refine WC.ret (WX.then_ret ?_)
    exact WX.ret1 rfl rfl ⟨gr1, false, rfl, H⟩
  · replace H := H.2 (b1)
    refine WC.skip (WX.then_normal ?_)
    refine WC.seq ?_
    refine WC.seq ?_
    refine WC.region ?_
    refine WL.y rfl (Yld.pure tab_ok rfl) ?_
    refine WL.y rfl (Yld.pure tab_ok rfl) ?_
    refine WL.y rfl (Yld.pure tab_ok rfl) ?_
    refine WL.y rfl (Yld.pure tab_ok rfl) ?_
    refine WL.midF 3 (fun L' w' => ∃ q1 : Bool, L' = [(29, .bool q1), (0, .slice A_l l.length c_l), (3, .bool ok)] ∧ q1 = ((decide ((40 : Int) < (l.length : Int))) || (!ok)) ∧ w1 = w') ?_ (fun hQ => ?_)
    · rintro _ _ ⟨q1, rfl, rfl, rfl⟩
      refine WL.nil (WX.then_normal ?_)
      refine WC.cond rfl (fun b2 => ?_) (fun b2 => ?_)
      · replace H := H.1 (b2)
        refine WC.seq ?_
        refine WC.region ?_
        refine WL.y rfl (Yld.pure tab_ok rfl) ?_
        refine WL.y rfl (Yld.pure tab_ok rfl) ?_
        refine WL.nil (WX.then_normal ?_)
        refine WC.ret (WX.then_ret ?_)
        exact WX.ret1 rfl rfl ⟨gr1, ok, rfl, H⟩
      · replace H := H.2 (b2)
        refine WC.skip (WX.then_normal ?_)
        refine WC.seq ?_
        refine WC.region ?_
        refine WL.call rfl rfl (W_disk_New (hG.grown gr1) hS9 hS11 hS100 (OwnK.nil enc43_ok w1 w.heap.size 43).rd rfl H) ?_
        rintro v_ w2 ⟨hg_, hc_ | hc_⟩
        · obtain ⟨v_t321, t321, rfl, ht321, H⟩ := hc_
          have hg2 := hg_
          have gr2 := gr_trans gr1 hg2
          refine WL.y rfl (Yld.pure tab_ok rfl) ?_
          refine WL.y rfl (Yld.pure tab_ok rfl) ?_
          refine WL.y rfl (Yld.pure tab_ok rfl) ?_
          refine WL.y rfl (Yld.pure tab_ok rfl) ?_
          refine WL.y rfl (Yld.pure tab_ok rfl) ?_
          refine WL.nil (WX.then_normal ?_)
          refine WC.seq ?_
          refine WC.seq ?_
          refine WC.region ?_
          refine WL.y rfl (Yld.pure tab_ok rfl) ?_
          refine WL.y rfl (Yld.peqnil Tryd.underlying39 rfl rfl) ?_
          refine WL.y rfl (Yld.pure tab_ok rfl) ?_
          refine WL.midF 3 (fun L' w' => ∃ q2 : Bool, L' = [(40, .bool q2), (0, .slice A_l l.length c_l), (4, .pointer none)] ∧ q2 = true ∧ w2 = w') ?_ (fun hQ => ?_)
          · rintro _ _ ⟨q2, rfl, rfl, rfl⟩
            refine WL.nil (WX.then_normal ?_)
            refine WC.cond rfl (fun _ => ?_) (fun h => by cases h)
            refine WC.seq ?_
            refine WC.region ?_
            refine WL.y rfl (Yld.pure tab_ok rfl) ?_
            refine WL.nil (WX.then_normal ?_)
            refine WC.ret (WX.then_ret ?_)
            exact WX.ret1 rfl rfl ⟨gr2, false, rfl, H⟩
          · clear H
            refine WL.gno rfl rfl (rfl) rfl ?_
            refine WL.gno rfl rfl (rfl) rfl ?_
            refine WL.y rfl (Yld.pickT (rfl) rfl) ?_
            exact WL.weaken (by repeat (first | exact Sub.nil | refine Sub.cons rfl ?_)) (hQ _ _ ⟨true, rfl, rfl, rfl⟩)
        · obtain ⟨g_t320, g_t320_files, hs_t320_files, t320_files, t320_ops, t320_left, t320_down, v_t3212, t3212, rfl, ht3212, ht320_files, hge1, ht320, hge2, dj1, H⟩ := hc_
          have hg3 := hg_
          have gr3 := gr_trans gr1 hg3
          refine WL.y rfl (Yld.pure tab_ok rfl) ?_
          refine WL.y rfl (Yld.pure tab_ok rfl) ?_
          refine WL.y rfl (Yld.pure tab_ok rfl) ?_
          refine WL.y rfl (Yld.pure tab_ok rfl) ?_
          refine WL.y rfl (Yld.pure tab_ok rfl) ?_
          refine WL.nil (WX.then_normal ?_)
          refine WC.seq ?_
          refine WC.seq ?_
          refine WC.region ?_
          refine WL.y rfl (Yld.pure tab_ok rfl) ?_
          refine WL.y rfl (Yld.peqnil Tryd.underlying39 rfl rfl) ?_
          refine WL.y rfl (Yld.pure tab_ok rfl) ?_
          refine WL.midF 3 (fun L' w' => ∃ q3 : Bool, L' = [(40, .bool q3), (0, .slice A_l l.length c_l), (4, .pointer (some ⟨g_t320, 0, none⟩))] ∧ q3 = (!decide (t3212 = Er.ok)) ∧ w2 = w') ?_ (fun hQ => ?_)
          · rintro _ _ ⟨q3, rfl, rfl, rfl⟩
            refine WL.nil (WX.then_normal ?_)
            refine WC.cond rfl (fun b3 => ?_) (fun b3 => ?_)
            · replace H := H.1 (nd_true b3)
              refine WC.seq ?_
              refine WC.region ?_
              refine WL.y rfl (Yld.pure tab_ok rfl) ?_
              refine WL.nil (WX.then_normal ?_)
              refine WC.ret (WX.then_ret ?_)
              exact WX.ret1 rfl rfl ⟨gr3, false, rfl, H⟩
            · replace H := H.2 (nd_false b3)
              refine WC.skip (WX.then_normal ?_)
              refine WC.seq ?_
              refine WC.region ?_
              refine WL.lit tab_ok rfl rfl rfl (all1c rfl (all1c rfl (all1c rfl all1n))) rfl (by omega) (fun g1 w5 hB1 hg4 hl1 => ?_)
              have hO1 : Own vs w5 w.heap.size 9 (some ⟨g1, 0, none⟩) 3 ([([97] : List UInt8), ([98, 47, 99] : List UInt8), ([100] : List UInt8)] : List (List UInt8)) := Own.ofBl hB1 (Nat.le_trans (size_le gr3) hl1) (by simp [maxLen]) rfl
              have gr4 := gr_trans gr3 hg4
              have k1 := ht320_files.g0 hg4
              have k2 := ht320.g0 hg4
              refine WL.y rfl (Yld.pure tab_ok rfl) ?_
              refine WL.nil (WX.then_normal ?_)
              refine WC.seq ?_
              refine WC.region ?_
              refine WL.lit tab_ok rfl rfl rfl (all1c rfl (all1c rfl (all1c rfl all1n))) rfl (by omega) (fun g2 w6 hB2 hg5 hl2 => ?_)
              have hO2 : Own vB w6 w.heap.size 4 (some ⟨g2, 0, none⟩) 3 ([false, false, false] : List Bool) := Own.ofBl hB2 (Nat.le_trans (size_le gr4) hl2) (by simp [maxLen]) rfl
              have gr5 := gr_trans gr4 hg5
              have k3 := k1.g0 hg5
              have k4 := k2.g0 hg5
              have k5 := hO1.grown hg5
              refine WL.y rfl (Yld.pure tab_ok rfl) ?_
              refine WL.nil (WX.then_normal ?_)
              refine WC.seq ?_
              refine WC.region ?_
              refine WL.lit tab_ok rfl rfl rfl (all1c rfl (all1c rfl (all1c rfl all1n))) rfl (by omega) (fun g3 w7 hB3 hg6 hl3 => ?_)
              have hO3 : Own vs w7 w.heap.size 9 (some ⟨g3, 0, none⟩) 3 ([([] : List UInt8), ([] : List UInt8), ([] : List UInt8)] : List (List UInt8)) := Own.ofBl hB3 (Nat.le_trans (size_le gr5) hl3) (by simp [maxLen]) rfl
              have gr6 := gr_trans gr5 hg6
              have k6 := k3.g0 hg6
              have k7 := k4.g0 hg6
              have k8 := k5.grown hg6
              have k9 := hO2.grown hg6
              refine WL.y rfl (Yld.pure tab_ok rfl) ?_
              refine WL.nil (WX.then_normal ?_)
              refine WC.seq ?_
              refine WC.seq ?_
              refine WC.region ?_
              refine WL.y rfl (Yld.pure tab_ok rfl) ?_
              refine WL.nil (WX.then_normal ?_)
              refine WC.block ?_
              obtain ⟨I1, mu1, h0_1, HR1⟩ := H
              refine WC.loopF (fun n' L' w' => ∃ (i : Int), ∃ (t3200 : List (List UInt8 × List UInt8 × Bool × List UInt8 × Bool × List (Int × List UInt8))), ∃ (hs_t3200 : List (List UInt8 × PH)), ∃ (t3201 : Int), ∃ (t3202 : Int), ∃ (t3203 : Bool), ∃ (have_ : List Bool), ∃ (text : List (List UInt8)), n' = mu1 i t3200 t3201 t3202 t3203 have_ text ∧ L' = [(0, .slice A_l l.length c_l), (4, .pointer (some ⟨g_t320, 0, none⟩)), (6, .slice (some ⟨g1, 0, none⟩) 3 3), (7, .slice (some ⟨g2, 0, none⟩) 3 3), (8, .slice (some ⟨g3, 0, none⟩) 3 3), (9, .int .i64 i)] ∧ I1 i t3200 t3201 t3202 t3203 have_ text ∧ 3 = have_.length ∧ 3 = text.length ∧ w.grownBy w' none ∧ Bl w' g_t320 124 [.map (some g_t320_files), .int .i64 t3201, .int .i64 t3202, .bool t3203] ∧ Own vs w' w.heap.size 9 (some ⟨g1, 0, none⟩) 3 ([([97] : List UInt8), ([98, 47, 99] : List UInt8), ([100] : List UInt8)] : List (List UInt8)) ∧ Own vB w' w.heap.size 4 (some ⟨g2, 0, none⟩) 3 have_ ∧ Own vs w' w.heap.size 9 (some ⟨g3, 0, none⟩) 3 text ∧ PoolO pe128 w' g_t320_files hs_t3200 t3200 none ∧ Dj (some g_t320) (blk (some ⟨g1, 0, none⟩)) ∧ Dj (some g_t320) (blk (some ⟨g2, 0, none⟩)) ∧ Dj (some g_t320) (blk (some ⟨g3, 0, none⟩)) ∧ AllP (Dj (some g_t320)) (FP g_t320_files hs_t3200 none) ∧ Dj (blk (some ⟨g1, 0, none⟩)) (blk (some ⟨g2, 0, none⟩)) ∧ Dj (blk (some ⟨g1, 0, none⟩)) (blk (some ⟨g3, 0, none⟩)) ∧ AllP (Dj (blk (some ⟨g1, 0, none⟩))) (FP g_t320_files hs_t3200 none) ∧ Dj (blk (some ⟨g2, 0, none⟩)) (blk (some ⟨g3, 0, none⟩)) ∧ AllP (Dj (blk (some ⟨g2, 0, none⟩))) (FP g_t320_files hs_t3200 none) ∧ AllP (Dj (blk (some ⟨g3, 0, none⟩))) (FP g_t320_files hs_t3200 none) ∧ AllP (fun p => Ge p w.heap.size) (FP g_t320_files hs_t3200 none)) _ _ ⟨(0 : Int), t320_files, hs_t320_files, t320_ops, t320_left, t320_down, ([false, false, false] : List Bool), ([([] : List UInt8), ([] : List UInt8), ([] : List UInt8)] : List (List UInt8)), rfl, rfl, h0_1, rfl, rfl, gr6, k7, k8, k9, hO3, k6, (Dj.new ht320.lt' (Ge.box hl1)), (Dj.new k2.lt' (Ge.box hl2)), (Dj.new k4.lt' (Ge.box hl3)), dj1, (Dj.new hO1.lt' (Ge.box hl2)), (Dj.new k5.lt' (Ge.box hl3)), (ht320_files.new (Ge.box hl1)), (Dj.new hO2.lt' (Ge.box hl3)), (k1.new (Ge.box hl2)), (k3.new (Ge.box hl3)), (fun p hp => Ge.le (hge1 p hp) (size_le gr1))⟩ (by repeat (first | exact Sub.nil | refine Sub.cons rfl ?_)) ?_
              clear h0_1
              rintro _ _ w8 ⟨i, t3200, hs_t3200, t3201, t3202, t3203, have_, text, rfl, rfl, hI1, hn_have_, hn_text, gr7, k10, k11, k12, k13, k14, dj2, dj3, dj4, dj5, dj6, dj7, dj8, dj9, dj10, dj11, hi1⟩
              have H := HR1 i t3200 t3201 t3202 t3203 have_ text hI1
              replace H := H hn_have_
              replace H := H hn_text
              refine WC.seq ?_
              refine WC.seq ?_
              refine WC.region ?_
              refine WL.y rfl (Yld.pure tab_ok rfl) ?_
              refine WL.y rfl (Yld.pure tab_ok rfl) ?_
              refine WL.y rfl (Yld.pure tab_ok rfl) ?_
              refine WL.y rfl (Yld.pure tab_ok rfl) ?_
              refine WL.nil (WX.then_normal ?_)
              refine WC.cond rfl (fun b4 => ?_) (fun b4 => ?_)
              · replace H := H.1 (of_decide_eq_true b4)
                refine WC.skip (WX.then_normal ?_)
                refine WC.seq ?_
                refine WC.block ?_
                refine WC.seq ?_
                refine WC.region ?_
                refine WL.y rfl (Yld.pure tab_ok rfl) ?_
                refine WL.y rfl (Yld.pure tab_ok rfl) ?_
                obtain ⟨h1, H⟩ := H
                refine WL.y rfl (Yld.iaddrK tab_ok (hl.grown gr7) rfl rfl rfl rfl h1.1 h1.2) ?_
                refine WL.y rfl (Yld.faddrK tab_ok (hl.grown gr7) (iltN h1 rfl) rfl rfl rfl) ?_
                refine WL.y rfl (Yld.iloadF (0, 0, 0, [], []) tab_ok (hl.grown gr7) rfl rfl (iltN h1 rfl) rfl) ?_
                refine WL.call rfl rfl (W_smithyworld_Number H) ?_
                rintro _ _ ⟨rfl, k, rfl, H⟩
                refine WL.y rfl (Yld.pure tab_ok rfl) ?_
                refine WL.nil (WX.then_normal ?_)
                refine WC.seq ?_
                refine WC.seq ?_
                refine WC.region ?_
                refine WL.y rfl (Yld.pure tab_ok rfl) ?_
                refine WL.y rfl (Yld.pure tab_ok rfl) ?_
                obtain ⟨h2, H⟩ := H
                refine WL.y rfl (Yld.iaddrK tab_ok (hl.grown gr7) rfl rfl rfl rfl h2.1 h2.2) ?_
                refine WL.y rfl (Yld.faddrK tab_ok (hl.grown gr7) (iltN h2 rfl) rfl rfl rfl) ?_
                refine WL.y rfl (Yld.iloadF (0, 0, 0, [], []) tab_ok (hl.grown gr7) rfl rfl (iltN h2 rfl) rfl) ?_
                refine WL.y rfl (Yld.pure tab_ok rfl) ?_
                refine WL.y rfl (Yld.pure tab_ok rfl) ?_
                refine WL.nil (WX.then_normal ?_)
                refine WC.cond rfl (fun b5 => ?_) (fun b5 => ?_)
                · replace H := H.1 (of_decide_eq_true b5)
                  refine WC.seq ?_
                  refine WC.region ?_
                  refine WL.y rfl (Yld.pure tab_ok rfl) ?_
                  refine WL.nil (WX.then_normal ?_)
                  refine WC.ret (WX.then_ret (WX.block_ret (WX.then_ret (WX.then_ret (WX.block_ret (WX.then_ret ?_))))))
                  exact WX.ret1 rfl rfl ⟨gr7, true, rfl, H⟩
                · replace H := H.2 (of_decide_eq_false b5)
                  refine WC.skip (WX.then_normal ?_)
                  refine WC.seq ?_
                  refine WC.region ?_
                  refine WL.y rfl (Yld.pure tab_ok rfl) ?_
                  refine WL.nil (WX.then_normal ?_)
                  refine WC.seq ?_
                  obtain ⟨J1, H, hJ1⟩ := H
                  refine WC.midF (fun L' w' => ∃ (v_f : Value), ∃ (f : Er), ∃ (t32002 : List (List UInt8 × List UInt8 × Bool × List UInt8 × Bool × List (Int × List UInt8))), ∃ (hs_t32002 : List (List UInt8 × PH)), ∃ (t32012 : Int), ∃ (t32022 : Int), ∃ (t32032 : Bool), ∃ (xs : List Bool), ∃ (xs2 : List (List UInt8)), L' = [(0, .slice A_l l.length c_l), (4, .pointer (some ⟨g_t320, 0, none⟩)), (6, .slice (some ⟨g1, 0, none⟩) 3 3), (7, .slice (some ⟨g2, 0, none⟩) 3 3), (8, .slice (some ⟨g3, 0, none⟩) 3 3), (9, .int .i64 i), (10, .int .i64 k), (11, v_f)] ∧ J1 f t32002 t32012 t32022 t32032 xs xs2 ∧ 3 = xs.length ∧ 3 = xs2.length ∧ w.grownBy w' none ∧ Bl w' g_t320 124 [.map (some g_t320_files), .int .i64 t32012, .int .i64 t32022, .bool t32032] ∧ Own vs w' w.heap.size 9 (some ⟨g1, 0, none⟩) 3 ([([97] : List UInt8), ([98, 47, 99] : List UInt8), ([100] : List UInt8)] : List (List UInt8)) ∧ Own vB w' w.heap.size 4 (some ⟨g2, 0, none⟩) 3 xs ∧ Own vs w' w.heap.size 9 (some ⟨g3, 0, none⟩) 3 xs2 ∧ ErrR S w' v_f f ∧ PoolO pe128 w' g_t320_files hs_t32002 t32002 none ∧ Dj (some g_t320) (blk (some ⟨g1, 0, none⟩)) ∧ Dj (some g_t320) (blk (some ⟨g2, 0, none⟩)) ∧ Dj (some g_t320) (blk (some ⟨g3, 0, none⟩)) ∧ AllP (Dj (some g_t320)) (FP g_t320_files hs_t32002 none) ∧ Dj (blk (some ⟨g1, 0, none⟩)) (blk (some ⟨g2, 0, none⟩)) ∧ Dj (blk (some ⟨g1, 0, none⟩)) (blk (some ⟨g3, 0, none⟩)) ∧ AllP (Dj (blk (some ⟨g1, 0, none⟩))) (FP g_t320_files hs_t32002 none) ∧ Dj (blk (some ⟨g2, 0, none⟩)) (blk (some ⟨g3, 0, none⟩)) ∧ AllP (Dj (blk (some ⟨g2, 0, none⟩))) (FP g_t320_files hs_t32002 none) ∧ AllP (Dj (blk (some ⟨g3, 0, none⟩))) (FP g_t320_files hs_t32002 none) ∧ AllP (fun p => Ge p w.heap.size) (FP g_t320_files hs_t32002 none)) ?_ (fun hQ => ?_)
                  · clear H
                    rintro _ w9 ⟨v_f, f, t32002, hs_t32002, t32012, t32022, t32032, xs, xs2, rfl, H, hn_xs, hn_xs2, gr8, k15, k16, k17, k18, k19, k20, dj12, dj13, dj14, dj15, dj16, dj17, dj18, dj19, dj20, dj21, hi2⟩
                    replace H := hJ1 f t32002 t32012 t32022 t32032 xs xs2 H
                    replace H := H hn_xs
                    replace H := H hn_xs2
                    refine WX.then_normal ?_
                    refine WC.seq ?_
                    refine WC.region ?_
                    refine WL.y rfl (Yld.pure tab_ok rfl) ?_
                    refine WL.y rfl (Yld.pure tab_ok rfl) ?_
                    refine WL.y rfl (Yld.pure tab_ok rfl) ?_
                    obtain ⟨h3, H⟩ := H
                    refine WL.y rfl (Yld.iaddrW tab_ok k16.rd rfl rfl rfl rfl h3.1 h3.2) ?_
                    refine WL.y rfl (Yld.iload [] tab_ok k16.rd rfl rfl (iltN h3 rfl)) ?_
                    refine WL.call rfl rfl (W_pdisk_Disk_Read (GB.grown hG gr8) (size_le gr8) (apC (Ge.le hge2 (size_le gr1)) hi2) hS15 k20 k15 dj15 H) ?_
                    rintro _ w10 ⟨hgl1, t1470, t1471, v_t1472, t1472, hs_t320_, t320_, t320_2, t320_3, t320_4, rfl, ht1472, hB4, hM1, hi3, dj22, H⟩
                    have gr9 := gr_modL gr8 hgl1 (apC (Ge.le hge2 (size_le gr1)) hi2)
                    have k21 := k16.goL hgl1 (apC dj12.symm dj18)
                    have k22 := k17.goL hgl1 (apC dj13.symm dj20)
                    have k23 := k18.goL hgl1 (apC dj14.symm dj21)
                    have k24 := ErrR.goB k19 (GB.grown hG gr8) hgl1 (apC (Ge.le hge2 (size_le gr1)) hi2) (apC (NoAt.bl k15 rfl) k20.noats)
                    refine WL.y rfl (Yld.pure tab_ok rfl) ?_
                    refine WL.y rfl (Yld.pure tab_ok rfl) ?_
                    refine WL.y rfl (Yld.pure tab_ok rfl) ?_
                    refine WL.y rfl (Yld.pure tab_ok rfl) ?_
                    refine WL.y rfl (Yld.pure tab_ok rfl) ?_
                    refine WL.y rfl (Yld.pure tab_ok rfl) ?_
                    refine WL.y rfl (Yld.pure tab_ok rfl) ?_
                    refine WL.nil (WX.then_normal ?_)
                    refine WC.seq ?_
                    refine WC.region ?_
                    refine WL.y rfl (Yld.pure tab_ok rfl) ?_
                    refine WL.y rfl (Yld.errneq Tryd.underlying29 k24 rfl) ?_
                    refine WL.y rfl (Yld.pure tab_ok rfl) ?_
                    refine WL.midF 3 (fun L' w' => ∃ q4 : Bool, L' = [(156, .bool q4), (0, .slice A_l l.length c_l), (4, .pointer (some ⟨g_t320, 0, none⟩)), (6, .slice (some ⟨g1, 0, none⟩) 3 3), (7, .slice (some ⟨g2, 0, none⟩) 3 3), (8, .slice (some ⟨g3, 0, none⟩) 3 3), (9, .int .i64 i), (10, .int .i64 k), (12, vs t1470), (13, .bool t1471)] ∧ q4 = ((!decide (f = Er.ok)) || (!decide (t1472 = Er.ok))) ∧ w10 = w') ?_ (fun hQ => ?_)
                    · rintro _ _ ⟨q4, rfl, rfl, rfl⟩
                      refine WL.y rfl (Yld.pure tab_ok rfl) ?_
                      obtain ⟨h4, H⟩ := H
                      refine WL.midF 7 (fun L' w' => ∃ q5 : Bool, L' = [(164, .bool q5), (0, .slice A_l l.length c_l), (4, .pointer (some ⟨g_t320, 0, none⟩)), (6, .slice (some ⟨g1, 0, none⟩) 3 3), (7, .slice (some ⟨g2, 0, none⟩) 3 3), (8, .slice (some ⟨g3, 0, none⟩) 3 3), (9, .int .i64 i), (10, .int .i64 k), (13, .bool t1471)] ∧ q5 = (((!decide (f = Er.ok)) || (!decide (t1472 = Er.ok))) || (!decide (t1470 = (xs2.getD k.toNat [])))) ∧ w10 = w') ?_ (fun hQ => ?_)
                      · rintro _ _ ⟨q5, rfl, rfl, rfl⟩
                        refine WL.y rfl (Yld.pure tab_ok rfl) ?_
                        obtain ⟨h5, H⟩ := H
                        refine WL.midF 7 (fun L' w' => ∃ q6 : Bool, L' = [(172, .bool q6), (0, .slice A_l l.length c_l), (4, .pointer (some ⟨g_t320, 0, none⟩)), (6, .slice (some ⟨g1, 0, none⟩) 3 3), (7, .slice (some ⟨g2, 0, none⟩) 3 3), (8, .slice (some ⟨g3, 0, none⟩) 3 3), (9, .int .i64 i)] ∧ q6 = ((((!decide (f = Er.ok)) || (!decide (t1472 = Er.ok))) || (!decide (t1470 = (xs2.getD k.toNat [])))) || (!(t1471 == (xs.getD k.toNat false)))) ∧ w10 = w') ?_ (fun hQ => ?_)
                        · rintro _ _ ⟨q6, rfl, rfl, rfl⟩
                          refine WL.y rfl (Yld.pure tab_ok rfl) ?_
                          obtain ⟨J2, H, hJ2⟩ := H
                          refine WL.midF 7 (fun L' w' => ∃ q7 : Bool, L' = [(180, .bool q7), (0, .slice A_l l.length c_l), (4, .pointer (some ⟨g_t320, 0, none⟩)), (6, .slice (some ⟨g1, 0, none⟩) 3 3), (7, .slice (some ⟨g2, 0, none⟩) 3 3), (8, .slice (some ⟨g3, 0, none⟩) 3 3), (9, .int .i64 i)] ∧ J2 q7 ∧ w10 = w') ?_ (fun hQ => ?_)
                          · clear H
                            rintro _ _ ⟨q7, rfl, H, rfl⟩
                            replace H := hJ2 q7 H
                            refine WL.nil (WX.then_normal ?_)
                            refine WC.cond rfl (fun b6 => ?_) (fun b6 => ?_)
                            · replace H := H.1 (b6)
                              refine WC.seq ?_
                              refine WC.region ?_
                              refine WL.y rfl (Yld.pure tab_ok rfl) ?_
                              refine WL.nil (WX.then_normal ?_)
                              refine WC.ret (WX.block_ret (WX.then_ret (WX.then_ret (WX.block_ret (WX.then_ret ?_)))))
                              exact WX.ret1 rfl rfl ⟨gr9, false, rfl, H⟩
                            · replace H := H.2 (b6)
                              refine WC.skip (WX.block_normal (WX.then_normal ?_))
                              refine WC.region ?_
                              refine WL.y rfl (Yld.pure tab_ok rfl) ?_
                              obtain ⟨h6, H⟩ := H
                              refine WL.y rfl (Yld.add rfl rfl h6) ?_
                              refine WL.y rfl (Yld.pure tab_ok rfl) ?_
                              refine WL.nil ?_
                              exact WX.roundF _ ⟨i + (1 : Int), t320_, hs_t320_, t320_2, t320_3, t320_4, xs, xs2, rfl, rfl, H.1, hn_xs, hn_xs2, gr9, hB4, k21, k22, k23, hM1, dj12, dj13, dj14, dj22, dj16, dj17, (InA.dj hi3 k16.lt' (apC dj12.symm dj18)), dj19, (InA.dj hi3 k17.lt' (apC dj13.symm dj20)), (InA.dj hi3 k18.lt' (apC dj14.symm dj21)), (InA.toGe hi3 (apC (Ge.le hge2 (size_le gr1)) hi2) (size_le gr8))⟩ (by repeat (first | exact Sub.nil | refine Sub.cons rfl ?_)) H.2
                          · clear hJ2
                            rcases Bool.eq_false_or_eq_true ((((!decide (f = Er.ok)) || (!decide (t1472 = Er.ok))) || (!decide (t1470 = (xs2.getD k.toNat [])))) || (!(t1471 == (xs.getD k.toNat false)))) with b7 | b7
                            · replace H := H.1 b7
                              refine WL.gno rfl rfl (okb b7) rfl ?_
                              refine WL.gno rfl rfl (okb b7) rfl ?_
                              refine WL.gno rfl rfl (okb b7) rfl ?_
                              refine WL.gno rfl rfl (okb b7) rfl ?_
                              refine WL.gno rfl rfl (okb b7) rfl ?_
                              refine WL.gno rfl rfl (okb b7) rfl ?_
                              refine WL.y rfl (Yld.pickT (okb b7) rfl) ?_
                              exact WL.weaken (by repeat (first | exact Sub.nil | refine Sub.cons rfl ?_)) (hQ _ _ ⟨true, rfl, H, rfl⟩)
                            · replace H := H.2 b7
                              refine WL.gyes rfl rfl (okb b7) rfl (Yld.pure tab_ok rfl) ?_
                              refine WL.callw (wants_some rfl rfl (okb b7)) rfl rfl (W_pdisk_Disk_Ops hM1 hB4 H) ?_
                              rintro _ _ ⟨rfl, t175, rfl, H⟩
                              refine WL.gyes rfl rfl (okb b7) rfl (Yld.pure tab_ok rfl) ?_
                              obtain ⟨h7, H⟩ := H
                              refine WL.gyes rfl rfl (okb b7) rfl (Yld.mul rfl rfl h7) ?_
                              obtain ⟨h8, H⟩ := H
                              refine WL.gyes rfl rfl (okb b7) rfl (Yld.add rfl rfl h8) ?_
                              refine WL.gyes rfl rfl (okb b7) rfl (Yld.pure tab_ok rfl) ?_
                              refine WL.y rfl (Yld.pickF (okb b7) rfl) ?_
                              exact WL.weaken (by repeat (first | exact Sub.nil | refine Sub.cons rfl ?_)) (hQ _ _ ⟨!decide (t175 = (((2 : Int) * i) + (2 : Int))), rfl, H, rfl⟩)
                        · clear H
                          rcases Bool.eq_false_or_eq_true (((!decide (f = Er.ok)) || (!decide (t1472 = Er.ok))) || (!decide (t1470 = (xs2.getD k.toNat [])))) with b8 | b8
                          · refine WL.gno rfl rfl (okb b8) rfl ?_
                            refine WL.gno rfl rfl (okb b8) rfl ?_
                            refine WL.gno rfl rfl (okb b8) rfl ?_
                            refine WL.gno rfl rfl (okb b8) rfl ?_
                            refine WL.gno rfl rfl (okb b8) rfl ?_
                            refine WL.gno rfl rfl (okb b8) rfl ?_
                            refine WL.y rfl (Yld.pickT (okb b8) rfl) ?_
                            exact WL.weaken (by repeat (first | exact Sub.nil | refine Sub.cons rfl ?_)) (hQ _ _ ⟨true, rfl, by rw [b8] <;> rfl, rfl⟩)
                          · refine WL.gyes rfl rfl (okb b8) rfl (Yld.pure tab_ok rfl) ?_
                            refine WL.gyes rfl rfl (okb b8) rfl (Yld.pure tab_ok rfl) ?_
                            refine WL.gyes rfl rfl (okb b8) rfl (Yld.pure tab_ok rfl) ?_
                            refine WL.gyes rfl rfl (okb b8) rfl (Yld.iaddrW tab_ok k22.rd rfl rfl hn_xs rfl (h5 b8).1 (h5 b8).2) ?_
                            refine WL.gyes rfl rfl (okb b8) rfl (Yld.iload false tab_ok k22.rd rfl rfl (iltN (h5 b8) hn_xs)) ?_
                            refine WL.gyes rfl rfl (okb b8) rfl (Yld.bneq Tryd.underlying4 rfl rfl) ?_
                            refine WL.y rfl (Yld.pickF (okb b8) rfl) ?_
                            exact WL.weaken (by repeat (first | exact Sub.nil | refine Sub.cons rfl ?_)) (hQ _ _ ⟨!(t1471 == (xs.getD k.toNat false)), rfl, by rw [b8] <;> rfl, rfl⟩)
                      · clear H
                        rcases Bool.eq_false_or_eq_true ((!decide (f = Er.ok)) || (!decide (t1472 = Er.ok))) with b9 | b9
                        · refine WL.gno rfl rfl (okb b9) rfl ?_
                          refine WL.gno rfl rfl (okb b9) rfl ?_
                          refine WL.gno rfl rfl (okb b9) rfl ?_
                          refine WL.gno rfl rfl (okb b9) rfl ?_
                          refine WL.gno rfl rfl (okb b9) rfl ?_
                          refine WL.gno rfl rfl (okb b9) rfl ?_
                          refine WL.y rfl (Yld.pickT (okb b9) rfl) ?_
                          exact WL.weaken (by repeat (first | exact Sub.nil | refine Sub.cons rfl ?_)) (hQ _ _ ⟨true, rfl, by rw [b9] <;> rfl, rfl⟩)
                        · refine WL.gyes rfl rfl (okb b9) rfl (Yld.pure tab_ok rfl) ?_
                          refine WL.gyes rfl rfl (okb b9) rfl (Yld.pure tab_ok rfl) ?_
                          refine WL.gyes rfl rfl (okb b9) rfl (Yld.pure tab_ok rfl) ?_
                          refine WL.gyes rfl rfl (okb b9) rfl (Yld.iaddrW tab_ok k23.rd rfl rfl hn_xs2 rfl (h4 b9).1 (h4 b9).2) ?_
                          refine WL.gyes rfl rfl (okb b9) rfl (Yld.iload [] tab_ok k23.rd rfl rfl (iltN (h4 b9) hn_xs2)) ?_
                          refine WL.gyes rfl rfl (okb b9) rfl (Yld.pure tab_ok rfl) ?_
                          refine WL.y rfl (Yld.pickF (okb b9) rfl) ?_
                          exact WL.weaken (by repeat (first | exact Sub.nil | refine Sub.cons rfl ?_)) (hQ _ _ ⟨!decide (t1470 = (xs2.getD k.toNat [])), rfl, by rw [b9] <;> rfl, rfl⟩)
                    · clear H
                      rcases Bool.eq_false_or_eq_true (!decide (f = Er.ok)) with b10 | b10
                      · refine WL.gno rfl rfl (okb b10) rfl ?_
                        refine WL.gno rfl rfl (okb b10) rfl ?_
                        refine WL.y rfl (Yld.pickT (okb b10) rfl) ?_
                        exact WL.weaken (by repeat (first | exact Sub.nil | refine Sub.cons rfl ?_)) (hQ _ _ ⟨true, rfl, by rw [b10] <;> rfl, rfl⟩)
                      · refine WL.gyes rfl rfl (okb b10) rfl (Yld.pure tab_ok rfl) ?_
                        refine WL.gyes rfl rfl (okb b10) rfl (Yld.errneq Tryd.underlying29 ht1472 rfl) ?_
                        refine WL.y rfl (Yld.pickF (okb b10) rfl) ?_
                        exact WL.weaken (by repeat (first | exact Sub.nil | refine Sub.cons rfl ?_)) (hQ _ _ ⟨!decide (t1472 = Er.ok), rfl, by rw [b10] <;> rfl, rfl⟩)
                  · clear hJ1
                    refine WC.seq ?_
                    refine WC.region ?_
                    refine WL.y rfl (Yld.pure tab_ok rfl) ?_
                    refine WL.y rfl (Yld.pure tab_ok rfl) ?_
                    obtain ⟨h9, H⟩ := H
                    refine WL.y rfl (Yld.iaddrK tab_ok (hl.grown gr7) rfl rfl rfl rfl h9.1 h9.2) ?_
                    refine WL.y rfl (Yld.faddrK tab_ok (hl.grown gr7) (iltN h9 rfl) rfl rfl rfl) ?_
                    refine WL.y rfl (Yld.iloadF (0, 0, 0, [], []) tab_ok (hl.grown gr7) rfl rfl (iltN h9 rfl) rfl) ?_
                    refine WL.nil (WX.then_normal ?_)
                    refine WC.block ?_
                    refine WC.seq ?_
                    refine WC.region ?_
                    refine WL.y rfl (Yld.pure tab_ok rfl) ?_
                    refine WL.y rfl (Yld.pure tab_ok rfl) ?_
                    refine WL.nil (WX.then_normal ?_)
                    refine WC.cond rfl (fun b11 => ?_) (fun b11 => ?_)
                    · replace H := H.1 (of_decide_eq_true b11)
                      refine WC.seq ?_
                      refine WC.chainF (fun k => !(Nat.beq k 10)) (LD [4, 9] (fun w' => Rd vs w' (some ⟨g1, 0, none⟩) 3 ([([97] : List UInt8), ([98, 47, 99] : List UInt8), ([100] : List UInt8)] : List (List UInt8)) ∧ RdK 5 enc54 w' A_l c_l l)) mixed (by kernel_rfl) (fun k w' h _ => ⟨(rd_eqv h k11.rd), (RdK.eqv h (hl.grown gr7))⟩) ?_
                      refine WJ.y rfl rfl (fun w' hw' => Yld.pure tab_ok rfl) ?_
                      refine WJ.y rfl rfl (fun w' hw' => Yld.pure tab_ok rfl) ?_
                      refine WJ.y rfl rfl (fun w' hw' => Yld.pure tab_ok rfl) ?_
                      obtain ⟨h10, H⟩ := H
                      refine WJ.y rfl rfl (fun w' hw' => Yld.iaddrW tab_ok k11.rd rfl rfl rfl rfl h10.1 h10.2) ?_
                      refine WJ.y rfl rfl (fun w' hw' => Yld.iload [] tab_ok (hw' rfl).1 rfl rfl (iltN h10 rfl)) ?_
                      refine WJ.y rfl rfl (fun w' hw' => Yld.pure tab_ok rfl) ?_
                      refine WJ.y rfl rfl (fun w' hw' => Yld.pure tab_ok rfl) ?_
                      obtain ⟨h11, H⟩ := H
                      refine WJ.y rfl rfl (fun w' hw' => Yld.iaddrK tab_ok (hl.grown gr7) rfl rfl rfl rfl h11.1 h11.2) ?_
                      refine WJ.y rfl rfl (fun w' hw' => Yld.faddrK tab_ok (hl.grown gr7) (iltN h11 rfl) rfl rfl rfl) ?_
                      refine WJ.y rfl rfl (fun w' hw' => Yld.iloadF (0, 0, 0, [], []) tab_ok (hw' rfl).2 rfl rfl (iltN h11 rfl) rfl) ?_
                      refine WJ.call rfl wants_none rfl rfl (W_pdisk_Disk_Write (GB.grown hG gr7) (size_le gr7) (apC (Ge.le hge2 (size_le gr1)) hi1) hS9 hS11 hS15 hS100 k14 k10 dj5 H) (fun v w' h w2 e => DD.past (by kernel_rfl)) ?_
                      rintro v_f2 w11 ⟨hgl2, _, f2, hs_t320_2, t320_5, t320_6, t320_7, t320_8, rfl, hf2, hB5, hM2, hi4, dj23, H⟩
                      have gr10 := gr_modL gr7 hgl2 (apC (Ge.le hge2 (size_le gr1)) hi1)
                      have k25 := k11.goL hgl2 (apC dj2.symm dj8)
                      have k26 := k12.goL hgl2 (apC dj3.symm dj10)
                      have k27 := k13.goL hgl2 (apC dj4.symm dj11)
                      refine WJ.y rfl rfl (fun w' hw' => Yld.pure tab_ok rfl) ?_
                      refine WJ.nil (WX.then_normal ?_)
                      refine WC.seq ?_
                      refine WC.region ?_
                      refine WL.y rfl (Yld.pure tab_ok rfl) ?_
                      refine WL.y rfl (Yld.pure tab_ok rfl) ?_
                      obtain ⟨h12, H⟩ := H
                      refine WL.y rfl (Yld.iaddrW tab_ok k26.rd rfl rfl hn_have_ rfl h12.1 h12.2) ?_
                      refine WL.ostore (v := true) one4 One.B k26 rfl rfl (iltN h12 hn_have_) (fun w12 hO4 hg7 => ?_)
                      have gr11 := gr_mod gr10 hg7 k26.ge'
                      have k28 := hB5.go hg7 dj3
                      have k29 := k25.go hg7 dj6
                      have k30 := k27.go hg7 dj9.symm
                      have k31 := hM2.go hg7 (InA.dj hi4 k12.lt' (apC dj3.symm dj10))
                      have k32 := ErrR.goO hf2 hG gr10 hg7 gr11 k26 rfl
                      refine WL.nil (WX.then_normal ?_)
                      refine WC.region ?_
                      refine WL.y rfl (Yld.pure tab_ok rfl) ?_
                      refine WL.y rfl (Yld.pure tab_ok rfl) ?_
                      refine WL.y rfl (Yld.pure tab_ok rfl) ?_
                      refine WL.y rfl (Yld.pure tab_ok rfl) ?_
                      obtain ⟨h13, H⟩ := H
                      refine WL.y rfl (Yld.iaddrK tab_ok (hl.grown gr11) rfl rfl rfl rfl h13.1 h13.2) ?_
                      refine WL.y rfl (Yld.faddrK tab_ok (hl.grown gr11) (iltN h13 rfl) rfl rfl rfl) ?_
                      refine WL.y rfl (Yld.iloadF (0, 0, 0, [], []) tab_ok (hl.grown gr11) rfl rfl (iltN h13 rfl) rfl) ?_
                      obtain ⟨h14, H⟩ := H
                      refine WL.y rfl (Yld.iaddrW tab_ok k30.rd rfl rfl hn_text rfl h14.1 h14.2) ?_
                      refine WL.ostore (v := (l.getD i.toNat (0, 0, 0, [], [])).2.2.2.2) one9 One.s k30 rfl rfl (iltN h14 hn_text) (fun w13 hO5 hg8 => ?_)
                      have gr12 := gr_mod gr11 hg8 k30.ge'
                      have k33 := k28.go hg8 dj4
                      have k34 := k29.go hg8 dj7
                      have k35 := hO4.go hg8 dj9
                      have k36 := k31.go hg8 (InA.dj hi4 k13.lt' (apC dj4.symm dj11))
                      have k37 := ErrR.goO k32 hG gr11 hg8 gr12 k30 rfl
                      refine WL.nil (WX.block_normal ?_)
                      exact WX.weaken (by repeat (first | exact Sub.nil | refine Sub.cons rfl ?_)) (hQ _ _ ⟨v_f2, f2, t320_5, hs_t320_2, t320_6, t320_7, t320_8, have_.set k.toNat true, text.set k.toNat ((l.getD i.toNat (0, 0, 0, [], [])).2.2.2.2), rfl, H, (hn_have_.trans List.length_set.symm), (hn_text.trans List.length_set.symm), gr12, k33, k34, k35, hO5, k37, k36, dj2, dj3, dj4, dj23, dj6, dj7, (InA.dj hi4 k11.lt' (apC dj2.symm dj8)), dj9, (InA.dj hi4 k12.lt' (apC dj3.symm dj10)), (InA.dj hi4 k13.lt' (apC dj4.symm dj11)), (InA.toGe hi4 (apC (Ge.le hge2 (size_le gr1)) hi1) (size_le gr7))⟩)
                    · replace H := H.2 (of_decide_eq_false b11)
                      refine WC.seq ?_
                      refine WC.region ?_
                      refine WL.y rfl (Yld.pure tab_ok rfl) ?_
                      refine WL.y rfl (Yld.pure tab_ok rfl) ?_
                      refine WL.nil (WX.then_normal ?_)
                      refine WC.cond rfl (fun b12 => ?_) (fun b12 => ?_)
                      · replace H := H.1 (of_decide_eq_true b12)
                        refine WC.seq ?_
                        refine WC.chainF (fun k => !(Nat.beq k 10)) (LD [4, 9] (fun w' => Rd vs w' (some ⟨g1, 0, none⟩) 3 ([([97] : List UInt8), ([98, 47, 99] : List UInt8), ([100] : List UInt8)] : List (List UInt8)) ∧ RdK 5 enc54 w' A_l c_l l)) mixed (by kernel_rfl) (fun k w' h _ => ⟨(rd_eqv h k11.rd), (RdK.eqv h (hl.grown gr7))⟩) ?_
                        refine WJ.y rfl rfl (fun w' hw' => Yld.pure tab_ok rfl) ?_
                        refine WJ.y rfl rfl (fun w' hw' => Yld.pure tab_ok rfl) ?_
                        refine WJ.y rfl rfl (fun w' hw' => Yld.pure tab_ok rfl) ?_
                        obtain ⟨h15, H⟩ := H
                        refine WJ.y rfl rfl (fun w' hw' => Yld.iaddrW tab_ok k11.rd rfl rfl rfl rfl h15.1 h15.2) ?_
                        refine WJ.y rfl rfl (fun w' hw' => Yld.iload [] tab_ok (hw' rfl).1 rfl rfl (iltN h15 rfl)) ?_
                        refine WJ.y rfl rfl (fun w' hw' => Yld.pure tab_ok rfl) ?_
                        refine WJ.y rfl rfl (fun w' hw' => Yld.pure tab_ok rfl) ?_
                        obtain ⟨h16, H⟩ := H
                        refine WJ.y rfl rfl (fun w' hw' => Yld.iaddrK tab_ok (hl.grown gr7) rfl rfl rfl rfl h16.1 h16.2) ?_
                        refine WJ.y rfl rfl (fun w' hw' => Yld.faddrK tab_ok (hl.grown gr7) (iltN h16 rfl) rfl rfl rfl) ?_
                        refine WJ.y rfl rfl (fun w' hw' => Yld.iloadF (0, 0, 0, [], []) tab_ok (hw' rfl).2 rfl rfl (iltN h16 rfl) rfl) ?_
                        refine WJ.call rfl wants_none rfl rfl (W_pdisk_Disk_Append (GB.grown hG gr7) (size_le gr7) (apC (Ge.le hge2 (size_le gr1)) hi1) hS9 hS11 hS15 hS100 k14 k10 dj5 H) (fun v w' h w2 e => DD.past (by kernel_rfl)) ?_
                        rintro v_f3 w14 ⟨hgl3, _, f3, hs_t320_3, t320_9, t320_10, t320_11, t320_12, rfl, hf3, hB6, hM3, hi5, dj24, H⟩
                        have gr13 := gr_modL gr7 hgl3 (apC (Ge.le hge2 (size_le gr1)) hi1)
                        have k38 := k11.goL hgl3 (apC dj2.symm dj8)
                        have k39 := k12.goL hgl3 (apC dj3.symm dj10)
                        have k40 := k13.goL hgl3 (apC dj4.symm dj11)
                        refine WJ.y rfl rfl (fun w' hw' => Yld.pure tab_ok rfl) ?_
                        refine WJ.nil (WX.then_normal ?_)
                        refine WC.seq ?_
                        refine WC.region ?_
                        refine WL.y rfl (Yld.pure tab_ok rfl) ?_
                        refine WL.y rfl (Yld.pure tab_ok rfl) ?_
                        obtain ⟨h17, H⟩ := H
                        refine WL.y rfl (Yld.iaddrW tab_ok k39.rd rfl rfl hn_have_ rfl h17.1 h17.2) ?_
                        refine WL.ostore (v := true) one4 One.B k39 rfl rfl (iltN h17 hn_have_) (fun w15 hO6 hg9 => ?_)
                        have gr14 := gr_mod gr13 hg9 k39.ge'
                        have k41 := hB6.go hg9 dj3
                        have k42 := k38.go hg9 dj6
                        have k43 := k40.go hg9 dj9.symm
                        have k44 := hM3.go hg9 (InA.dj hi5 k12.lt' (apC dj3.symm dj10))
                        have k45 := ErrR.goO hf3 hG gr13 hg9 gr14 k39 rfl
                        refine WL.nil (WX.then_normal ?_)
                        refine WC.chainF (fun k => !(Nat.beq k 13)) (LD [5, 10] (fun w' => Rd vs w' (some ⟨g3, 0, none⟩) 3 text ∧ RdK 5 enc54 w' A_l c_l l)) mixed (by kernel_rfl) (fun k w' h _ => ⟨(rd_eqv h k43.rd), (RdK.eqv h (hl.grown gr14))⟩) ?_
                        refine WJ.y rfl rfl (fun w' hw' => Yld.pure tab_ok rfl) ?_
                        refine WJ.y rfl rfl (fun w' hw' => Yld.pure tab_ok rfl) ?_
                        refine WJ.y rfl rfl (fun w' hw' => Yld.pure tab_ok rfl) ?_
                        refine WJ.y rfl rfl (fun w' hw' => Yld.pure tab_ok rfl) ?_
                        obtain ⟨h18, H⟩ := H
                        refine WJ.y rfl rfl (fun w' hw' => Yld.iaddrW tab_ok k43.rd rfl rfl hn_text rfl h18.1 h18.2) ?_
                        refine WJ.y rfl rfl (fun w' hw' => Yld.iload [] tab_ok (hw' rfl).1 rfl rfl (iltN h18 hn_text)) ?_
                        refine WJ.y rfl rfl (fun w' hw' => Yld.pure tab_ok rfl) ?_
                        refine WJ.y rfl rfl (fun w' hw' => Yld.pure tab_ok rfl) ?_
                        obtain ⟨h19, H⟩ := H
                        refine WJ.y rfl rfl (fun w' hw' => Yld.iaddrK tab_ok (hl.grown gr14) rfl rfl rfl rfl h19.1 h19.2) ?_
                        refine WJ.y rfl rfl (fun w' hw' => Yld.faddrK tab_ok (hl.grown gr14) (iltN h19 rfl) rfl rfl rfl) ?_
                        refine WJ.y rfl rfl (fun w' hw' => Yld.iloadF (0, 0, 0, [], []) tab_ok (hw' rfl).2 rfl rfl (iltN h19 rfl) rfl) ?_
                        obtain ⟨h20, H⟩ := H
                        refine WJ.y rfl rfl (fun w' hw' => Yld.sadd rfl rfl h20) ?_
                        obtain ⟨h21, H⟩ := H
                        refine WJ.y rfl rfl (fun w' hw' => Yld.iaddrW tab_ok k43.rd rfl rfl hn_text rfl h21.1 h21.2) ?_
                        refine WJ.eff rfl (Ef0.ostore (v := (text.getD k.toNat []) ++ ((l.getD i.toNat (0, 0, 0, [], [])).2.2.2.2)) one9 One.s k43 rfl rfl (iltN h21 hn_text)) (fun w' h => DD.past (by kernel_rfl)) ?_
                        rintro w16 ⟨hO7, hg10⟩
                        have gr15 := gr_mod gr14 hg10 k43.ge'
                        have k46 := k41.go hg10 dj4
                        have k47 := k42.go hg10 dj7
                        have k48 := hO6.go hg10 dj9
                        have k49 := k44.go hg10 (InA.dj hi5 k13.lt' (apC dj4.symm dj11))
                        have k50 := ErrR.goO k45 hG gr14 hg10 gr15 k43 rfl
                        refine WJ.nil (WX.block_normal ?_)
                        exact WX.weaken (by repeat (first | exact Sub.nil | refine Sub.cons rfl ?_)) (hQ _ _ ⟨v_f3, f3, t320_9, hs_t320_3, t320_10, t320_11, t320_12, have_.set k.toNat true, text.set k.toNat ((text.getD k.toNat []) ++ ((l.getD i.toNat (0, 0, 0, [], [])).2.2.2.2)), rfl, H, (hn_have_.trans List.length_set.symm), (hn_text.trans List.length_set.symm), gr15, k46, k47, k48, hO7, k50, k49, dj2, dj3, dj4, dj24, dj6, dj7, (InA.dj hi5 k11.lt' (apC dj2.symm dj8)), dj9, (InA.dj hi5 k12.lt' (apC dj3.symm dj10)), (InA.dj hi5 k13.lt' (apC dj4.symm dj11)), (InA.toGe hi5 (apC (Ge.le hge2 (size_le gr1)) hi1) (size_le gr7))⟩)
                      · replace H := H.2 (of_decide_eq_false b12)
                        refine WC.seq ?_
                        refine WC.region ?_
                        refine WL.y rfl (Yld.pure tab_ok rfl) ?_
                        refine WL.y rfl (Yld.pure tab_ok rfl) ?_
                        refine WL.nil (WX.then_normal ?_)
                        refine WC.cond rfl (fun b13 => ?_) (fun b13 => ?_)
                        · replace H := H.1 (of_decide_eq_true b13)
                          refine WC.seq ?_
                          refine WC.region ?_
                          refine WL.y rfl (Yld.pure tab_ok rfl) ?_
                          refine WL.y rfl (Yld.pure tab_ok rfl) ?_
                          refine WL.y rfl (Yld.pure tab_ok rfl) ?_
                          obtain ⟨h22, H⟩ := H
                          refine WL.y rfl (Yld.iaddrW tab_ok k11.rd rfl rfl rfl rfl h22.1 h22.2) ?_
                          refine WL.y rfl (Yld.iload [] tab_ok k11.rd rfl rfl (iltN h22 rfl)) ?_
                          refine WL.call rfl rfl (W_pdisk_Disk_Remove (GB.grown hG gr7) (size_le gr7) (apC (Ge.le hge2 (size_le gr1)) hi1) hS11 hS15 hS100 k14 k10 dj5 H) ?_
                          rintro v_f4 w17 ⟨hgl4, _, f4, hs_t320_4, t320_13, t320_14, t320_15, t320_16, rfl, hf4, hB7, hM4, hi6, dj25, H⟩
                          have gr16 := gr_modL gr7 hgl4 (apC (Ge.le hge2 (size_le gr1)) hi1)
                          have k51 := k11.goL hgl4 (apC dj2.symm dj8)
                          have k52 := k12.goL hgl4 (apC dj3.symm dj10)
                          have k53 := k13.goL hgl4 (apC dj4.symm dj11)
                          refine WL.y rfl (Yld.pure tab_ok rfl) ?_
                          refine WL.nil (WX.then_normal ?_)
                          refine WC.seq ?_
                          refine WC.region ?_
                          refine WL.y rfl (Yld.pure tab_ok rfl) ?_
                          refine WL.y rfl (Yld.pure tab_ok rfl) ?_
                          obtain ⟨h23, H⟩ := H
                          refine WL.y rfl (Yld.iaddrW tab_ok k52.rd rfl rfl hn_have_ rfl h23.1 h23.2) ?_
                          refine WL.ostore (v := false) one4 One.B k52 rfl rfl (iltN h23 hn_have_) (fun w18 hO8 hg11 => ?_)
                          have gr17 := gr_mod gr16 hg11 k52.ge'
                          have k54 := hB7.go hg11 dj3
                          have k55 := k51.go hg11 dj6
                          have k56 := k53.go hg11 dj9.symm
                          have k57 := hM4.go hg11 (InA.dj hi6 k12.lt' (apC dj3.symm dj10))
                          have k58 := ErrR.goO hf4 hG gr16 hg11 gr17 k52 rfl
                          refine WL.nil (WX.then_normal ?_)
                          refine WC.region ?_
                          refine WL.y rfl (Yld.pure tab_ok rfl) ?_
                          refine WL.y rfl (Yld.pure tab_ok rfl) ?_
                          obtain ⟨h24, H⟩ := H
                          refine WL.y rfl (Yld.iaddrW tab_ok k56.rd rfl rfl hn_text rfl h24.1 h24.2) ?_
                          refine WL.ostore (v := ([] : List UInt8)) one9 One.s k56 rfl rfl (iltN h24 hn_text) (fun w19 hO9 hg12 => ?_)
                          have gr18 := gr_mod gr17 hg12 k56.ge'
                          have k59 := k54.go hg12 dj4
                          have k60 := k55.go hg12 dj7
                          have k61 := hO8.go hg12 dj9
                          have k62 := k57.go hg12 (InA.dj hi6 k13.lt' (apC dj4.symm dj11))
                          have k63 := ErrR.goO k58 hG gr17 hg12 gr18 k56 rfl
                          refine WL.nil (WX.block_normal ?_)
                          exact WX.weaken (by repeat (first | exact Sub.nil | refine Sub.cons rfl ?_)) (hQ _ _ ⟨v_f4, f4, t320_13, hs_t320_4, t320_14, t320_15, t320_16, have_.set k.toNat false, text.set k.toNat ([] : List UInt8), rfl, H, (hn_have_.trans List.length_set.symm), (hn_text.trans List.length_set.symm), gr18, k59, k60, k61, hO9, k63, k62, dj2, dj3, dj4, dj25, dj6, dj7, (InA.dj hi6 k11.lt' (apC dj2.symm dj8)), dj9, (InA.dj hi6 k12.lt' (apC dj3.symm dj10)), (InA.dj hi6 k13.lt' (apC dj4.symm dj11)), (InA.toGe hi6 (apC (Ge.le hge2 (size_le gr1)) hi1) (size_le gr7))⟩)
                        · replace H := H.2 (of_decide_eq_false b13)
                          refine WC.region ?_
                          refine WL.y rfl (Yld.pure tab_ok rfl) ?_
                          refine WL.y rfl (Yld.pure tab_ok rfl) ?_
                          refine WL.y rfl (Yld.pure tab_ok rfl) ?_
                          obtain ⟨h25, H⟩ := H
                          refine WL.y rfl (Yld.iaddrW tab_ok k11.rd rfl rfl rfl rfl h25.1 h25.2) ?_
                          refine WL.y rfl (Yld.iload [] tab_ok k11.rd rfl rfl (iltN h25 rfl)) ?_
                          refine WL.call rfl rfl (W_pdisk_Disk_Sync (GB.grown hG gr7) (size_le gr7) (apC (Ge.le hge2 (size_le gr1)) hi1) hS11 hS15 hS100 k14 k10 dj5 H) ?_
                          rintro v_f5 w20 ⟨hgl5, _, f5, hs_t320_5, t320_17, t320_18, t320_19, t320_20, rfl, hf5, hB8, hM5, hi7, dj26, H⟩
                          have gr19 := gr_modL gr7 hgl5 (apC (Ge.le hge2 (size_le gr1)) hi1)
                          have k64 := k11.goL hgl5 (apC dj2.symm dj8)
                          have k65 := k12.goL hgl5 (apC dj3.symm dj10)
                          have k66 := k13.goL hgl5 (apC dj4.symm dj11)
                          refine WL.y rfl (Yld.pure tab_ok rfl) ?_
                          refine WL.nil (WX.block_normal ?_)
                          exact WX.weaken (by repeat (first | exact Sub.nil | refine Sub.cons rfl ?_)) (hQ _ _ ⟨v_f5, f5, t320_17, hs_t320_5, t320_18, t320_19, t320_20, have_, text, rfl, H, hn_have_, hn_text, gr19, hB8, k64, k65, k66, hf5, hM5, dj2, dj3, dj4, dj26, dj6, dj7, (InA.dj hi7 k11.lt' (apC dj2.symm dj8)), dj9, (InA.dj hi7 k12.lt' (apC dj3.symm dj10)), (InA.dj hi7 k13.lt' (apC dj4.symm dj11)), (InA.toGe hi7 (apC (Ge.le hge2 (size_le gr1)) hi1) (size_le gr7))⟩)
              · replace H := H.2 (of_decide_eq_false b4)
                refine WC.exit (WX.then_exit (WX.then_exit (WX.block_same (WX.then_normal ?_))))
                refine WC.seq ?_
                refine WC.region ?_
                refine WL.y rfl (Yld.pure tab_ok rfl) ?_
                refine WL.nil (WX.then_normal ?_)
                refine WC.seq ?_
                refine WC.seq ?_
                refine WC.region ?_
                refine WL.y rfl (Yld.pure tab_ok rfl) ?_
                refine WL.nil (WX.then_normal ?_)
                refine WC.block ?_
                obtain ⟨I2, mu2, h0_2, HR2⟩ := H
                refine WC.loopF (fun n' L' w' => ∃ (want : List (List UInt8)), ∃ (A_want : Option Addr), ∃ (c_want : Nat), ∃ (n_want : Nat), ∃ (k_2 : Int), n' = mu2 want k_2 ∧ L' = [(4, .pointer (some ⟨g_t320, 0, none⟩)), (6, .slice (some ⟨g1, 0, none⟩) 3 3), (7, .slice (some ⟨g2, 0, none⟩) 3 3), (15, .slice A_want n_want c_want), (16, .int .i64 k_2)] ∧ I2 want k_2 ∧ n_want = want.length ∧ w.grownBy w' none ∧ Bl w' g_t320 124 [.map (some g_t320_files), .int .i64 t3201, .int .i64 t3202, .bool t3203] ∧ Own vs w' w.heap.size 9 (some ⟨g1, 0, none⟩) 3 ([([97] : List UInt8), ([98, 47, 99] : List UInt8), ([100] : List UInt8)] : List (List UInt8)) ∧ Own vB w' w.heap.size 4 (some ⟨g2, 0, none⟩) 3 have_ ∧ PoolO pe128 w' g_t320_files hs_t3200 t3200 none ∧ Own vs w' w.heap.size 9 A_want c_want want ∧ Dj (some g_t320) (blk (some ⟨g1, 0, none⟩)) ∧ Dj (some g_t320) (blk (some ⟨g2, 0, none⟩)) ∧ AllP (Dj (some g_t320)) (FP g_t320_files hs_t3200 none) ∧ Dj (some g_t320) (blk A_want) ∧ Dj (blk (some ⟨g1, 0, none⟩)) (blk (some ⟨g2, 0, none⟩)) ∧ AllP (Dj (blk (some ⟨g1, 0, none⟩))) (FP g_t320_files hs_t3200 none) ∧ Dj (blk (some ⟨g1, 0, none⟩)) (blk A_want) ∧ AllP (Dj (blk (some ⟨g2, 0, none⟩))) (FP g_t320_files hs_t3200 none) ∧ Dj (blk (some ⟨g2, 0, none⟩)) (blk A_want) ∧ AllP (Dj (blk A_want)) (FP g_t320_files hs_t3200 none) ∧ AllP (fun p => Ge p w.heap.size) (FP g_t320_files hs_t3200 none)) _ _ ⟨[], none, 0, 0, (0 : Int), rfl, rfl, h0_2, rfl, gr7, k10, k11, k12, k14, (Own.nil vs w8 w.heap.size 9), dj2, dj3, dj5, Dj.nr, dj6, dj8, Dj.nr, dj10, Dj.nr, apNl, hi1⟩ (by repeat (first | exact Sub.nil | refine Sub.cons rfl ?_)) ?_
                clear h0_2
                rintro _ _ w21 ⟨want, A_want, c_want, n_want, k_2, rfl, rfl, hI2, rfl, gr20, k67, k68, k69, k70, k71, dj27, dj28, dj29, dj30, dj31, dj32, dj33, dj34, dj35, dj36, hi8⟩
                have H := HR2 want k_2 hI2
                refine WC.seq ?_
                refine WC.seq ?_
                refine WC.region ?_
                refine WL.y rfl (Yld.pure tab_ok rfl) ?_
                refine WL.y rfl (Yld.pure tab_ok rfl) ?_
                refine WL.nil (WX.then_normal ?_)
                refine WC.cond rfl (fun b14 => ?_) (fun b14 => ?_)
                · replace H := H.1 (of_decide_eq_true b14)
                  refine WC.skip (WX.then_normal ?_)
                  refine WC.seq ?_
                  obtain ⟨J3, H, hJ3⟩ := H
                  refine WC.midF (fun L' w' => ∃ (want2 : List (List UInt8)), ∃ (A_want2 : Option Addr), ∃ (c_want2 : Nat), ∃ (n_want2 : Nat), L' = [(4, .pointer (some ⟨g_t320, 0, none⟩)), (6, .slice (some ⟨g1, 0, none⟩) 3 3), (7, .slice (some ⟨g2, 0, none⟩) 3 3), (15, .slice A_want2 n_want2 c_want2), (16, .int .i64 k_2)] ∧ J3 want2 ∧ n_want2 = want2.length ∧ w.grownBy w' none ∧ Bl w' g_t320 124 [.map (some g_t320_files), .int .i64 t3201, .int .i64 t3202, .bool t3203] ∧ Own vs w' w.heap.size 9 (some ⟨g1, 0, none⟩) 3 ([([97] : List UInt8), ([98, 47, 99] : List UInt8), ([100] : List UInt8)] : List (List UInt8)) ∧ Own vB w' w.heap.size 4 (some ⟨g2, 0, none⟩) 3 have_ ∧ PoolO pe128 w' g_t320_files hs_t3200 t3200 none ∧ Own vs w' w.heap.size 9 A_want2 c_want2 want2 ∧ Dj (some g_t320) (blk (some ⟨g1, 0, none⟩)) ∧ Dj (some g_t320) (blk (some ⟨g2, 0, none⟩)) ∧ AllP (Dj (some g_t320)) (FP g_t320_files hs_t3200 none) ∧ Dj (some g_t320) (blk A_want2) ∧ Dj (blk (some ⟨g1, 0, none⟩)) (blk (some ⟨g2, 0, none⟩)) ∧ AllP (Dj (blk (some ⟨g1, 0, none⟩))) (FP g_t320_files hs_t3200 none) ∧ Dj (blk (some ⟨g1, 0, none⟩)) (blk A_want2) ∧ AllP (Dj (blk (some ⟨g2, 0, none⟩))) (FP g_t320_files hs_t3200 none) ∧ Dj (blk (some ⟨g2, 0, none⟩)) (blk A_want2) ∧ AllP (Dj (blk A_want2)) (FP g_t320_files hs_t3200 none) ∧ AllP (fun p => Ge p w.heap.size) (FP g_t320_files hs_t3200 none)) ?_ (fun hQ => ?_)
                  · clear H
                    rintro _ w22 ⟨want2, A_want2, c_want2, n_want2, rfl, H, rfl, gr21, k72, k73, k74, k75, k76, dj37, dj38, dj39, dj40, dj41, dj42, dj43, dj44, dj45, dj46, hi9⟩
                    replace H := hJ3 want2 H
                    refine WX.then_normal ?_
                    refine WC.region ?_
                    refine WL.y rfl (Yld.pure tab_ok rfl) ?_
                    obtain ⟨h26, H⟩ := H
                    refine WL.y rfl (Yld.add rfl rfl h26) ?_
                    refine WL.y rfl (Yld.pure tab_ok rfl) ?_
                    refine WL.nil ?_
                    exact WX.roundF _ ⟨want2, A_want2, c_want2, want2.length, k_2 + (1 : Int), rfl, rfl, H.1, rfl, gr21, k72, k73, k74, k75, k76, dj37, dj38, dj39, dj40, dj41, dj42, dj43, dj44, dj45, dj46, hi9⟩ (by repeat (first | exact Sub.nil | refine Sub.cons rfl ?_)) H.2
                  · clear hJ3
                    refine WC.block ?_
                    refine WC.seq ?_
                    refine WC.region ?_
                    refine WL.y rfl (Yld.pure tab_ok rfl) ?_
                    refine WL.y rfl (Yld.pure tab_ok rfl) ?_
                    obtain ⟨h27, H⟩ := H
                    refine WL.y rfl (Yld.iaddrW tab_ok k69.rd rfl rfl hn_have_ rfl h27.1 h27.2) ?_
                    refine WL.y rfl (Yld.iload false tab_ok k69.rd rfl rfl (iltN h27 hn_have_)) ?_
                    refine WL.nil (WX.then_normal ?_)
                    refine WC.cond rfl (fun b15 => ?_) (fun b15 => ?_)
                    · replace H := H.1 (b15)
                      refine WC.region ?_
                      refine WL.y rfl (Yld.pure tab_ok rfl) ?_
                      refine WL.y rfl (Yld.pure tab_ok rfl) ?_
                      refine WL.y rfl (Yld.pure tab_ok rfl) ?_
                      obtain ⟨h28, H⟩ := H
                      refine WL.y rfl (Yld.iaddrW tab_ok k68.rd rfl rfl rfl rfl h28.1 h28.2) ?_
                      refine WL.y rfl (Yld.iload [] tab_ok k68.rd rfl rfl (iltN h28 rfl)) ?_
                      refine WL.lit tab_ok rfl rfl rfl (all1c rfl all1n) rfl (by omega) (fun g4 w23 hB9 hg13 hl4 => ?_)
                      have hO10 : Own vs w23 w.heap.size 9 (some ⟨g4, 0, none⟩) 1 ([([([97] : List UInt8), ([98, 47, 99] : List UInt8), ([100] : List UInt8)] : List (List UInt8)).getD k_2.toNat []] : List (List UInt8)) := Own.ofBl hB9 (Nat.le_trans (size_le gr20) hl4) (by simp [maxLen]) rfl
                      have gr22 := gr_trans gr20 hg13
                      have k77 := k67.g0 hg13
                      have k78 := k68.grown hg13
                      have k79 := k69.grown hg13
                      have k80 := k70.g0 hg13
                      have k81 := k71.grown hg13
                      obtain ⟨h29, H⟩ := H
                      refine WL.append tab_ok rfl rfl One.s k81 rfl rfl hO10.rd rfl rfl h29 (applen h29) (size_le gr22) (fun A_want3 c_want3 w24 hO11 hg14 hk1 => ?_)
                      have gr23 := gr_mod gr22 hg14 k81.ge'
                      have k82 := k77.go hg14 dj30
                      have k83 := k78.go hg14 dj33
                      have k84 := k79.go hg14 dj35
                      have k85 := k80.go hg14 dj36
                      refine WL.y rfl (Yld.pure tab_ok rfl) ?_
                      refine WL.nil (WX.block_normal ?_)
                      exact WX.weaken (by repeat (first | exact Sub.nil | refine Sub.cons rfl ?_)) (hQ _ _ ⟨want ++ ([([([97] : List UInt8), ([98, 47, 99] : List UInt8), ([100] : List UInt8)] : List (List UInt8)).getD k_2.toNat []] : List (List UInt8)), A_want3, c_want3, (want ++ ([([([97] : List UInt8), ([98, 47, 99] : List UInt8), ([100] : List UInt8)] : List (List UInt8)).getD k_2.toNat []] : List (List UInt8))).length, rfl, H, rfl, gr23, k82, k83, k84, k85, hO11, dj27, dj28, dj29, (Dj.app dj30.symm k77.lt' hk1).symm, dj31, dj32, (Dj.app dj33.symm k78.lt' hk1).symm, dj34, (Dj.app dj35.symm k79.lt' hk1).symm, (PoolO.app k80 dj36 hk1), hi8⟩)
                    · replace H := H.2 (b15)
                      refine WC.skip (WX.block_normal ?_)
                      exact WX.weaken (by repeat (first | exact Sub.nil | refine Sub.cons rfl ?_)) (hQ _ _ ⟨want, A_want, c_want, want.length, rfl, H, rfl, gr20, k67, k68, k69, k70, k71, dj27, dj28, dj29, dj30, dj31, dj32, dj33, dj34, dj35, dj36, hi8⟩)
                · replace H := H.2 (of_decide_eq_false b14)
                  refine WC.exit (WX.then_exit (WX.then_exit (WX.block_same (WX.then_normal ?_))))
                  refine WC.seq ?_
                  refine WC.region ?_
                  refine WL.y rfl (Yld.pure tab_ok rfl) ?_
                  refine WL.call rfl rfl (W_pdisk_Disk_List (GB.grown hG gr20) (size_le gr20) (apC (Ge.le hge2 (size_le gr1)) hi8) hS15 k70 k67 dj29 H) ?_
                  rintro _ w25 ⟨hgl6, t1980, A_t1980, c_t1980, v_t1981, t1981, hs_t320_6, t320_21, t320_22, t320_23, t320_24, rfl, ht1980, ht1981, hB10, hM6, hi10, dj47, dj48, dj49, H⟩
                  have hb1 := ht1980.ge'
                  have k86 := ht1980.base (fun g hg => Nat.le_trans (size_le gr20) (hb1 g hg))
                  have gr24 := gr_modL gr20 hgl6 (apC (Ge.le hge2 (size_le gr1)) hi8)
                  have k87 := k71.goL hgl6 (apC dj30.symm dj36)
                  refine WL.y rfl (Yld.pure tab_ok rfl) ?_
                  refine WL.y rfl (Yld.pure tab_ok rfl) ?_
                  refine WL.y rfl (Yld.pure tab_ok rfl) ?_
                  refine WL.y rfl (Yld.pure tab_ok rfl) ?_
                  refine WL.y rfl (Yld.pure tab_ok rfl) ?_
                  refine WL.nil (WX.then_normal ?_)
                  refine WC.seq ?_
                  refine WC.region ?_
                  refine WL.y rfl (Yld.pure tab_ok rfl) ?_
                  refine WL.call rfl rfl (W_pdisk_Disk_Dump hM6 hB10 H) ?_
                  rintro _ w26 ⟨hg15, all, A_all, c_all, rfl, hall, H⟩
                  have hb2 := hall.ge'
                  have k88 := hall.base (fun g hg => Nat.le_trans (size_le gr24) (hb2 g hg))
                  have gr25 := gr_trans gr24 hg15
                  have k89 := hB10.g0 hg15
                  have k90 := hM6.g0 hg15
                  have k91 := k87.grown hg15
                  have k92 := k86.grown hg15
                  have k93 := ht1981.grown hg15
                  refine WL.y rfl (Yld.pure tab_ok rfl) ?_
                  refine WL.nil (WX.then_normal ?_)
                  refine WC.seq ?_
                  refine WC.seq ?_
                  refine WC.region ?_
                  refine WL.y rfl (Yld.pure tab_ok rfl) ?_
                  refine WL.y rfl (Yld.errneq Tryd.underlying29 k93 rfl) ?_
                  refine WL.y rfl (Yld.pure tab_ok rfl) ?_
                  obtain ⟨J4, H, hJ4⟩ := H
                  refine WL.midF 5 (fun L' w' => ∃ q8 : Bool, L' = [(210, .bool q8), (4, .pointer (some ⟨g_t320, 0, none⟩)), (15, .slice A_want want.length c_want), (19, .slice A_all all.length c_all)] ∧ J4 q8 ∧ w26 = w') ?_ (fun hQ => ?_)
                  · clear H
                    rintro _ _ ⟨q8, rfl, H, rfl⟩
                    replace H := hJ4 q8 H
                    refine WL.y rfl (Yld.pure tab_ok rfl) ?_
                    refine WL.midF 6 (fun L' w' => ∃ q9 : Bool, L' = [(217, .bool q9), (4, .pointer (some ⟨g_t320, 0, none⟩))] ∧ q9 = (q8 || (!decide ((all.length : Int) = (want.length : Int)))) ∧ w26 = w') ?_ (fun hQ => ?_)
                    · rintro _ _ ⟨q9, rfl, rfl, rfl⟩
                      refine WL.nil (WX.then_normal ?_)
                      refine WC.cond rfl (fun b16 => ?_) (fun b16 => ?_)
                      · replace H := H.1 (b16)
                        refine WC.seq ?_
                        refine WC.region ?_
                        refine WL.y rfl (Yld.pure tab_ok rfl) ?_
                        refine WL.nil (WX.then_normal ?_)
                        refine WC.ret (WX.then_ret ?_)
                        exact WX.ret1 rfl rfl ⟨gr25, false, rfl, H⟩
                      · replace H := H.2 (b16)
                        refine WC.skip (WX.then_normal ?_)
                        refine WC.seq ?_
                        refine WC.region ?_
                        refine WL.y rfl (Yld.pure tab_ok rfl) ?_
                        refine WL.call rfl rfl (W_pdisk_Disk_Write (GB.grown hG gr25) (size_le gr25) (apC (Ge.le hge2 (size_le gr1)) (InA.toGe hi10 (apC (Ge.le hge2 (size_le gr1)) hi8) (size_le gr20))) hS9 hS11 hS15 hS100 k90 k89 dj47 H) ?_
                        rintro v_t219 w27 ⟨hgl7, _, t219, hs_t320_7, t320_25, t320_26, t320_27, t320_28, rfl, ht219, hB11, hM7, hi11, dj50, H⟩
                        have gr26 := gr_modL gr25 hgl7 (apC (Ge.le hge2 (size_le gr1)) (InA.toGe hi10 (apC (Ge.le hge2 (size_le gr1)) hi8) (size_le gr20)))
                        refine WL.call rfl rfl (W_smithysee_Is (hG.grown gr26) hS0 hS1 hS2 hS3 hS4 hS5 hS6 hS7 hS8 hS9 hS10 hS11 hS12 hS13 hS14 hS15 hS16 ht219 H) ?_
                        rintro _ w28 ⟨hg16, t220, rfl, H⟩
                        have gr27 := gr_trans gr26 hg16
                        have k94 := hB11.g0 hg16
                        have k95 := hM7.g0 hg16
                        refine WL.y rfl (Yld.pure tab_ok rfl) ?_
                        obtain ⟨J5, H, hJ5⟩ := H
                        refine WL.midF 4 (fun L' w' => ∃ q10 : Bool, L' = [(225, .bool q10)] ∧ J5 q10 ∧ w.grownBy w' none) ?_ (fun hQ => ?_)
                        · clear H
                          rintro _ w29 ⟨q10, rfl, H, gr28⟩
                          replace H := hJ5 q10 H
                          refine WL.y rfl (Yld.pure tab_ok rfl) ?_
                          refine WL.nil (WX.then_normal ?_)
                          refine WC.ret ?_
                          exact WX.ret1 rfl rfl ⟨gr28, q10, rfl, H⟩
                        · clear hJ5
                          rcases Bool.eq_false_or_eq_true (t220) with b17 | b17
                          · replace H := H.1 b17
                            refine WL.gyes rfl rfl (okb b17) rfl (Yld.pure tab_ok rfl) ?_
                            refine WL.callw (wants_some rfl rfl (okb b17)) rfl rfl (W_pdisk_Disk_Remove (GB.grown hG gr27) (size_le gr27) (apC (Ge.le hge2 (size_le gr1)) (InA.toGe hi11 (apC (Ge.le hge2 (size_le gr1)) (InA.toGe hi10 (apC (Ge.le hge2 (size_le gr1)) hi8) (size_le gr20))) (size_le gr25))) hS11 hS15 hS100 k95 k94 dj50 H) ?_
                            rintro v_t223 w30 ⟨hgl8, _, t223, hs_t320_8, t320_29, t320_30, t320_31, t320_32, rfl, ht223, hB12, hM8, hi12, dj51, H⟩
                            have gr29 := gr_modL gr27 hgl8 (apC (Ge.le hge2 (size_le gr1)) (InA.toGe hi11 (apC (Ge.le hge2 (size_le gr1)) (InA.toGe hi10 (apC (Ge.le hge2 (size_le gr1)) hi8) (size_le gr20))) (size_le gr25)))
                            refine WL.callw (wants_some rfl rfl (okb b17)) rfl rfl (W_smithysee_Is (hG.grown gr29) hS0 hS1 hS2 hS3 hS4 hS5 hS6 hS7 hS8 hS9 hS10 hS11 hS12 hS13 hS14 hS15 hS16 ht223 H) ?_
                            rintro _ w31 ⟨hg17, t224, rfl, H⟩
                            have gr30 := gr_trans gr29 hg17
                            have k96 := ht223.grown hg17
                            refine WL.y rfl (Yld.pickT (okb b17) rfl) ?_
                            exact WL.weaken (by repeat (first | exact Sub.nil | refine Sub.cons rfl ?_)) (hQ _ _ ⟨t224, rfl, H, gr30⟩)
                          · replace H := H.2 b17
                            refine WL.gno rfl rfl (okb b17) rfl ?_
                            refine WL.gno rfl rfl (okb b17) rfl ?_
                            refine WL.gno rfl rfl (okb b17) rfl ?_
                            refine WL.y rfl (Yld.pickF (okb b17) rfl) ?_
                            exact WL.weaken (by repeat (first | exact Sub.nil | refine Sub.cons rfl ?_)) (hQ _ _ ⟨false, rfl, H, gr27⟩)
                    · clear H
                      rcases Bool.eq_false_or_eq_true (q8) with b18 | b18
                      · refine WL.gno rfl rfl (okb b18) rfl ?_
                        refine WL.gno rfl rfl (okb b18) rfl ?_
                        refine WL.gno rfl rfl (okb b18) rfl ?_
                        refine WL.gno rfl rfl (okb b18) rfl ?_
                        refine WL.gno rfl rfl (okb b18) rfl ?_
                        refine WL.y rfl (Yld.pickT (okb b18) rfl) ?_
                        exact WL.weaken (by repeat (first | exact Sub.nil | refine Sub.cons rfl ?_)) (hQ _ _ ⟨true, rfl, by rw [b18] <;> rfl, rfl⟩)
                      · refine WL.gyes rfl rfl (okb b18) rfl (Yld.pure tab_ok rfl) ?_
                        refine WL.gyes rfl rfl (okb b18) rfl (Yld.pure tab_ok rfl) ?_
                        refine WL.gyes rfl rfl (okb b18) rfl (Yld.pure tab_ok rfl) ?_
                        refine WL.gyes rfl rfl (okb b18) rfl (Yld.pure tab_ok rfl) ?_
                        refine WL.gyes rfl rfl (okb b18) rfl (Yld.pure tab_ok rfl) ?_
                        refine WL.y rfl (Yld.pickF (okb b18) rfl) ?_
                        exact WL.weaken (by repeat (first | exact Sub.nil | refine Sub.cons rfl ?_)) (hQ _ _ ⟨!decide ((all.length : Int) = (want.length : Int)), rfl, by rw [b18] <;> rfl, rfl⟩)
                  · clear hJ4
                    rcases Bool.eq_false_or_eq_true (!decide (t1981 = Er.ok)) with b19 | b19
                    · replace H := H.1 b19
                      refine WL.gno rfl rfl (okb b19) rfl ?_
                      refine WL.gno rfl rfl (okb b19) rfl ?_
                      refine WL.gno rfl rfl (okb b19) rfl ?_
                      refine WL.gno rfl rfl (okb b19) rfl ?_
                      refine WL.y rfl (Yld.pickT (okb b19) rfl) ?_
                      exact WL.weaken (by repeat (first | exact Sub.nil | refine Sub.cons rfl ?_)) (hQ _ _ ⟨true, rfl, H, rfl⟩)
                    · replace H := H.2 b19
                      refine WL.gyes rfl rfl (okb b19) rfl (Yld.pure tab_ok rfl) ?_
                      refine WL.gyes rfl rfl (okb b19) rfl (Yld.pure tab_ok rfl) ?_
                      refine WL.callw (wants_some rfl rfl (okb b19)) rfl rfl (W_smithyref_SameTexts k92.rd rfl k91.rd rfl H) ?_
                      rintro _ _ ⟨rfl, t208, rfl, H⟩
                      refine WL.gyes rfl rfl (okb b19) rfl (Yld.pure tab_ok rfl) ?_
                      refine WL.y rfl (Yld.pickF (okb b19) rfl) ?_
                      exact WL.weaken (by repeat (first | exact Sub.nil | refine Sub.cons rfl ?_)) (hQ _ _ ⟨!t208, rfl, H, rfl⟩)
          · clear H
            refine WL.gyes rfl rfl (rfl) rfl (Yld.pure tab_ok rfl) ?_
            refine WL.gyes rfl rfl (rfl) rfl (Yld.errneq Tryd.underlying29 ht3212 rfl) ?_
            refine WL.y rfl (Yld.pickF (rfl) rfl) ?_
            exact WL.weaken (by repeat (first | exact Sub.nil | refine Sub.cons rfl ?_)) (hQ _ _ ⟨!decide (t3212 = Er.ok), rfl, rfl, rfl⟩)
    · clear H
      rcases Bool.eq_false_or_eq_true (decide ((40 : Int) < (l.length : Int))) with b20 | b20
      · refine WL.gno rfl rfl (okb b20) rfl ?_
        refine WL.gno rfl rfl (okb b20) rfl ?_
        refine WL.y rfl (Yld.pickT (okb b20) rfl) ?_
        exact WL.weaken (by repeat (first | exact Sub.nil | refine Sub.cons rfl ?_)) (hQ _ _ ⟨true, rfl, by rw [b20] <;> rfl, rfl⟩)
      · refine WL.gyes rfl rfl (okb b20) rfl (Yld.pure tab_ok rfl) ?_
        refine WL.gyes rfl rfl (okb b20) rfl (Yld.pure tab_ok rfl) ?_
        refine WL.y rfl (Yld.pickF (okb b20) rfl) ?_
        exact WL.weaken (by repeat (first | exact Sub.nil | refine Sub.cons rfl ?_)) (hQ _ _ ⟨!ok, rfl, by rw [b20] <;> rfl, rfl⟩)

end Go.Proofs.YtlonpmajnglmoaaDoor

 /- smithylaw1.first; Dir, Base, Under; PathDirs. -/
namespace Go.Proofs.YtlonpmajnglmoaaDoor
open Go Go.RowKit
end Go.Proofs.YtlonpmajnglmoaaDoor


 /- Patterns at work: PathStars. -/
namespace Go.Proofs.YtlonpmajnglmoaaDoor
open Go Go.RowKit
end Go.Proofs.YtlonpmajnglmoaaDoor


 /- Clean twice: PathAgain. -/
namespace Go.Proofs.YtlonpmajnglmoaaDoor
open Go Go.RowKit
end Go.Proofs.YtlonpmajnglmoaaDoor


 /- The chapter's own words for paths (smithyref1), and PathSays. -/
namespace Go.Proofs.YtlonpmajnglmoaaDoor
open Go Go.RowKit
end Go.Proofs.YtlonpmajnglmoaaDoor


 /- Globs: the plain side. -/
namespace Go.Proofs.YtlonpmajnglmoaaDoor
open Go Go.RowKit
theorem sameTexts_M {a b : List Bs} {K : Bool → Prop} (ha : a.length ≤ 1000000000) (h : K (decide (a = b))) : M_smithyref_SameTexts a b K := by
  intro _ _
  refine ⟨fun hne => ?_, fun he => ?_⟩
  · rw [decide_eq_false (fun e => hne (by rw [e]))] at h
    exact h
  · refine ⟨fun i => 0 ≤ i ∧ i ≤ a.length ∧ ∀ j, j < i.toNat → a.getD j [] = b.getD j [], fun i => a.length - i.toNat, ⟨by omega, by omega, by intro j hj; simp at hj⟩, fun i ⟨h0, h1, h2⟩ => ⟨fun hlt => ⟨by omega, by omega, fun hne => ?_, fun hee => ⟨by simp only [In]; omega, ⟨by omega, by omega, fun j hj => ?_⟩, by (try dsimp only); omega⟩⟩, fun hge => ?_⟩⟩
    · rw [decide_eq_false (fun e => hne (by rw [e]))] at h
      exact h
    · by_cases e : j = i.toNat
      · rw [e]; exact hee
      · exact h2 j (by omega)
    · have e : a = b := List.ext_getElem (by omega) fun j h3 h4 => by
        have := h2 j (by omega)
        simpa [List.getD, h3, h4] using this
      rw [decide_eq_true e] at h
      exact h
end Go.Proofs.YtlonpmajnglmoaaDoor


 /- DiskArms and DiskFiles, plainly. -/
namespace Go.Proofs.YtlonpmajnglmoaaDoor
open Go Go.RowKit
theorem numR_M {n below : Int} {K : Int → Prop} (hn : In .i64 n) (hb : 0 < below) (hb2 : below ≤ 100000) (h : ∀ m, 0 ≤ m → m < below → K m) : M_smithyworld_Number n below K := by
  unfold M_smithyworld_Number
  have h1 := Int.tmod_lt_of_pos n hb
  have h2 := Int.lt_tmod_of_pos n hb
  simp only [In] at hn
  refine ⟨by omega, by simp only [In]; omega, by omega, ?_⟩
  have h3 : 0 ≤ n.tmod below + below := by omega
  rw [Int.tmod_eq_emod_of_nonneg h3]
  exact h _ (Int.emod_nonneg _ (by omega)) (Int.emod_lt_of_pos _ hb)
theorem new0_M {K0 : Er → Prop} {K : DF → Int → Int → Bool → Er → Prop} (h : K [] 0 0 false .ok) : M_disk_New [] K0 K := by
  intro _
  refine ⟨fun i fs => i = 0 ∧ fs = [], fun _ _ => 0, ⟨rfl, rfl⟩, fun i fs ⟨a0, a1⟩ => ⟨fun hlt => ?_, fun _ => ⟨fun hb => ?_, fun _ => by rw [a1]; exact h⟩⟩⟩
  · subst a0; simp at hlt
  · simp at hb
theorem sort1 (x : List UInt8) : sortB [x] = [x] := by unfold sortB; simp
theorem dfirst_M {K : Bool → Prop} (h : K true) : M_smithylaw3_first K := by
  have va : validB ([97] : List UInt8) = true := by decide +kernel
  refine new0_M ⟨fun h => absurd rfl h, fun _ => ?_⟩
  refine put0_M (by simp) (by omega) (by omega) (by simp) (by simp) (by simp [fil, mget, fz]) (by simp [fil, mget, fz]) ?_
  rw [dlay_ok va (by simp) (by simp)]
  show M_pdisk_Disk_Sync [([97], ([120], true, [], false, [(0, [120])]))] _ _ _ _ _
  refine sync0_M (by simp) (by omega) (by omega) ?_
  have e1 : dsync [([97], ([120], true, [], false, [((0 : Int), [120])]))] [97] = (.ok, [([97], ([120], true, [120], true, []))]) := by
    unfold dsync
    rw [if_neg (by rw [va]; simp)]
    rfl
  rw [e1]
  refine put0_M (by simp) (by omega) (by omega) (by simp) (by simp) (by decide) (by decide) ?_
  rw [dlay_ok va (by simp) (by decide)]
  show M_pdisk_Disk_Arm [([97], ([120, 121, 122], true, [120], true, [(1, [121, 122])]))] _ _ _ _ _
  show M_pdisk_Disk_Sync _ _ 1 _ _ _
  refine sync_M (by simp) (by omega) (by omega) (by omega) fun o l d => ⟨fun e he hne => ?_, fun he => ?_⟩
  · simp [dcall] at he
    obtain ⟨rfl, rfl, rfl, rfl⟩ := he
    refine rise_M (by simp) (by simp [maxLen]) (by simp only [In]; omega) (fun k => ?_) ?_
    · unfold fil mget SmallF
      split
      · simp
      · simp [mget, fz]
    · rw [if_pos rfl]
      have e2 : riseAll (max0 1) (sortB (([([97], (([120, 121, 122], true, [120], true, [((1 : Int), [121, 122])]) : Fil))] : DF).map (·.1))) (max0 0) [([97], ([120, 121, 122], true, [120], true, [(1, [121, 122])]))] = [([97], ([120, 121], true, [120, 121], true, []))] := by
        show riseAll (max0 1) (sortB [[97]]) _ _ = _
        rw [sort1]
        rfl
      rw [e2]
      refine dread0_M (by simp [maxLen]) (by omega) (by omega) ?_
      have e3 : dtext [([97], ([120, 121], true, [120, 121], true, []))] [97] = [120, 121] := by decide +kernel
      have e4 : thereB [([97], ([120, 121], true, [120, 121], true, []))] [97] = true := by decide +kernel
      rw [e3, e4]
      refine ⟨fun b => b = true, ⟨fun _ => is_M rfl, fun h => by simp at h⟩, fun q hq => ?_⟩
      rw [hq]
      simpa using h
  · simp [dcall] at he
end Go.Proofs.YtlonpmajnglmoaaDoor


 /- DiskFiles, plainly. -/
namespace Go.Proofs.YtlonpmajnglmoaaDoor
open Go Go.RowKit
def nms : List (List UInt8) := [[97], [98, 47, 99], [100]]
def nm (k : Nat) : List UInt8 := nms.getD k []
theorem nm_inj {j k : Nat} (hj : j < 3) (hk : k < 3) (h : nm j = nm k) : j = k := by
  match j, k, hj, hk with
  | 0, 0, _, _ => rfl
  | 1, 1, _, _ => rfl
  | 2, 2, _, _ => rfl
  | 0, 1, _, _ => exact absurd h (by decide)
  | 0, 2, _, _ => exact absurd h (by decide)
  | 1, 0, _, _ => exact absurd h (by decide)
  | 1, 2, _, _ => exact absurd h (by decide)
  | 2, 0, _, _ => exact absurd h (by decide)
  | 2, 1, _, _ => exact absurd h (by decide)
theorem nm_valid {k : Nat} (hk : k < 3) : validB (nm k) = true ∧ (nm k).length ≤ 3 := by
  match k, hk with
  | 0, _ => exact ⟨by decide +kernel, by decide⟩
  | 1, _ => exact ⟨by decide +kernel, by decide⟩
  | 2, _ => exact ⟨by decide +kernel, by decide⟩
structure DInv (fs : DF) (hv : List Bool) (tx : List (List UInt8)) (n : Nat) : Prop where
  uq : Uq fs
  len : fs.length ≤ n
  keys : ∀ p ∈ fs, ∃ k, k < 3 ∧ p.1 = nm k
  hl : hv.length = 3
  tl : tx.length = 3
  there : ∀ k, k < 3 → thereB fs (nm k) = hv.getD k false
  text : ∀ k, k < 3 → (fil fs (nm k)).1 = tx.getD k []
  none : ∀ k, k < 3 → hv.getD k false = false → tx.getD k [] = []
  size : ∀ k, k < 3 → (tx.getD k []).length ≤ 100 * n
  since : ∀ k, k < 3 → (fil fs (nm k)).2.2.2.2.length ≤ n
theorem getD_setF {α : Type} {l : List α} {i j : Nat} {x d : α} (hi : i < l.length) : (l.set i x).getD j d = if i = j then x else l.getD j d := by
  simp only [List.getD, List.getElem?_set]
  by_cases e : i = j
  · subst e; simp [hi]
  · simp [e]
theorem DInv.put {fs : DF} {hv : List Bool} {tx : List (List UInt8)} {n k : Nat} (h : DInv fs hv tx n) (hk : k < 3) {t s : List UInt8} {b w : Bool} {l : List (Int × List UInt8)} (ht : t.length ≤ 100 * (n + 1)) (hb : b = false → t = []) (hll : l.length ≤ n + 1) : DInv (mput fs (nm k) (t, b, s, w, l)) (hv.set k b) (tx.set k t) (n + 1) := by
  have hk1 : k < hv.length := by rw [h.hl]; exact hk
  have hk2 : k < tx.length := by rw [h.tl]; exact hk
  have hne : ∀ {j}, j < 3 → (nm k = nm j ↔ k = j) := fun hj => ⟨nm_inj hk hj, fun e => by rw [e]⟩
  refine ⟨h.uq.put _ _, ?_, ?_, by rw [List.length_set, h.hl], by rw [List.length_set, h.tl], ?_, ?_, ?_, ?_, ?_⟩
  · rw [mput_len]; have := h.len; split <;> omega
  · intro p hp
    rcases mput_mem hp with rfl | hp
    · exact ⟨k, hk, rfl⟩
    · exact h.keys p hp
  · intro j hj
    rw [getD_setF hk1]
    unfold thereB
    rw [fil_put]
    by_cases e : k = j
    · subst e; rw [if_pos rfl, if_pos rfl]
    · rw [if_neg (fun e2 => e ((hne hj).1 e2)), if_neg e]; exact h.there j hj
  · intro j hj
    rw [getD_setF hk2, fil_put]
    by_cases e : k = j
    · subst e; rw [if_pos rfl, if_pos rfl]
    · rw [if_neg (fun e2 => e ((hne hj).1 e2)), if_neg e]; exact h.text j hj
  · intro j hj
    rw [getD_setF hk1, getD_setF hk2]
    by_cases e : k = j
    · rw [if_pos e, if_pos e]; exact hb
    · rw [if_neg e, if_neg e]; exact h.none j hj
  · intro j hj
    rw [getD_setF hk2]
    by_cases e : k = j
    · rw [if_pos e]; exact ht
    · rw [if_neg e]; have := h.size j hj; omega
  · intro j hj
    rw [fil_put]
    by_cases e : k = j
    · subst e; rw [if_pos rfl]; exact hll
    · rw [if_neg (fun e2 => e ((hne hj).1 e2))]; have := h.since j hj; omega
theorem DInv.mono {fs : DF} {hv : List Bool} {tx : List (List UInt8)} {n : Nat} (h : DInv fs hv tx n) : DInv fs hv tx (n + 1) :=
  ⟨h.uq, Nat.le_succ_of_le h.len, h.keys, h.hl, h.tl, h.there, h.text, h.none, fun k hk => by have := h.size k hk; omega, fun k hk => Nat.le_succ_of_le (h.since k hk)⟩
theorem set_same {α : Type} {l : List α} {k : Nat} {d : α} (hk : k < l.length) : l.set k (l.getD k d) = l := by
  rw [show l.getD k d = l[k] by simp [List.getD, hk]]
  exact List.set_getElem_self hk
theorem strict_of {l : List Bs} (h : l.Pairwise (· ≤ ·)) (hn : l.Nodup) : Strict l := by
  rw [List.nodup_iff_pairwise_ne] at hn
  exact (List.Pairwise.and h hn).imp fun ⟨a, b⟩ => bs_lt_of a b
theorem pathsP_strict {fs : DF} (h : Uq fs) : Strict (pathsP fs) := by
  refine strict_of (sortB_le _) ?_
  exact (sortB_perm _).nodup_iff.2 (List.Nodup.sublist List.filter_sublist h)
def wantP (hv : List Bool) (k : Nat) : List (List UInt8) := ((List.range k).filter fun j => hv.getD j false).map nm
theorem wantP_strict (hv : List Bool) : Strict (wantP hv 3) := by
  unfold wantP Strict
  rw [List.pairwise_map]
  refine List.Pairwise.sublist List.filter_sublist ?_
  decide
theorem DInv.want {fs : DF} {hv : List Bool} {tx : List (List UInt8)} {n : Nat} (h : DInv fs hv tx n) : pathsP fs = wantP hv 3 := by
  refine strict_uniq (pathsP_strict h.uq) (wantP_strict hv) fun q => ?_
  rw [pathsP_mem]
  unfold wantP
  rw [List.mem_map]
  constructor
  · intro ht
    have hs := there_some ht
    obtain ⟨x, hx⟩ := Option.isSome_iff_exists.1 hs
    obtain ⟨k, hk, e⟩ := h.keys _ ((mget_mem h.uq).1 hx)
    dsimp only at e
    subst e
    exact ⟨k, List.mem_filter.2 ⟨List.mem_range.2 hk, by rw [← h.there k hk]; exact ht⟩, rfl⟩
  · rintro ⟨k, hk, rfl⟩
    obtain ⟨h1, h2⟩ := List.mem_filter.1 hk
    rw [h.there k (List.mem_range.1 h1)]
    exact h2
theorem files_ok {l : List (Int × Int × Int × List UInt8 × List UInt8)} {K : Bool → Prop} (hin : ∀ x ∈ l, In .i64 (x.1) ∧ In .i64 (x.2.1) ∧ In .i64 (x.2.2.1) ∧ (x.2.2.2.1).length ≤ maxLen ∧ (x.2.2.2.2).length ≤ maxLen) (H : K true) : M_smithylaw3_DiskFiles l K := by
  intro _
  refine dfirst_M ⟨fun h => by simp at h, fun _ => ⟨fun _ => H, fun h40 => ?_⟩⟩
  have hl40 : l.length ≤ 40 := by
    rw [Bool.or_eq_false_iff, decide_eq_false_iff_not] at h40; omega
  refine new0_M ⟨fun h => absurd rfl h, fun _ => ?_⟩
  refine ⟨fun i fs ops left down hv tx => 0 ≤ i ∧ i ≤ l.length ∧ ops = 2 * i ∧ left = 0 ∧ down = false ∧ DInv fs hv tx i.toNat, fun i _ _ _ _ _ _ => l.length - i.toNat, ⟨by omega, by omega, rfl, rfl, rfl, ?_⟩, fun i fs ops left down hv tx ⟨a0, a1, a2, a3, a4, a5⟩ _ _ => ⟨fun hlt => ?_, fun hge => ?_⟩⟩
  · refine ⟨List.nodup_nil, by simp, by simp, rfl, rfl, ?_, ?_, ?_, ?_, ?_⟩ <;> intro k hk <;> (match k, hk with
      | 0, _ => first | rfl | (intro _; rfl) | (simp [fil, mget, fz]) | decide
      | 1, _ => first | rfl | (intro _; rfl) | (simp [fil, mget, fz]) | decide
      | 2, _ => first | rfl | (intro _; rfl) | (simp [fil, mget, fz]) | decide)
  · subst a2; subst a3; subst a4
    have hi : i.toNat < l.length := by omega
    have e : l.getD i.toNat (0, 0, 0, [], []) = l[i.toNat] := by simp [List.getD, hi]
    have hn := (hin _ (List.getElem_mem hi)).2.1
    rw [e]
    generalize l[i.toNat] = x at hn ⊢
    refine ⟨⟨a0, hlt⟩, numR_M hn (by omega) (by omega) fun k k0 k1 => ⟨⟨a0, hlt⟩, fun _ => H, fun h100 => ?_⟩⟩
    have hk : k.toNat < 3 := by omega
    have hk1 : k.toNat < hv.length := by rw [a5.hl]; exact hk
    have hk2 : k.toNat < tx.length := by rw [a5.tl]; exact hk
    have hnm : ([([97] : List UInt8), ([98, 47, 99] : List UInt8), ([100] : List UInt8)] : List (List UInt8)).getD k.toNat [] = nm k.toNat := rfl
    have hk3 : 0 ≤ k ∧ k < (3 : Nat) := ⟨k0, by omega⟩
    obtain ⟨hva, hln⟩ := nm_valid hk
    have hsz := a5.size _ hk
    have hsi := a5.since _ hk
    have htx := a5.text _ hk
    have hth := a5.there _ hk
    have hfl := a5.len
    rw [hnm]
    generalize htt : x.2.2.2.2 = t at h100 ⊢
    have ht100 : t.length ≤ 100 := by omega
    have hx1 : (fil fs (nm k.toNat)).1.length ≤ 1000000 := by rw [htx]; omega
    refine ⟨fun f fs ops left down xs xs2 => f = .ok ∧ ops = 2 * i + 1 ∧ left = 0 ∧ down = false ∧ DInv fs xs xs2 (i.toNat + 1), ⟨⟨a0, hlt⟩, fun h1 => ⟨hk3, ⟨a0, hlt⟩, ?_⟩, fun h1 => ⟨fun h2 => ⟨hk3, ⟨a0, hlt⟩, ?_⟩, fun h2 => ⟨fun h3 => ⟨hk3, ?_⟩, fun h3 => ⟨hk3, ?_⟩⟩⟩⟩, ?_⟩
    · refine put0_M (by omega) (by omega) (by omega) (by omega) (by omega) hx1 (by omega) ?_
      rw [dlay_ok hva (by omega) (by rw [if_neg (by omega)]; omega)]
      rw [if_neg (by omega : ¬ ((0 : Int) = 1 ∧ thereB fs (nm k.toNat) = true))]
      exact ⟨hk3, ⟨a0, hlt⟩, hk3, rfl, rfl, rfl, rfl, a5.put hk (by omega) (fun h => by cases h) (by simp; omega)⟩
    · have hap : (if (1 : Int) = 1 ∧ thereB fs (nm k.toNat) = true then (fil fs (nm k.toNat)).1 ++ t else t) = tx.getD k.toNat [] ++ t := by
        by_cases hb : thereB fs (nm k.toNat) = true
        · rw [if_pos ⟨rfl, hb⟩, htx]
        · rw [if_neg (fun h => hb h.2), a5.none _ hk (by rw [← hth]; simpa using hb)]; rfl
      refine put0_M (by omega) (by omega) (by omega) (by omega) (by omega) hx1 (by omega) ?_
      rw [dlay_ok hva (by omega) (by rw [hap, List.length_append]; omega), hap]
      exact ⟨hk3, hk3, ⟨a0, hlt⟩, by omega, hk3, rfl, rfl, rfl, rfl, a5.put hk (by rw [List.length_append]; omega) (fun h => by cases h) (by simp; omega)⟩
    · refine remove0_M (by omega) (by omega) (by omega) (by omega) ?_
      unfold dremove
      rw [if_neg (by rw [hva]; simp)]
      refine ⟨hk3, hk3, rfl, rfl, rfl, rfl, ?_⟩
      by_cases hb : thereB fs (nm k.toNat) = true
      · rw [if_pos hb]
        exact a5.put hk (by simp) (fun _ => rfl) (by simp; omega)
      · have hb' : hv.getD k.toNat false = false := by rw [← hth]; simpa using hb
        rw [if_neg hb]
        have e1 : hv.set k.toNat false = hv := by
          have := set_same (d := false) hk1
          rwa [hb'] at this
        have e2 : tx.set k.toNat [] = tx := by
          have := set_same (d := []) hk2
          rwa [a5.none _ hk hb'] at this
        rw [e1, e2]
        exact a5.mono
    · refine sync0_M (by omega) (by omega) (by omega) ?_
      unfold dsync
      rw [if_neg (by rw [hva]; simp)]
      refine ⟨rfl, rfl, rfl, rfl, ?_⟩
      split
      · have hp := a5.put (s := (fil fs (nm k.toNat)).1) (w := (fil fs (nm k.toNat)).2.1) (l := []) hk (t := tx.getD k.toNat []) (b := hv.getD k.toNat false) (by omega) (a5.none _ hk) (by simp)
        rw [set_same hk1, set_same hk2] at hp
        have e1 : (fil fs (nm k.toNat)).2.1 = hv.getD k.toNat false := hth
        rw [← htx, ← e1] at hp
        exact hp
      · exact a5.mono
    · rintro f fs' ops' left' down' xs xs2 ⟨rfl, rfl, rfl, rfl, b5⟩ _ _
      have hth' := b5.there _ hk
      have htx' := b5.text _ hk
      refine ⟨hk3, dread0_M (by unfold maxLen; omega) (by omega) (by omega) ?_⟩
      have hdt : dtext fs' (nm k.toNat) = xs2.getD k.toNat [] := by
        unfold dtext
        by_cases hb : thereB fs' (nm k.toNat) = true
        · rw [if_pos hb, htx']
        · rw [if_neg hb, b5.none _ hk (by rw [← hth']; simpa using hb)]
      rw [hdt, hth']
      refine ⟨fun _ => hk3, fun _ => hk3, fun b => b = false, ⟨fun h => by simp at h, fun _ => ⟨by simp only [In]; omega, by simp only [In]; omega, ?_⟩⟩, fun q hq => ⟨fun h => (by rw [hq] at h; cases h), fun _ => ⟨by simp only [In]; omega, ⟨by omega, by omega, by omega, rfl, rfl, ?_⟩, by (try dsimp only); omega⟩⟩⟩
      · have : (2 * i + 1 + 1 = 2 * i + 2) := by omega
        rw [this]; simp
      · rw [show (i + 1).toNat = i.toNat + 1 by omega]; exact b5
  · subst a2; subst a3; subst a4
    refine ⟨fun want k => 0 ≤ k ∧ k ≤ 3 ∧ want = wantP hv k.toNat, fun _ k => 3 - k.toNat, ⟨by omega, by omega, rfl⟩, fun want k ⟨b0, b1, b2⟩ => ⟨fun hlt => ?_, fun hge => ?_⟩⟩
    · have hk3 : 0 ≤ k ∧ k < (3 : Nat) := ⟨b0, by omega⟩
      have hwl : want.length ≤ 3 := by
        rw [b2]; unfold wantP
        rw [List.length_map]
        exact Nat.le_trans (List.length_filter_le _ _) (by simp; omega)
      have hsucc : wantP hv (k + 1).toNat = wantP hv k.toNat ++ (if hv.getD k.toNat false = true then [nm k.toNat] else []) := by
        unfold wantP
        rw [show (k + 1).toNat = k.toNat + 1 by omega, List.range_succ, List.filter_append, List.map_append]
        congr 1
        rw [List.filter_cons, List.filter_nil]
        split <;> rfl
      refine ⟨fun w => w = wantP hv (k + 1).toNat, ⟨hk3, fun hb => ⟨hk3, by simp; omega, ?_⟩, fun hb => ?_⟩, fun w hw => ⟨by simp only [In]; omega, ⟨by omega, by omega, hw⟩, by (try dsimp only); omega⟩⟩
      · rw [hsucc, if_pos hb, b2]; rfl
      · rw [hsucc, if_neg (by rw [hb]; simp), b2]; simp
    · obtain rfl : k = 3 := by omega
      have hw := a5.want
      have e3 : want = wantP hv 3 := b2
      have hfl := a5.len
      refine dlist0_M (by omega) (by omega) (by omega) (dump_M (by omega) (fun q hq => ?_) ?_)
      · obtain ⟨x, hx⟩ := Option.isSome_iff_exists.1 (there_some hq)
        obtain ⟨j, hj, e⟩ := a5.keys _ ((mget_mem a5.uq).1 hx)
        dsimp only at e
        rw [e]
        have := (nm_valid hj).2
        unfold maxLen; omega
      · rw [hw, ← e3]
        have hwl : want.length ≤ 3 := by
          rw [e3]; unfold wantP
          rw [List.length_map]
          exact Nat.le_trans (List.length_filter_le _ _) (by simp)
        refine ⟨fun b => b = false, ⟨fun h => by simp at h, fun _ => sameTexts_M (by omega) (by simp)⟩, fun q hq => ⟨fun h => ?_, fun _ => ?_⟩⟩
        · rw [hq] at h; simp at h
        · have hnone : fil fs [97, 47, 47, 98] = fz := by
            unfold fil
            rw [mget_none.2 fun p hp e => ?_]
            · rfl
            · obtain ⟨j, hj, e2⟩ := a5.keys p hp
              rw [e] at e2
              match j, hj with
              | 0, _ => exact absurd e2 (by decide)
              | 1, _ => exact absurd e2 (by decide)
              | 2, _ => exact absurd e2 (by decide)
          have hv1 : validB ([97, 47, 47, 98] : List UInt8) = false := by decide +kernel
          have hv2 : validB ([] : List UInt8) = false := by decide +kernel
          refine put0_M (by simp) (by omega) (by omega) (by omega) (by simp) (by rw [hnone]; simp [fz]) (by rw [hnone]; simp [fz]) ?_
          have e1 : dlay fs [97, 47, 47, 98] [] 0 = (.e 11, fs) := by
            unfold dlay
            rw [if_pos (.inl hv1)]
          rw [e1]
          refine is_M ⟨fun b => b = true, ⟨fun _ => ?_, fun h => by simp [isB] at h⟩, fun q hq => by rw [hq]; exact H⟩
          refine remove_M (by simp) (by omega) (by omega) (by omega) ?_ fun o l d => ⟨fun e he hne => ?_, fun he => ?_⟩
          · have h0 : fil fs [] = fz := by
              unfold fil
              rw [mget_none.2 fun p hp e => ?_]
              · rfl
              · obtain ⟨j, hj, e2⟩ := a5.keys p hp
                rw [e] at e2
                match j, hj with
                | 0, _ => exact absurd e2 (by decide)
                | 1, _ => exact absurd e2 (by decide)
                | 2, _ => exact absurd e2 (by decide)
            rw [h0]; simp [fz]
          · simp [dcall] at he
            exact absurd he.1.symm hne
          · have e2 : dremove fs [] = (.e 11, fs) := by
              unfold dremove
              rw [if_pos hv2]
            rw [e2]
            exact is_M rfl
end Go.Proofs.YtlonpmajnglmoaaDoor


 