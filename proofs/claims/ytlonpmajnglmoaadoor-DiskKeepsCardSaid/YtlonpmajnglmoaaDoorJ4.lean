/- Texts of this claim, joined by a program: GDk, DiskK. -/
import Derived.Test.YtlonpmajnglmoaaDoorJ3
/- Printed by a program (wip/vg): what the functions mean, plainly, and their walks. -/
namespace Go.Proofs.YtlonpmajnglmoaaDoor
open Go Go.RowKit
attribute [local irreducible] WL WC WX WQ WK WJ Yld Eff Ef0 Fn
def M_smithylaw3_DiskKeeps (l : List (Int × Int × Int × List UInt8 × List UInt8)) (keep : Int) (cut : Int) (K : Bool → Prop) : Prop :=
 (l.length ≤ maxLen →
 M_smithylaw3_first (fun (ok : Bool) =>
 (((!ok) = true → K false) ∧
 ((!ok) = false → ((((decide ((40 : Int) < (l.length : Int))) || (!ok)) = true → K ok) ∧
 (((decide ((40 : Int) < (l.length : Int))) || (!ok)) = false → M_disk_New [] (fun (t331 : Er) =>
 K false) (fun (t330_files : List (List UInt8 × List UInt8 × Bool × List UInt8 × Bool × List (Int × List UInt8))) (t330_ops : Int) (t330_left : Int) (t330_down : Bool) (t3312 : Er) =>
 ((¬ (t3312 = Er.ok) → K false) ∧
 (t3312 = Er.ok → Lp6 (fun (i : Int) (t3300 : List (List UInt8 × List UInt8 × Bool × List UInt8 × Bool × List (Int × List UInt8))) (t3301 : Int) (t3302 : Int) (t3303 : Bool) (since : List (List (List UInt8))) kont1 => 3 = since.length → ((i < (l.length : Int) → ∃ J1 : (List (List UInt8 × List UInt8 × Bool × List UInt8 × Bool × List (Int × List UInt8))) → Int → Int → Bool → (List (List (List UInt8))) → Prop, ((0 ≤ i ∧ i < (l.length : Nat)) ∧
 M_smithyworld_Number ((l.getD i.toNat (0, 0, 0, [], [])).2.1) (3 : Int) (fun (k : Int) =>
 (0 ≤ i ∧ i < (l.length : Nat)) ∧
 (((50 : Int) < (((l.getD i.toNat (0, 0, 0, [], [])).2.2.2.2).length : Int) → K true) ∧
 (¬ ((50 : Int) < (((l.getD i.toNat (0, 0, 0, [], [])).2.2.2.2).length : Int)) → (0 ≤ k ∧ k < (3 : Nat)) ∧
 (0 ≤ k ∧ k < (3 : Nat)) ∧
 (In .i64 (((since.getD k.toNat []).length : Int) - (1 : Int))) ∧
 (0 ≤ ((since.getD k.toNat []).length : Int) - (1 : Int) ∧ ((since.getD k.toNat []).length : Int) - (1 : Int) < ((since.getD k.toNat []).length : Nat)) ∧
 (0 ≤ i ∧ i < (l.length : Nat)) ∧
 ((((l.getD i.toNat (0, 0, 0, [], [])).1) = (1 : Int) → (0 ≤ k ∧ k < (3 : Nat)) ∧
 (([119] : List UInt8).length + ((l.getD i.toNat (0, 0, 0, [], [])).2.2.2.2).length ≤ 9223372036854775807) ∧
 M_pdisk_Disk_Write t3300 t3301 t3302 t3303 (([([97] : List UInt8), ([98] : List UInt8), ([99] : List UInt8)] : List (List UInt8)).getD k.toNat []) (([119] : List UInt8) ++ ((l.getD i.toNat (0, 0, 0, [], [])).2.2.2.2)) (fun (t104 : Er) (t330_ : List (List UInt8 × List UInt8 × Bool × List UInt8 × Bool × List (Int × List UInt8))) (t330_2 : Int) (t330_3 : Int) (t330_4 : Bool) =>
 (0 ≤ k ∧ k < (3 : Nat)) ∧
 (([119] : List UInt8).length + ((l.getD i.toNat (0, 0, 0, [], [])).2.2.2.2).length ≤ 9223372036854775807) ∧
 (((since.getD k.toNat []).length + (([([119] : List UInt8) ++ ((l.getD i.toNat (0, 0, 0, [], [])).2.2.2.2)] : List (List UInt8))).length) * 16 ≤ 140737488355328) ∧
 (0 ≤ k ∧ k < (3 : Nat)) ∧
 J1 t330_ t330_2 t330_3 t330_4 (since.set k.toNat ((since.getD k.toNat []) ++ ([([119] : List UInt8) ++ ((l.getD i.toNat (0, 0, 0, [], [])).2.2.2.2)] : List (List UInt8)))))) ∧
 (¬ (((l.getD i.toNat (0, 0, 0, [], [])).1) = (1 : Int)) → ((((l.getD i.toNat (0, 0, 0, [], [])).1) = (2 : Int) → (0 ≤ k ∧ k < (3 : Nat)) ∧
 M_pdisk_Disk_Append t3300 t3301 t3302 t3303 (([([97] : List UInt8), ([98] : List UInt8), ([99] : List UInt8)] : List (List UInt8)).getD k.toNat []) ((l.getD i.toNat (0, 0, 0, [], [])).2.2.2.2) (fun (t124 : Er) (t330_5 : List (List UInt8 × List UInt8 × Bool × List UInt8 × Bool × List (Int × List UInt8))) (t330_6 : Int) (t330_7 : Int) (t330_8 : Bool) =>
 Lp2 (fun (n : Int) (since2 : List (List (List UInt8))) kont2 => 3 = since2.length → ((n ≤ (((l.getD i.toNat (0, 0, 0, [], [])).2.2.2.2).length : Int) → (0 ≤ k ∧ k < (3 : Nat)) ∧
 (0 ≤ n ∧ n ≤ ((l.getD i.toNat (0, 0, 0, [], [])).2.2.2.2).length) ∧
 (((since.getD k.toNat []).getD ((((since.getD k.toNat []).length : Int) - (1 : Int)).toNat) []).length + (((l.getD i.toNat (0, 0, 0, [], [])).2.2.2.2).take n.toNat).length ≤ 9223372036854775807) ∧
 (((since2.getD k.toNat []).length + (([((since.getD k.toNat []).getD ((((since.getD k.toNat []).length : Int) - (1 : Int)).toNat) []) ++ (((l.getD i.toNat (0, 0, 0, [], [])).2.2.2.2).take n.toNat)] : List (List UInt8))).length) * 16 ≤ 140737488355328) ∧
 (0 ≤ k ∧ k < (3 : Nat)) ∧
 (In .i64 (n + (1 : Int))) ∧
 kont2 (n + (1 : Int)) (since2.set k.toNat ((since2.getD k.toNat []) ++ ([((since.getD k.toNat []).getD ((((since.getD k.toNat []).length : Int) - (1 : Int)).toNat) []) ++ (((l.getD i.toNat (0, 0, 0, [], [])).2.2.2.2).take n.toNat)] : List (List UInt8))))) ∧
 (¬ (n ≤ (((l.getD i.toNat (0, 0, 0, [], [])).2.2.2.2).length : Int)) → J1 t330_5 t330_6 t330_7 t330_8 since2))) (1 : Int) since)) ∧
 (¬ (((l.getD i.toNat (0, 0, 0, [], [])).1) = (2 : Int)) → ((((l.getD i.toNat (0, 0, 0, [], [])).1) = (3 : Int) → (0 ≤ k ∧ k < (3 : Nat)) ∧
 M_pdisk_Disk_Remove t3300 t3301 t3302 t3303 (([([97] : List UInt8), ([98] : List UInt8), ([99] : List UInt8)] : List (List UInt8)).getD k.toNat []) (fun (t152 : Er) (t330_9 : List (List UInt8 × List UInt8 × Bool × List UInt8 × Bool × List (Int × List UInt8))) (t330_10 : Int) (t330_11 : Int) (t330_12 : Bool) =>
 (0 ≤ k ∧ k < (3 : Nat)) ∧
 (((since.getD k.toNat []).length + (([([] : List UInt8)] : List (List UInt8))).length) * 16 ≤ 140737488355328) ∧
 (0 ≤ k ∧ k < (3 : Nat)) ∧
 J1 t330_9 t330_10 t330_11 t330_12 (since.set k.toNat ((since.getD k.toNat []) ++ ([([] : List UInt8)] : List (List UInt8)))))) ∧
 (¬ (((l.getD i.toNat (0, 0, 0, [], [])).1) = (3 : Int)) → (0 ≤ k ∧ k < (3 : Nat)) ∧
 M_pdisk_Disk_Sync t3300 t3301 t3302 t3303 (([([97] : List UInt8), ([98] : List UInt8), ([99] : List UInt8)] : List (List UInt8)).getD k.toNat []) (fun (t89 : Er) (t330_13 : List (List UInt8 × List UInt8 × Bool × List UInt8 × Bool × List (Int × List UInt8))) (t330_14 : Int) (t330_15 : Int) (t330_16 : Bool) =>
 (0 ≤ k ∧ k < (3 : Nat)) ∧
 J1 t330_13 t330_14 t330_15 t330_16 (since.set k.toNat ([(since.getD k.toNat []).getD ((((since.getD k.toNat []).length : Int) - (1 : Int)).toNat) []] : List (List UInt8)))))))))))))) ∧
 (∀ t33002 : List (List UInt8 × List UInt8 × Bool × List UInt8 × Bool × List (Int × List UInt8)), ∀ t33012 : Int, ∀ t33022 : Int, ∀ t33032 : Bool, ∀ xs : List (List (List UInt8)), J1 t33002 t33012 t33022 t33032 xs → 3 = xs.length → (In .i64 (i + (1 : Int))) ∧
 kont1 (i + (1 : Int)) t33002 t33012 t33022 t33032 xs)) ∧
 (¬ (i < (l.length : Int)) → M_pdisk_Disk_Arm t3300 t3301 t3302 t3303 (1 : Int) (fun (t330_17 : List (List UInt8 × List UInt8 × Bool × List UInt8 × Bool × List (Int × List UInt8))) (t330_18 : Int) (t330_19 : Int) (t330_20 : Bool) =>
 M_pdisk_Disk_Sync t330_17 t330_18 t330_19 t330_20 ([97] : List UInt8) (fun (t165 : Er) (t330_21 : List (List UInt8 × List UInt8 × Bool × List UInt8 × Bool × List (Int × List UInt8))) (t330_22 : Int) (t330_23 : Int) (t330_24 : Bool) =>
 M_pdisk_Disk_Rise t330_21 t330_22 t330_23 t330_24 keep cut (fun (t330_25 : List (List UInt8 × List UInt8 × Bool × List UInt8 × Bool × List (Int × List UInt8))) (t330_26 : Int) (t330_27 : Int) (t330_28 : Bool) =>
 Lp5 (fun (k_2 : Int) (t33003 : List (List UInt8 × List UInt8 × Bool × List UInt8 × Bool × List (Int × List UInt8))) (t33013 : Int) (t33023 : Int) (t33033 : Bool) kont3 => ((k_2 < (3 : Int) → (0 ≤ k_2 ∧ k_2 < (3 : Nat)) ∧
 M_pdisk_Disk_Read t33003 t33013 t33023 t33033 (([([97] : List UInt8), ([98] : List UInt8), ([99] : List UInt8)] : List (List UInt8)).getD k_2.toNat []) (fun (t1800 : List UInt8) (t1801 : Bool) (t1802 : Er) (t330_29 : List (List UInt8 × List UInt8 × Bool × List UInt8 × Bool × List (Int × List UInt8))) (t330_30 : Int) (t330_31 : Int) (t330_32 : Bool) =>
 ∃ J2 : Bool → Prop, ((((!decide (t1802 = Er.ok)) = true → J2 true) ∧
 ((!decide (t1802 = Er.ok)) = false → (0 ≤ k_2 ∧ k_2 < (3 : Nat)) ∧
 M_smithyref_AmongTexts (since.getD k_2.toNat []) t1800 (fun (t192 : Int) =>
 J2 (decide (t192 < (0 : Int))))))) ∧
 (∀ q4 : Bool, J2 q4 → ((q4 = true → K false) ∧
 (q4 = false → (In .i64 (k_2 + (1 : Int))) ∧
 kont3 (k_2 + (1 : Int)) t330_29 t330_30 t330_31 t330_32))))) ∧
 (¬ (k_2 < (3 : Int)) → M_pdisk_Disk_Down t33003 t33013 t33023 t33033 (fun (t196 : Bool) =>
 K (!t196))))) (0 : Int) t330_25 t330_26 t330_27 t330_28)))))) (0 : Int) t330_files t330_ops t330_left t330_down ([([([] : List UInt8)] : List (List UInt8)), ([([] : List UInt8)] : List (List UInt8)), ([([] : List UInt8)] : List (List UInt8))] : List (List (List UInt8))))))))))))

set_option maxHeartbeats 8000000 in
theorem W_smithylaw3_DiskKeeps {S : List Nat} {w : World} {l : List (Int × Int × Int × List UInt8 × List UInt8)} {A_l : Option Addr} {c_l : Nat} {keep : Int} {cut : Int} {n_l : Nat} {K : Bool → Prop} (hG : GOK S w) (hS0 : 0 ∈ S) (hS1 : 1 ∈ S) (hS2 : 2 ∈ S) (hS3 : 3 ∈ S) (hS4 : 4 ∈ S) (hS5 : 5 ∈ S) (hS6 : 6 ∈ S) (hS7 : 7 ∈ S) (hS8 : 8 ∈ S) (hS9 : 9 ∈ S) (hS10 : 10 ∈ S) (hS11 : 11 ∈ S) (hS12 : 12 ∈ S) (hS13 : 13 ∈ S) (hS14 : 14 ∈ S) (hS15 : 15 ∈ S) (hS16 : 16 ∈ S) (hS100 : 100 ∈ S) (hl : RdK 5 enc54 w A_l c_l l) (hn_l : n_l = l.length) (H : M_smithylaw3_DiskKeeps l keep cut K) : Fn Tryd.prog 5 ⟨[.slice A_l n_l c_l, .int .i64 keep, .int .i64 cut]⟩ w (fun v w' => w.grownBy w' none ∧ ∃ (r : Bool), v = .bool r ∧ K r) := by
  subst hn_l
  unfold M_smithylaw3_DiskKeeps at H
  refine Fn.enter (by kernel_rfl) Tryd.func5 rfl Tryd.ntmps5 rfl ?_
  replace H := H (Nat.le_trans hl.cap hl.max)
  refine WC.seq ?_
  refine WC.region ?_
  refine WL.y rfl (Yld.pure tab_ok rfl) ?_
  refine WL.nil (WX.then_normal ?_)
  refine WC.seq ?_
  refine WC.region ?_
  refine WL.call rfl rfl (W_smithylaw3_first hG hS0 hS1 hS2 hS3 hS4 hS5 hS6 hS7 hS8 hS9 hS10 hS11 hS12 hS13 hS14 hS15 hS16 hS100 H) ?_
  rintro _ w1 ⟨hg1, ok, rfl, H⟩
  have gr1 := hg1
  refine WL.y rfl (Yld.pure tab_ok rfl) ?_
  refine WL.nil (WX.then_normal ?_)
  refine WC.seq ?_
  refine WC.seq ?_
  refine WC.region ?_
  refine WL.y rfl (Yld.pure tab_ok rfl) ?_
  refine WL.y rfl (Yld.pure tab_ok rfl) ?_
  refine WL.nil (WX.then_normal ?_)
  refine WC.cond rfl (fun b1 => ?_) (fun b1 => ?_)
  · replace H := H.1 (b1)
    refine WC.seq ?_
    refine WC.region ?_
    refine WL.y rfl (Yld.pure tab_ok rfl) ?_
    refine WL.nil (WX.then_normal ?_)
    refine WC.ret (WX.then_ret ?_)
    exact WX.ret1 rfl rfl ⟨gr1, false, rfl, H⟩
  · replace H := H.2 (b1)
    refine WC.skip (WX.then_normal ?_)
    refine WC.seq ?_
    refine WC.seq ?_
    refine WC.region ?_
    refine WL.y rfl (Yld.pure tab_ok rfl) ?_
    refine WL.y rfl (Yld.pure tab_ok rfl) ?_
    refine WL.y rfl (Yld.pure tab_ok rfl) ?_
    refine WL.y rfl (Yld.pure tab_ok rfl) ?_
    refine WL.midF 3 (fun L' w' => ∃ q1 : Bool, L' = [(30, .bool q1), (0, .slice A_l l.length c_l), (1, .int .i64 keep), (2, .int .i64 cut), (7, .bool ok)] ∧ ((decide ((40 : Int) < (l.length : Int))) || (!ok)) = q1 ∧ w1 = w') ?_ (fun hQ => ?_)
    · rintro _ _ ⟨q1, rfl, rfl, rfl⟩
      refine WL.nil (WX.then_normal ?_)
      refine WC.cond rfl (fun b2 => ?_) (fun b2 => ?_)
      · replace H := H.1 (b2)
        refine WC.seq ?_
        refine WC.region ?_
        refine WL.y rfl (Yld.pure tab_ok rfl) ?_
        refine WL.y rfl (Yld.pure tab_ok rfl) ?_
        refine WL.nil (WX.then_normal ?_)
        refine WC.ret (WX.then_ret ?_)
        exact WX.ret1 rfl rfl ⟨gr1, ok, rfl, H⟩
      · replace H := H.2 (b2)
        refine WC.skip (WX.then_normal ?_)
        refine WC.seq ?_
        refine WC.region ?_
        refine WL.call rfl rfl (W_disk_New (hG.grown gr1) hS9 hS11 hS100 (OwnK.nil enc43_ok w1 w.heap.size 43).rd rfl H) ?_
        rintro v_ w2 ⟨hg_, hc_ | hc_⟩
        · obtain ⟨v_t331, t331, rfl, ht331, H⟩ := hc_
          have hg2 := hg_
          have gr2 := gr_trans gr1 hg2
          refine WL.y rfl (Yld.pure tab_ok rfl) ?_
          refine WL.y rfl (Yld.pure tab_ok rfl) ?_
          refine WL.y rfl (Yld.pure tab_ok rfl) ?_
          refine WL.y rfl (Yld.pure tab_ok rfl) ?_
          refine WL.y rfl (Yld.pure tab_ok rfl) ?_
          refine WL.nil (WX.then_normal ?_)
          refine WC.seq ?_
          refine WC.seq ?_
          refine WC.region ?_
          refine WL.y rfl (Yld.pure tab_ok rfl) ?_
          refine WL.y rfl (Yld.peqnil Tryd.underlying39 rfl rfl) ?_
          refine WL.y rfl (Yld.pure tab_ok rfl) ?_
          refine WL.midF 3 (fun L' w' => ∃ q2 : Bool, L' = [(41, .bool q2), (0, .slice A_l l.length c_l), (1, .int .i64 keep), (2, .int .i64 cut), (8, .pointer none)] ∧ true = q2 ∧ w2 = w') ?_ (fun hQ => ?_)
          · rintro _ _ ⟨q2, rfl, rfl, rfl⟩
            refine WL.nil (WX.then_normal ?_)
            refine WC.cond rfl (fun _ => ?_) (fun h => by cases h)
            refine WC.seq ?_
            refine WC.region ?_
            refine WL.y rfl (Yld.pure tab_ok rfl) ?_
            refine WL.nil (WX.then_normal ?_)
            refine WC.ret (WX.then_ret ?_)
            exact WX.ret1 rfl rfl ⟨gr2, false, rfl, H⟩
          · clear H
            refine WL.gno rfl rfl (rfl) rfl ?_
            refine WL.gno rfl rfl (rfl) rfl ?_
            refine WL.y rfl (Yld.pickT (rfl) rfl) ?_
            exact WL.weaken (by repeat (first | exact Sub.nil | refine Sub.cons rfl ?_)) (hQ _ _ ⟨true, rfl, rfl, rfl⟩)
        · obtain ⟨g_t330, g_t330_files, hs_t330_files, t330_files, t330_ops, t330_left, t330_down, v_t3312, t3312, rfl, ht3312, ht330_files, hge1, ht330, hge2, dj1, H⟩ := hc_
          have hg3 := hg_
          have gr3 := gr_trans gr1 hg3
          refine WL.y rfl (Yld.pure tab_ok rfl) ?_
          refine WL.y rfl (Yld.pure tab_ok rfl) ?_
          refine WL.y rfl (Yld.pure tab_ok rfl) ?_
          refine WL.y rfl (Yld.pure tab_ok rfl) ?_
          refine WL.y rfl (Yld.pure tab_ok rfl) ?_
          refine WL.nil (WX.then_normal ?_)
          refine WC.seq ?_
          refine WC.seq ?_
          refine WC.region ?_
          refine WL.y rfl (Yld.pure tab_ok rfl) ?_
          refine WL.y rfl (Yld.peqnil Tryd.underlying39 rfl rfl) ?_
          refine WL.y rfl (Yld.pure tab_ok rfl) ?_
          refine WL.midF 3 (fun L' w' => ∃ q3 : Bool, L' = [(41, .bool q3), (0, .slice A_l l.length c_l), (1, .int .i64 keep), (2, .int .i64 cut), (8, .pointer (some ⟨g_t330, 0, none⟩))] ∧ (!decide (t3312 = Er.ok)) = q3 ∧ w2 = w') ?_ (fun hQ => ?_)
          · rintro _ _ ⟨q3, rfl, rfl, rfl⟩
            refine WL.nil (WX.then_normal ?_)
            refine WC.cond rfl (fun b3 => ?_) (fun b3 => ?_)
            · replace H := H.1 (nd_true b3)
              refine WC.seq ?_
              refine WC.region ?_
              refine WL.y rfl (Yld.pure tab_ok rfl) ?_
              refine WL.nil (WX.then_normal ?_)
              refine WC.ret (WX.then_ret ?_)
              exact WX.ret1 rfl rfl ⟨gr3, false, rfl, H⟩
            · replace H := H.2 (nd_false b3)
              refine WC.skip (WX.then_normal ?_)
              refine WC.seq ?_
              refine WC.region ?_
              refine WL.lit tab_ok rfl rfl rfl (all1c rfl (all1c rfl (all1c rfl all1n))) rfl (by omega) (fun g1 w5 hB1 hg4 hl1 => ?_)
              have hO1 : Own vs w5 w.heap.size 9 (some ⟨g1, 0, none⟩) 3 ([([97] : List UInt8), ([98] : List UInt8), ([99] : List UInt8)] : List (List UInt8)) := Own.ofBl hB1 (Nat.le_trans (size_le gr3) hl1) (by simp [maxLen]) rfl
              have gr4 := gr_trans gr3 hg4
              have k1 := ht330_files.g0 hg4
              have k2 := ht330.g0 hg4
              refine WL.y rfl (Yld.pure tab_ok rfl) ?_
              refine WL.nil (WX.then_normal ?_)
              refine WC.seq ?_
              refine WC.region ?_
              refine WL.lit tab_ok rfl rfl rfl (all1c rfl all1n) rfl (by omega) (fun g2 w6 hB2 hg5 hl2 => ?_)
              have hO2 : Own vs w6 w.heap.size 9 (some ⟨g2, 0, none⟩) 1 ([([] : List UInt8)] : List (List UInt8)) := Own.ofBl hB2 (Nat.le_trans (size_le gr4) hl2) (by simp [maxLen]) rfl
              have gr5 := gr_trans gr4 hg5
              have k3 := k1.g0 hg5
              have k4 := k2.g0 hg5
              have k5 := hO1.grown hg5
              refine WL.lit tab_ok rfl rfl rfl (all1c rfl all1n) rfl (by omega) (fun g3 w7 hB3 hg6 hl3 => ?_)
              have hO3 : Own vs w7 w.heap.size 9 (some ⟨g3, 0, none⟩) 1 ([([] : List UInt8)] : List (List UInt8)) := Own.ofBl hB3 (Nat.le_trans (size_le gr5) hl3) (by simp [maxLen]) rfl
              have gr6 := gr_trans gr5 hg6
              have k6 := k3.g0 hg6
              have k7 := k4.g0 hg6
              have k8 := k5.grown hg6
              have k9 := hO2.grown hg6
              refine WL.lit tab_ok rfl rfl rfl (all1c rfl all1n) rfl (by omega) (fun g4 w8 hB4 hg7 hl4 => ?_)
              have hO4 : Own vs w8 w.heap.size 9 (some ⟨g4, 0, none⟩) 1 ([([] : List UInt8)] : List (List UInt8)) := Own.ofBl hB4 (Nat.le_trans (size_le gr6) hl4) (by simp [maxLen]) rfl
              have gr7 := gr_trans gr6 hg7
              have k10 := k6.g0 hg7
              have k11 := k7.g0 hg7
              have k12 := k8.grown hg7
              have k13 := k9.grown hg7
              have k14 := hO3.grown hg7
              refine WL.lit (us := [.slice (some ⟨g2, 0, none⟩) 1 1, .slice (some ⟨g3, 0, none⟩) 1 1, .slice (some ⟨g4, 0, none⟩) 1 1]) tab_ok rfl rfl rfl (all1c rfl (all1c rfl (all1c rfl all1n))) rfl (by omega) (fun g6 w10 hB6 hg9 hl6 => ?_)
              have hO6 : Own hv w10 w.heap.size 22 (some ⟨g6, 0, none⟩) 3 ([(([([] : List UInt8)] : List (List UInt8)), ((some ⟨g2, 0, none⟩), 1)), (([([] : List UInt8)] : List (List UInt8)), ((some ⟨g3, 0, none⟩), 1)), (([([] : List UInt8)] : List (List UInt8)), ((some ⟨g4, 0, none⟩), 1))] : List (List (List UInt8) × Hd)) := Own.ofBl hB6 (Nat.le_trans (size_le gr7) hl6) (by simp [maxLen]) rfl
              have gr8 := gr_trans gr7 hg9
              have k15 := k10.g0 hg9
              have k16 := k11.g0 hg9
              have k17 := k12.grown hg9
              have k18 := k13.grown hg9
              have k19 := k14.grown hg9
              have k20 := hO4.grown hg9
              have k21 : DeepO vs w10 w.heap.size 22 9 (some ⟨g6, 0, none⟩) 3 ([((some ⟨g2, 0, none⟩), 1), ((some ⟨g3, 0, none⟩), 1), ((some ⟨g4, 0, none⟩), 1)] : List Hd) ([([([] : List UInt8)] : List (List UInt8)), ([([] : List UInt8)] : List (List UInt8)), ([([] : List UInt8)] : List (List UInt8))] : List (List (List UInt8))) none := DeepO.made (l := ([(([([] : List UInt8)] : List (List UInt8)), ((some ⟨g2, 0, none⟩), 1)), (([([] : List UInt8)] : List (List UInt8)), ((some ⟨g3, 0, none⟩), 1)), (([([] : List UInt8)] : List (List UInt8)), ((some ⟨g4, 0, none⟩), 1))] : List (List (List UInt8) × Hd))) hO6 (List.forall_mem_cons.2 ⟨⟨k18, (Dj.new k13.lt' (Ge.box hl6)).symm⟩, (List.forall_mem_cons.2 ⟨⟨k19, (Dj.new k14.lt' (Ge.box hl6)).symm⟩, (List.forall_mem_cons.2 ⟨⟨k20, (Dj.new hO4.lt' (Ge.box hl6)).symm⟩, (List.forall_mem_nil _)⟩)⟩)⟩) (List.Pairwise.cons (List.forall_mem_cons.2 ⟨(Dj.new hO2.lt' (Ge.box hl3)), (List.forall_mem_cons.2 ⟨(Dj.new k9.lt' (Ge.box hl4)), (List.forall_mem_nil _)⟩)⟩) (List.Pairwise.cons (List.forall_mem_cons.2 ⟨(Dj.new hO3.lt' (Ge.box hl4)), (List.forall_mem_nil _)⟩) (List.Pairwise.cons (List.forall_mem_nil _) List.Pairwise.nil)))
              have dj2 : AllP (fun p => AllP (Dj p) (FP g_t330_files hs_t330_files none)) (FPd (some ⟨g6, 0, none⟩) ([((some ⟨g2, 0, none⟩), 1), ((some ⟨g3, 0, none⟩), 1), ((some ⟨g4, 0, none⟩), 1)] : List Hd) none) := FPd.made (l := ([(([([] : List UInt8)] : List (List UInt8)), ((some ⟨g2, 0, none⟩), 1)), (([([] : List UInt8)] : List (List UInt8)), ((some ⟨g3, 0, none⟩), 1)), (([([] : List UInt8)] : List (List UInt8)), ((some ⟨g4, 0, none⟩), 1))] : List (List (List UInt8) × Hd))) (Q := fun p => AllP (Dj p) (FP g_t330_files hs_t330_files none)) (k10.new (Ge.box hl6)) (apC (k1.new (Ge.box hl2)) (apC (k3.new (Ge.box hl3)) (apC (k6.new (Ge.box hl4)) apN)))
              have dj3 : AllP (Dj (some g_t330)) (FPd (some ⟨g6, 0, none⟩) ([((some ⟨g2, 0, none⟩), 1), ((some ⟨g3, 0, none⟩), 1), ((some ⟨g4, 0, none⟩), 1)] : List Hd) none) := FPd.made (l := ([(([([] : List UInt8)] : List (List UInt8)), ((some ⟨g2, 0, none⟩), 1)), (([([] : List UInt8)] : List (List UInt8)), ((some ⟨g3, 0, none⟩), 1)), (([([] : List UInt8)] : List (List UInt8)), ((some ⟨g4, 0, none⟩), 1))] : List (List (List UInt8) × Hd))) (Q := Dj (some g_t330)) (Dj.new k11.lt' (Ge.box hl6)) (apC (Dj.new k2.lt' (Ge.box hl2)) (apC (Dj.new k4.lt' (Ge.box hl3)) (apC (Dj.new k7.lt' (Ge.box hl4)) apN)))
              have dj4 : AllP (Dj (blk (some ⟨g1, 0, none⟩))) (FPd (some ⟨g6, 0, none⟩) ([((some ⟨g2, 0, none⟩), 1), ((some ⟨g3, 0, none⟩), 1), ((some ⟨g4, 0, none⟩), 1)] : List Hd) none) := FPd.made (l := ([(([([] : List UInt8)] : List (List UInt8)), ((some ⟨g2, 0, none⟩), 1)), (([([] : List UInt8)] : List (List UInt8)), ((some ⟨g3, 0, none⟩), 1)), (([([] : List UInt8)] : List (List UInt8)), ((some ⟨g4, 0, none⟩), 1))] : List (List (List UInt8) × Hd))) (Q := Dj (blk (some ⟨g1, 0, none⟩))) (Dj.new k12.lt' (Ge.box hl6)) (apC (Dj.new hO1.lt' (Ge.box hl2)) (apC (Dj.new k5.lt' (Ge.box hl3)) (apC (Dj.new k8.lt' (Ge.box hl4)) apN)))
              refine WL.y rfl (Yld.pure tab_ok rfl) ?_
              refine WL.nil (WX.then_normal ?_)
              refine WC.seq ?_
              refine WC.seq ?_
              refine WC.region ?_
              refine WL.y rfl (Yld.pure tab_ok rfl) ?_
              refine WL.nil (WX.then_normal ?_)
              refine WC.block ?_
              obtain ⟨I1, mu1, h0_1, HR1⟩ := H
              refine WC.loopF (fun n' L' w' => ∃ (i : Int), ∃ (t3300 : List (List UInt8 × List UInt8 × Bool × List UInt8 × Bool × List (Int × List UInt8))), ∃ (hs_t3300 : List (List UInt8 × PH)), ∃ (t3301 : Int), ∃ (t3302 : Int), ∃ (t3303 : Bool), ∃ (hs : List Hd), ∃ (since : List (List (List UInt8))), n' = mu1 i t3300 t3301 t3302 t3303 since ∧ L' = [(0, .slice A_l l.length c_l), (1, .int .i64 keep), (2, .int .i64 cut), (8, .pointer (some ⟨g_t330, 0, none⟩)), (10, .slice (some ⟨g1, 0, none⟩) 3 3), (11, .slice (some ⟨g6, 0, none⟩) 3 3), (12, .int .i64 i)] ∧ I1 i t3300 t3301 t3302 t3303 since ∧ 3 = since.length ∧ w.grownBy w' none ∧ Bl w' g_t330 124 [.map (some g_t330_files), .int .i64 t3301, .int .i64 t3302, .bool t3303] ∧ Own vs w' w.heap.size 9 (some ⟨g1, 0, none⟩) 3 ([([97] : List UInt8), ([98] : List UInt8), ([99] : List UInt8)] : List (List UInt8)) ∧ DeepO vs w' w.heap.size 22 9 (some ⟨g6, 0, none⟩) 3 hs since none ∧ PoolO pe128 w' g_t330_files hs_t3300 t3300 none ∧ Dj (some g_t330) (blk (some ⟨g1, 0, none⟩)) ∧ AllP (Dj (some g_t330)) (FPd (some ⟨g6, 0, none⟩) hs none) ∧ AllP (Dj (some g_t330)) (FP g_t330_files hs_t3300 none) ∧ AllP (Dj (blk (some ⟨g1, 0, none⟩))) (FPd (some ⟨g6, 0, none⟩) hs none) ∧ AllP (Dj (blk (some ⟨g1, 0, none⟩))) (FP g_t330_files hs_t3300 none) ∧ AllP (fun p => AllP (Dj p) (FPd (some ⟨g6, 0, none⟩) hs none)) (FP g_t330_files hs_t3300 none) ∧ AllP (fun p => Ge p w.heap.size) (FPd (some ⟨g6, 0, none⟩) hs none) ∧ AllP (fun p => Ge p w.heap.size) (FP g_t330_files hs_t3300 none)) _ _ ⟨(0 : Int), t330_files, hs_t330_files, t330_ops, t330_left, t330_down, ([((some ⟨g2, 0, none⟩), 1), ((some ⟨g3, 0, none⟩), 1), ((some ⟨g4, 0, none⟩), 1)] : List Hd), ([([([] : List UInt8)] : List (List UInt8)), ([([] : List UInt8)] : List (List UInt8)), ([([] : List UInt8)] : List (List UInt8))] : List (List (List UInt8))), rfl, rfl, h0_1, rfl, gr8, k16, k17, k21, k15, (Dj.new ht330.lt' (Ge.box hl1)), dj3, dj1, dj4, (ht330_files.new (Ge.box hl1)), (apSym dj2), (k21.ge'), (fun p hp => Ge.le (hge1 p hp) (size_le gr1))⟩ (by repeat (first | exact Sub.nil | refine Sub.cons rfl ?_)) ?_
              clear h0_1
              rintro _ _ w11 ⟨i, t3300, hs_t3300, t3301, t3302, t3303, hs, since, rfl, rfl, hI1, hn_since, gr9, k22, k23, k24, k25, dj5, dj6, dj7, dj8, dj9, dj10, hi1, hi2⟩
              have H := HR1 i t3300 t3301 t3302 t3303 since hI1
              replace H := H hn_since
              refine WC.seq ?_
              refine WC.seq ?_
              refine WC.region ?_
              refine WL.y rfl (Yld.pure tab_ok rfl) ?_
              refine WL.y rfl (Yld.pure tab_ok rfl) ?_
              refine WL.y rfl (Yld.pure tab_ok rfl) ?_
              refine WL.y rfl (Yld.pure tab_ok rfl) ?_
              refine WL.nil (WX.then_normal ?_)
              refine WC.cond rfl (fun b4 => ?_) (fun b4 => ?_)
              · replace H := H.1 (of_decide_eq_true b4)
                refine WC.skip (WX.then_normal ?_)
                refine WC.seq ?_
                obtain ⟨J1, H, hJ1⟩ := H
                refine WC.midF (fun L' w' => ∃ (t33002 : List (List UInt8 × List UInt8 × Bool × List UInt8 × Bool × List (Int × List UInt8))), ∃ (hs_t33002 : List (List UInt8 × PH)), ∃ (t33012 : Int), ∃ (t33022 : Int), ∃ (t33032 : Bool), ∃ (hs2 : List Hd), ∃ (xs : List (List (List UInt8))), L' = [(0, .slice A_l l.length c_l), (1, .int .i64 keep), (2, .int .i64 cut), (8, .pointer (some ⟨g_t330, 0, none⟩)), (10, .slice (some ⟨g1, 0, none⟩) 3 3), (11, .slice (some ⟨g6, 0, none⟩) 3 3), (12, .int .i64 i)] ∧ J1 t33002 t33012 t33022 t33032 xs ∧ 3 = xs.length ∧ w.grownBy w' none ∧ Bl w' g_t330 124 [.map (some g_t330_files), .int .i64 t33012, .int .i64 t33022, .bool t33032] ∧ Own vs w' w.heap.size 9 (some ⟨g1, 0, none⟩) 3 ([([97] : List UInt8), ([98] : List UInt8), ([99] : List UInt8)] : List (List UInt8)) ∧ DeepO vs w' w.heap.size 22 9 (some ⟨g6, 0, none⟩) 3 hs2 xs none ∧ PoolO pe128 w' g_t330_files hs_t33002 t33002 none ∧ Dj (some g_t330) (blk (some ⟨g1, 0, none⟩)) ∧ AllP (Dj (some g_t330)) (FPd (some ⟨g6, 0, none⟩) hs2 none) ∧ AllP (Dj (some g_t330)) (FP g_t330_files hs_t33002 none) ∧ AllP (Dj (blk (some ⟨g1, 0, none⟩))) (FPd (some ⟨g6, 0, none⟩) hs2 none) ∧ AllP (Dj (blk (some ⟨g1, 0, none⟩))) (FP g_t330_files hs_t33002 none) ∧ AllP (fun p => AllP (Dj p) (FPd (some ⟨g6, 0, none⟩) hs2 none)) (FP g_t330_files hs_t33002 none) ∧ AllP (fun p => Ge p w.heap.size) (FPd (some ⟨g6, 0, none⟩) hs2 none) ∧ AllP (fun p => Ge p w.heap.size) (FP g_t330_files hs_t33002 none)) ?_ (fun hQ => ?_)
                · clear H
                  rintro _ w12 ⟨t33002, hs_t33002, t33012, t33022, t33032, hs2, xs, rfl, H, hn_xs, gr10, k26, k27, k28, k29, dj11, dj12, dj13, dj14, dj15, dj16, hi3, hi4⟩
                  replace H := hJ1 t33002 t33012 t33022 t33032 xs H
                  replace H := H hn_xs
                  refine WX.then_normal ?_
                  refine WC.region ?_
                  refine WL.y rfl (Yld.pure tab_ok rfl) ?_
                  obtain ⟨h1, H⟩ := H
                  refine WL.y rfl (Yld.add rfl rfl h1) ?_
                  refine WL.y rfl (Yld.pure tab_ok rfl) ?_
                  refine WL.nil ?_
                  exact WX.roundF _ ⟨i + (1 : Int), t33002, hs_t33002, t33012, t33022, t33032, hs2, xs, rfl, rfl, H.1, hn_xs, gr10, k26, k27, k28, k29, dj11, dj12, dj13, dj14, dj15, dj16, (k28.ge'), hi4⟩ (by repeat (first | exact Sub.nil | refine Sub.cons rfl ?_)) H.2
                · clear hJ1
                  refine WC.block ?_
                  refine WC.seq ?_
                  refine WC.region ?_
                  refine WL.y rfl (Yld.pure tab_ok rfl) ?_
                  refine WL.y rfl (Yld.pure tab_ok rfl) ?_
                  obtain ⟨h2, H⟩ := H
                  refine WL.y rfl (Yld.iaddrK tab_ok (hl.grown gr9) rfl rfl rfl rfl h2.1 h2.2) ?_
                  refine WL.y rfl (Yld.faddrK tab_ok (hl.grown gr9) (iltN h2 rfl) rfl rfl rfl) ?_
                  refine WL.y rfl (Yld.iloadF (0, 0, 0, [], []) tab_ok (hl.grown gr9) rfl rfl (iltN h2 rfl) rfl) ?_
                  refine WL.call rfl rfl (W_smithyworld_Number H) ?_
                  rintro _ _ ⟨rfl, k, rfl, H⟩
                  refine WL.y rfl (Yld.pure tab_ok rfl) ?_
                  refine WL.nil (WX.then_normal ?_)
                  refine WC.seq ?_
                  refine WC.region ?_
                  refine WL.y rfl (Yld.pure tab_ok rfl) ?_
                  refine WL.y rfl (Yld.pure tab_ok rfl) ?_
                  obtain ⟨h3, H⟩ := H
                  refine WL.y rfl (Yld.iaddrK tab_ok (hl.grown gr9) rfl rfl rfl rfl h3.1 h3.2) ?_
                  refine WL.y rfl (Yld.faddrK tab_ok (hl.grown gr9) (iltN h3 rfl) rfl rfl rfl) ?_
                  refine WL.y rfl (Yld.iloadF (0, 0, 0, [], []) tab_ok (hl.grown gr9) rfl rfl (iltN h3 rfl) rfl) ?_
                  refine WL.y rfl (Yld.pure tab_ok rfl) ?_
                  refine WL.nil (WX.then_normal ?_)
                  refine WC.seq ?_
                  refine WC.seq ?_
                  refine WC.region ?_
                  refine WL.y rfl (Yld.pure tab_ok rfl) ?_
                  refine WL.y rfl (Yld.pure tab_ok rfl) ?_
                  refine WL.y rfl (Yld.pure tab_ok rfl) ?_
                  refine WL.nil (WX.then_normal ?_)
                  refine WC.cond rfl (fun b5 => ?_) (fun b5 => ?_)
                  · replace H := H.1 (of_decide_eq_true b5)
                    refine WC.seq ?_
                    refine WC.region ?_
                    refine WL.y rfl (Yld.pure tab_ok rfl) ?_
                    refine WL.nil (WX.then_normal ?_)
                    refine WC.ret (WX.then_ret (WX.block_ret (WX.then_ret (WX.then_ret (WX.block_ret (WX.then_ret ?_))))))
                    exact WX.ret1 rfl rfl ⟨gr9, true, rfl, H⟩
                  · replace H := H.2 (of_decide_eq_false b5)
                    refine WC.skip (WX.then_normal ?_)
                    refine WC.seq ?_
                    refine WC.quiet mixed (by kernel_rfl) ?_
                    refine WQ.y rfl (Yld.pure tab_ok rfl) ?_
                    refine WQ.y rfl (Yld.pure tab_ok rfl) ?_
                    obtain ⟨h4, H⟩ := H
                    refine WQ.y rfl (Yld.iaddrW tab_ok k24.out.rd rfl rfl (hn_since.trans k24.zl.symm) rfl h4.1 h4.2) ?_
                    refine WQ.y rfl (Yld.dload tab_ok k24 rfl rfl (iltN h4 hn_since)) ?_
                    refine WQ.y rfl (Yld.pure tab_ok rfl) ?_
                    refine WQ.y rfl (Yld.pure tab_ok rfl) ?_
                    obtain ⟨h5, H⟩ := H
                    refine WQ.y rfl (Yld.iaddrW tab_ok k24.out.rd rfl rfl (hn_since.trans k24.zl.symm) rfl h5.1 h5.2) ?_
                    refine WQ.y rfl (Yld.dload tab_ok k24 rfl rfl (iltN h5 hn_since)) ?_
                    refine WQ.y rfl (Yld.pure tab_ok rfl) ?_
                    obtain ⟨h6, H⟩ := H
                    refine WQ.y rfl (Yld.sub rfl rfl h6) ?_
                    obtain ⟨h7, H⟩ := H
                    refine WQ.y rfl (Yld.iaddrW tab_ok (DeepO.rd k24 (iltN h4 hn_since)) rfl rfl rfl rfl h7.1 h7.2) ?_
                    refine WQ.y rfl (Yld.iload [] tab_ok (DeepO.rd k24 (iltN h4 hn_since)) rfl rfl (iltN h7 rfl)) ?_
                    refine WQ.y rfl (Yld.pure tab_ok rfl) ?_
                    refine WQ.nil (WX.then_normal ?_)
                    refine WC.seq ?_
                    refine WC.region ?_
                    refine WL.y rfl (Yld.pure tab_ok rfl) ?_
                    refine WL.y rfl (Yld.pure tab_ok rfl) ?_
                    obtain ⟨h8, H⟩ := H
                    refine WL.y rfl (Yld.iaddrK tab_ok (hl.grown gr9) rfl rfl rfl rfl h8.1 h8.2) ?_
                    refine WL.y rfl (Yld.faddrK tab_ok (hl.grown gr9) (iltN h8 rfl) rfl rfl rfl) ?_
                    refine WL.y rfl (Yld.iloadF (0, 0, 0, [], []) tab_ok (hl.grown gr9) rfl rfl (iltN h8 rfl) rfl) ?_
                    refine WL.nil (WX.then_normal ?_)
                    refine WC.block ?_
                    refine WC.seq ?_
                    refine WC.region ?_
                    refine WL.y rfl (Yld.pure tab_ok rfl) ?_
                    refine WL.y rfl (Yld.pure tab_ok rfl) ?_
                    refine WL.nil (WX.then_normal ?_)
                    refine WC.cond rfl (fun b6 => ?_) (fun b6 => ?_)
                    · replace H := H.1 (of_decide_eq_true b6)
                      refine WC.seq ?_
                      refine WC.region ?_
                      refine WL.y rfl (Yld.pure tab_ok rfl) ?_
                      refine WL.y rfl (Yld.pure tab_ok rfl) ?_
                      refine WL.y rfl (Yld.pure tab_ok rfl) ?_
                      obtain ⟨h9, H⟩ := H
                      refine WL.y rfl (Yld.iaddrW tab_ok k23.rd rfl rfl rfl rfl h9.1 h9.2) ?_
                      refine WL.y rfl (Yld.iload [] tab_ok k23.rd rfl rfl (iltN h9 rfl)) ?_
                      refine WL.y rfl (Yld.pure tab_ok rfl) ?_
                      obtain ⟨h10, H⟩ := H
                      refine WL.y rfl (Yld.sadd rfl rfl h10) ?_
                      refine WL.call rfl rfl (W_pdisk_Disk_Write (GB.grown hG gr9) (size_le gr9) (apC (Ge.le hge2 (size_le gr1)) hi2) hS9 hS11 hS15 hS100 k25 k22 dj7 H) ?_
                      rintro v_t104 w13 ⟨hgl1, _, t104, hs_t330_, t330_, t330_2, t330_3, t330_4, rfl, ht104, hB7, hM1, hi5, dj17, H⟩
                      have gr11 := gr_modL gr9 hgl1 (apC (Ge.le hge2 (size_le gr1)) hi2)
                      have k30 := k23.goL hgl1 (apC dj5.symm dj9)
                      have k31 := k24.goL hgl1 (apC dj6 dj10)
                      refine WL.nil (WX.then_normal ?_)
                      refine WC.region ?_
                      refine WL.y rfl (Yld.pure tab_ok rfl) ?_
                      refine WL.y rfl (Yld.pure tab_ok rfl) ?_
                      refine WL.y rfl (Yld.pure tab_ok rfl) ?_
                      refine WL.y rfl (Yld.pure tab_ok rfl) ?_
                      obtain ⟨h11, H⟩ := H
                      refine WL.y rfl (Yld.iaddrW tab_ok k31.out.rd rfl rfl (hn_since.trans k31.zl.symm) rfl h11.1 h11.2) ?_
                      refine WL.y rfl (Yld.dload tab_ok k31 rfl rfl (iltN h11 hn_since)) ?_
                      refine WL.y rfl (Yld.pure tab_ok rfl) ?_
                      obtain ⟨h12, H⟩ := H
                      refine WL.y rfl (Yld.sadd rfl rfl h12) ?_
                      refine WL.lit tab_ok rfl rfl rfl (all1c rfl all1n) rfl (by omega) (fun g7 w14 hB8 hg10 hl7 => ?_)
                      have hO7 : Own vs w14 w.heap.size 9 (some ⟨g7, 0, none⟩) 1 ([([119] : List UInt8) ++ ((l.getD i.toNat (0, 0, 0, [], [])).2.2.2.2)] : List (List UInt8)) := Own.ofBl hB8 (Nat.le_trans (size_le gr11) hl7) (by simp [maxLen]) rfl
                      have gr12 := gr_trans gr11 hg10
                      have k32 := hB7.g0 hg10
                      have k33 := k30.grown hg10
                      have k34 := k31.g0 hg10
                      have k35 := hM1.g0 hg10
                      obtain ⟨hO8, k36, dj18⟩ := DeepO.open k34 (iltN h11 hn_since)
                      have dj19 := DeepO.at (Q := Dj (some g_t330)) k34 (iltN h11 hn_since) dj6
                      have dj20 := FPd.sub (j := k.toNat) (Q := Dj (some g_t330)) dj6
                      have dj21 := DeepO.at (Q := Dj (blk (some ⟨g1, 0, none⟩))) k34 (iltN h11 hn_since) dj8
                      have dj22 := FPd.sub (j := k.toNat) (Q := Dj (blk (some ⟨g1, 0, none⟩))) dj8
                      have dj23 := DeepO.at (Q := fun p => AllP (Dj p) (FP g_t330_files hs_t330_ none)) k34 (iltN h11 hn_since) (apSym (DeepO.inpA k24 hi5 (apC dj6 dj10)))
                      have dj24 := FPd.sub (j := k.toNat) (Q := fun p => AllP (Dj p) (FP g_t330_files hs_t330_ none)) (apSym (DeepO.inpA k24 hi5 (apC dj6 dj10)))
                      have dj25 := DeepO.at (Q := Dj (blk (some ⟨g7, 0, none⟩))) k34 (iltN h11 hn_since) (k31.new (Ge.box hl7))
                      have dj26 := FPd.sub (j := k.toNat) (Q := Dj (blk (some ⟨g7, 0, none⟩))) (k31.new (Ge.box hl7))
                      obtain ⟨h13, H⟩ := H
                      refine WL.append tab_ok rfl rfl One.s hO8 rfl rfl hO7.rd rfl rfl h13 (applen h13) (size_le gr12) (fun A_t114 c_t114 w15 hO9 hg11 hk1 => ?_)
                      have gr13 := gr_mod gr12 hg11 hO8.ge'
                      have k37 := k32.go hg11 dj19
                      have k38 := k33.go hg11 dj21
                      have k39 := k36.go hg11 dj18
                      have k40 := k35.go hg11 dj23
                      obtain ⟨h14, H⟩ := H
                      refine WL.y rfl (Yld.iaddrW tab_ok k39.out.rd rfl rfl (hn_since.trans k39.zl.symm) rfl h14.1 h14.2) ?_
                      have dj27 := FPd.closeA (A' := A_t114) (c' := c_t114) (Q := Dj (some g_t330)) dj20 (Dj.app dj19.symm k32.lt' hk1).symm
                      have dj28 := FPd.closeA (A' := A_t114) (c' := c_t114) (Q := Dj (blk (some ⟨g1, 0, none⟩))) dj22 (Dj.app dj21.symm k33.lt' hk1).symm
                      have dj29 := FPd.closeA (A' := A_t114) (c' := c_t114) (Q := fun p => AllP (Dj p) (FP g_t330_files hs_t330_ none)) dj24 (PoolO.app k35 dj23 hk1)
                      refine WL.dstore (ys := ((since.getD k.toNat []) ++ ([([119] : List UInt8) ++ ((l.getD i.toNat (0, 0, 0, [], [])).2.2.2.2)] : List (List UInt8)))) one22 k39 rfl rfl rfl (iltN h14 hn_since) hO9 (DeepO.app k36 dj18 hk1) (fun w16 hD1 hg12 => ?_)
                      have gr14 := gr_mod gr13 hg12 (apH (k39.ge'))
                      have k41 := k37.go hg12 (apH dj20)
                      have k42 := k38.go hg12 (apH dj22)
                      have k43 := k40.go hg12 (apH dj24)
                      refine WL.nil (WX.block_normal (WX.block_normal ?_))
                      exact WX.weaken (by repeat (first | exact Sub.nil | refine Sub.cons rfl ?_)) (hQ _ _ ⟨t330_, hs_t330_, t330_2, t330_3, t330_4, hs.set k.toNat (A_t114, c_t114), since.set k.toNat ((since.getD k.toNat []) ++ ([([119] : List UInt8) ++ ((l.getD i.toNat (0, 0, 0, [], [])).2.2.2.2)] : List (List UInt8))), rfl, H, (hn_since.trans List.length_set.symm), gr14, k41, k42, hD1, k43, dj5, dj27, dj17, dj28, (InA.dj hi5 k23.lt' (apC dj5.symm dj9)), (apSym dj29), (hD1.ge'), (InA.toGe hi5 (apC (Ge.le hge2 (size_le gr1)) hi2) (size_le gr9))⟩)
                    · replace H := H.2 (of_decide_eq_false b6)
                      refine WC.seq ?_
                      refine WC.region ?_
                      refine WL.y rfl (Yld.pure tab_ok rfl) ?_
                      refine WL.y rfl (Yld.pure tab_ok rfl) ?_
                      refine WL.nil (WX.then_normal ?_)
                      refine WC.cond rfl (fun b7 => ?_) (fun b7 => ?_)
                      · replace H := H.1 (of_decide_eq_true b7)
                        refine WC.seq ?_
                        refine WC.region ?_
                        refine WL.y rfl (Yld.pure tab_ok rfl) ?_
                        refine WL.y rfl (Yld.pure tab_ok rfl) ?_
                        refine WL.y rfl (Yld.pure tab_ok rfl) ?_
                        obtain ⟨h15, H⟩ := H
                        refine WL.y rfl (Yld.iaddrW tab_ok k23.rd rfl rfl rfl rfl h15.1 h15.2) ?_
                        refine WL.y rfl (Yld.iload [] tab_ok k23.rd rfl rfl (iltN h15 rfl)) ?_
                        refine WL.y rfl (Yld.pure tab_ok rfl) ?_
                        refine WL.call rfl rfl (W_pdisk_Disk_Append (GB.grown hG gr9) (size_le gr9) (apC (Ge.le hge2 (size_le gr1)) hi2) hS9 hS11 hS15 hS100 k25 k22 dj7 H) ?_
                        rintro v_t124 w17 ⟨hgl2, _, t124, hs_t330_2, t330_5, t330_6, t330_7, t330_8, rfl, ht124, hB9, hM2, hi6, dj30, H⟩
                        have gr15 := gr_modL gr9 hgl2 (apC (Ge.le hge2 (size_le gr1)) hi2)
                        have k44 := k23.goL hgl2 (apC dj5.symm dj9)
                        have k45 := k24.goL hgl2 (apC dj6 dj10)
                        refine WL.nil (WX.then_normal ?_)
                        refine WC.seq ?_
                        refine WC.region ?_
                        refine WL.y rfl (Yld.pure tab_ok rfl) ?_
                        refine WL.nil (WX.then_normal ?_)
                        refine WC.block ?_
                        obtain ⟨I2, mu2, h0_2, HR2⟩ := H
                        refine WC.loopF (fun n' L' w' => ∃ (n : Int), ∃ (hs3 : List Hd), ∃ (since2 : List (List (List UInt8))), n' = mu2 n since2 ∧ L' = [(0, .slice A_l l.length c_l), (1, .int .i64 keep), (2, .int .i64 cut), (8, .pointer (some ⟨g_t330, 0, none⟩)), (10, .slice (some ⟨g1, 0, none⟩) 3 3), (11, .slice (some ⟨g6, 0, none⟩) 3 3), (12, .int .i64 i), (13, .int .i64 k), (14, vs ((l.getD i.toNat (0, 0, 0, [], [])).2.2.2.2)), (15, vs ((since.getD k.toNat []).getD ((((since.getD k.toNat []).length : Int) - (1 : Int)).toNat) [])), (16, .int .i64 n)] ∧ I2 n since2 ∧ 3 = since2.length ∧ w.grownBy w' none ∧ Bl w' g_t330 124 [.map (some g_t330_files), .int .i64 t330_6, .int .i64 t330_7, .bool t330_8] ∧ Own vs w' w.heap.size 9 (some ⟨g1, 0, none⟩) 3 ([([97] : List UInt8), ([98] : List UInt8), ([99] : List UInt8)] : List (List UInt8)) ∧ DeepO vs w' w.heap.size 22 9 (some ⟨g6, 0, none⟩) 3 hs3 since2 none ∧ PoolO pe128 w' g_t330_files hs_t330_2 t330_5 none ∧ Dj (some g_t330) (blk (some ⟨g1, 0, none⟩)) ∧ AllP (Dj (some g_t330)) (FPd (some ⟨g6, 0, none⟩) hs3 none) ∧ AllP (Dj (some g_t330)) (FP g_t330_files hs_t330_2 none) ∧ AllP (Dj (blk (some ⟨g1, 0, none⟩))) (FPd (some ⟨g6, 0, none⟩) hs3 none) ∧ AllP (Dj (blk (some ⟨g1, 0, none⟩))) (FP g_t330_files hs_t330_2 none) ∧ AllP (fun p => AllP (Dj p) (FPd (some ⟨g6, 0, none⟩) hs3 none)) (FP g_t330_files hs_t330_2 none) ∧ AllP (fun p => Ge p w.heap.size) (FPd (some ⟨g6, 0, none⟩) hs3 none) ∧ AllP (fun p => Ge p w.heap.size) (FP g_t330_files hs_t330_2 none)) _ _ ⟨(1 : Int), hs, since, rfl, rfl, h0_2, hn_since, gr15, hB9, k44, k45, hM2, dj5, dj6, dj30, dj8, (InA.dj hi6 k23.lt' (apC dj5.symm dj9)), (DeepO.inpA k24 hi6 (apC dj6 dj10)), (k45.ge'), (InA.toGe hi6 (apC (Ge.le hge2 (size_le gr1)) hi2) (size_le gr9))⟩ (by repeat (first | exact Sub.nil | refine Sub.cons rfl ?_)) ?_
                        clear h0_2
                        rintro _ _ w18 ⟨n, hs3, since2, rfl, rfl, hI2, hn_since2, gr16, k46, k47, k48, k49, dj31, dj32, dj33, dj34, dj35, dj36, hi7, hi8⟩
                        have H := HR2 n since2 hI2
                        replace H := H hn_since2
                        refine WC.seq ?_
                        refine WC.seq ?_
                        refine WC.region ?_
                        refine WL.y rfl (Yld.pure tab_ok rfl) ?_
                        refine WL.y rfl (Yld.pure tab_ok rfl) ?_
                        refine WL.y rfl (Yld.pure tab_ok rfl) ?_
                        refine WL.y rfl (Yld.pure tab_ok rfl) ?_
                        refine WL.nil (WX.then_normal ?_)
                        refine WC.cond rfl (fun b8 => ?_) (fun b8 => ?_)
                        · replace H := H.1 (of_decide_eq_true b8)
                          refine WC.skip (WX.then_normal ?_)
                          refine WC.seq ?_
                          refine WC.block ?_
                          refine WC.chainF (fun k => !(Nat.beq k 11 || Nat.beq k 12 || Nat.beq k 14)) (LD [5] (fun w' => DeepO vs w' w.heap.size 22 9 (some ⟨g6, 0, none⟩) 3 hs3 since2 none)) mixed (by kernel_rfl) (fun k w' h _ => (DeepO.eqv h k48)) ?_
                          refine WJ.y rfl rfl (fun w' hw' => Yld.pure tab_ok rfl) ?_
                          refine WJ.y rfl rfl (fun w' hw' => Yld.pure tab_ok rfl) ?_
                          refine WJ.y rfl rfl (fun w' hw' => Yld.pure tab_ok rfl) ?_
                          refine WJ.y rfl rfl (fun w' hw' => Yld.pure tab_ok rfl) ?_
                          obtain ⟨h16, H⟩ := H
                          refine WJ.y rfl rfl (fun w' hw' => Yld.iaddrW tab_ok k48.out.rd rfl rfl (hn_since2.trans k48.zl.symm) rfl h16.1 h16.2) ?_
                          refine WJ.y rfl rfl (fun w' hw' => Yld.dload tab_ok (hw' rfl) rfl rfl (iltN h16 hn_since2)) ?_
                          refine WJ.y rfl rfl (fun w' hw' => Yld.pure tab_ok rfl) ?_
                          refine WJ.y rfl rfl (fun w' hw' => Yld.pure tab_ok rfl) ?_
                          refine WJ.y rfl rfl (fun w' hw' => Yld.pure tab_ok rfl) ?_
                          obtain ⟨h17, H⟩ := H
                          refine WJ.y rfl rfl (fun w' hw' => Yld.scut tab_ok rfl rfl rfl rfl (Int.le_refl 0) h17.1 h17.2) ?_
                          obtain ⟨h18, H⟩ := H
                          refine WJ.y rfl rfl (fun w' hw' => Yld.sadd rfl rfl h18) ?_
                          refine WJ.putw rfl (wants_none) rfl (Eff.lit tab_ok rfl rfl (all1c rfl all1n) rfl (by omega)) (fun v w' ⟨_, _, h⟩ => DD.keep (DeepO.g0 k48 (gr_eqv h (Eqv.refl _)))) ?_
                          rintro _ w19 ⟨rfl, hB10, hg13⟩
                          obtain ⟨g_t142, hl8⟩ : ∃ g, g = w18.heap.size := ⟨_, rfl⟩
                          rw [← hl8] at hB10
                          rw [← hl8]
                          have hO10 : Own vs w19 w.heap.size 9 (some ⟨g_t142, 0, none⟩) 1 ([((since.getD k.toNat []).getD ((((since.getD k.toNat []).length : Int) - (1 : Int)).toNat) []) ++ (((l.getD i.toNat (0, 0, 0, [], [])).2.2.2.2).take n.toNat)] : List (List UInt8)) := Own.ofBl hB10 (Nat.le_trans (size_le gr16) (Nat.le_of_eq hl8.symm)) (by simp [maxLen]) rfl
                          have gr17 := gr_trans gr16 hg13
                          have k50 := k46.g0 hg13
                          have k51 := k47.grown hg13
                          have k52 := k48.g0 hg13
                          have k53 := k49.g0 hg13
                          obtain ⟨hO11, k54, dj37⟩ := DeepO.open k52 (iltN h16 hn_since2)
                          have dj38 := DeepO.at (Q := Dj (some g_t330)) k52 (iltN h16 hn_since2) dj32
                          have dj39 := FPd.sub (j := k.toNat) (Q := Dj (some g_t330)) dj32
                          have dj40 := DeepO.at (Q := Dj (blk (some ⟨g1, 0, none⟩))) k52 (iltN h16 hn_since2) dj34
                          have dj41 := FPd.sub (j := k.toNat) (Q := Dj (blk (some ⟨g1, 0, none⟩))) dj34
                          have dj42 := DeepO.at (Q := fun p => AllP (Dj p) (FP g_t330_files hs_t330_2 none)) k52 (iltN h16 hn_since2) (apSym dj36)
                          have dj43 := FPd.sub (j := k.toNat) (Q := fun p => AllP (Dj p) (FP g_t330_files hs_t330_2 none)) (apSym dj36)
                          have dj44 := DeepO.at (Q := Dj (blk (some ⟨g_t142, 0, none⟩))) k52 (iltN h16 hn_since2) (k48.new (Ge.box (Nat.le_of_eq hl8.symm)))
                          have dj45 := FPd.sub (j := k.toNat) (Q := Dj (blk (some ⟨g_t142, 0, none⟩))) (k48.new (Ge.box (Nat.le_of_eq hl8.symm)))
                          obtain ⟨h19, H⟩ := H
                          refine WJ.putw rfl (wants_none) rfl (Eff.append tab_ok rfl One.s hO11 rfl rfl hO10.rd rfl rfl h19 (applen h19) (size_le gr17)) (fun v w' ⟨_, _, _, _, h, _⟩ => DD.past (by kernel_rfl)) ?_
                          rintro _ w20 ⟨A_t143, c_t143, rfl, hO12, hg14, hk2⟩
                          have gr18 := gr_mod gr17 hg14 hO11.ge'
                          have k55 := k50.go hg14 dj38
                          have k56 := k51.go hg14 dj40
                          have k57 := k54.go hg14 dj37
                          have k58 := k53.go hg14 dj42
                          obtain ⟨h20, H⟩ := H
                          refine WJ.y rfl rfl (fun w' hw' => Yld.iaddrW tab_ok k57.out.rd rfl rfl (hn_since2.trans k57.zl.symm) rfl h20.1 h20.2) ?_
                          have dj46 := FPd.closeA (A' := A_t143) (c' := c_t143) (Q := Dj (some g_t330)) dj39 (Dj.app dj38.symm k50.lt' hk2).symm
                          have dj47 := FPd.closeA (A' := A_t143) (c' := c_t143) (Q := Dj (blk (some ⟨g1, 0, none⟩))) dj41 (Dj.app dj40.symm k51.lt' hk2).symm
                          have dj48 := FPd.closeA (A' := A_t143) (c' := c_t143) (Q := fun p => AllP (Dj p) (FP g_t330_files hs_t330_2 none)) dj43 (PoolO.app k53 dj42 hk2)
                          refine WJ.eff rfl (Ef0.dstore (ys := ((since2.getD k.toNat []) ++ ([((since.getD k.toNat []).getD ((((since.getD k.toNat []).length : Int) - (1 : Int)).toNat) []) ++ (((l.getD i.toNat (0, 0, 0, [], [])).2.2.2.2).take n.toNat)] : List (List UInt8)))) one22 k57 rfl rfl rfl (iltN h20 hn_since2) hO12 (DeepO.app k54 dj37 hk2)) (fun w' h => DD.past (by kernel_rfl)) ?_
                          rintro w22 ⟨hD2, hg16⟩
                          have gr19 := gr_mod gr18 hg16 (apH (k57.ge'))
                          have k59 := k55.go hg16 (apH dj39)
                          have k60 := k56.go hg16 (apH dj41)
                          have k61 := k58.go hg16 (apH dj43)
                          refine WJ.nil (WX.block_normal (WX.then_normal ?_))
                          refine WC.region ?_
                          refine WL.y rfl (Yld.pure tab_ok rfl) ?_
                          obtain ⟨h21, H⟩ := H
                          refine WL.y rfl (Yld.add rfl rfl h21) ?_
                          refine WL.y rfl (Yld.pure tab_ok rfl) ?_
                          refine WL.nil ?_
                          exact WX.roundF _ ⟨n + (1 : Int), hs3.set k.toNat (A_t143, c_t143), since2.set k.toNat ((since2.getD k.toNat []) ++ ([((since.getD k.toNat []).getD ((((since.getD k.toNat []).length : Int) - (1 : Int)).toNat) []) ++ (((l.getD i.toNat (0, 0, 0, [], [])).2.2.2.2).take n.toNat)] : List (List UInt8))), rfl, rfl, H.1, (hn_since2.trans List.length_set.symm), gr19, k59, k60, hD2, k61, dj31, dj46, dj33, dj47, dj35, (apSym dj48), (hD2.ge'), hi8⟩ (by repeat (first | exact Sub.nil | refine Sub.cons rfl ?_)) H.2
                        · replace H := H.2 (of_decide_eq_false b8)
                          refine WC.exit (WX.then_exit (WX.then_exit (WX.block_same (WX.block_normal (WX.block_normal ?_)))))
                          exact WX.weaken (by repeat (first | exact Sub.nil | refine Sub.cons rfl ?_)) (hQ _ _ ⟨t330_5, hs_t330_2, t330_6, t330_7, t330_8, hs3, since2, rfl, H, hn_since2, gr16, k46, k47, k48, k49, dj31, dj32, dj33, dj34, dj35, dj36, (k48.ge'), hi8⟩)
                      · replace H := H.2 (of_decide_eq_false b7)
                        refine WC.seq ?_
                        refine WC.region ?_
                        refine WL.y rfl (Yld.pure tab_ok rfl) ?_
                        refine WL.y rfl (Yld.pure tab_ok rfl) ?_
                        refine WL.nil (WX.then_normal ?_)
                        refine WC.cond rfl (fun b9 => ?_) (fun b9 => ?_)
                        · replace H := H.1 (of_decide_eq_true b9)
                          refine WC.seq ?_
                          refine WC.region ?_
                          refine WL.y rfl (Yld.pure tab_ok rfl) ?_
                          refine WL.y rfl (Yld.pure tab_ok rfl) ?_
                          refine WL.y rfl (Yld.pure tab_ok rfl) ?_
                          obtain ⟨h22, H⟩ := H
                          refine WL.y rfl (Yld.iaddrW tab_ok k23.rd rfl rfl rfl rfl h22.1 h22.2) ?_
                          refine WL.y rfl (Yld.iload [] tab_ok k23.rd rfl rfl (iltN h22 rfl)) ?_
                          refine WL.call rfl rfl (W_pdisk_Disk_Remove (GB.grown hG gr9) (size_le gr9) (apC (Ge.le hge2 (size_le gr1)) hi2) hS11 hS15 hS100 k25 k22 dj7 H) ?_
                          rintro v_t152 w23 ⟨hgl3, _, t152, hs_t330_3, t330_9, t330_10, t330_11, t330_12, rfl, ht152, hB11, hM3, hi9, dj49, H⟩
                          have gr20 := gr_modL gr9 hgl3 (apC (Ge.le hge2 (size_le gr1)) hi2)
                          have k62 := k23.goL hgl3 (apC dj5.symm dj9)
                          have k63 := k24.goL hgl3 (apC dj6 dj10)
                          refine WL.nil (WX.then_normal ?_)
                          refine WC.region ?_
                          refine WL.y rfl (Yld.pure tab_ok rfl) ?_
                          refine WL.y rfl (Yld.pure tab_ok rfl) ?_
                          refine WL.y rfl (Yld.pure tab_ok rfl) ?_
                          refine WL.y rfl (Yld.pure tab_ok rfl) ?_
                          obtain ⟨h23, H⟩ := H
                          refine WL.y rfl (Yld.iaddrW tab_ok k63.out.rd rfl rfl (hn_since.trans k63.zl.symm) rfl h23.1 h23.2) ?_
                          refine WL.y rfl (Yld.dload tab_ok k63 rfl rfl (iltN h23 hn_since)) ?_
                          refine WL.lit tab_ok rfl rfl rfl (all1c rfl all1n) rfl (by omega) (fun g8 w24 hB12 hg17 hl9 => ?_)
                          have hO13 : Own vs w24 w.heap.size 9 (some ⟨g8, 0, none⟩) 1 ([([] : List UInt8)] : List (List UInt8)) := Own.ofBl hB12 (Nat.le_trans (size_le gr20) hl9) (by simp [maxLen]) rfl
                          have gr21 := gr_trans gr20 hg17
                          have k64 := hB11.g0 hg17
                          have k65 := k62.grown hg17
                          have k66 := k63.g0 hg17
                          have k67 := hM3.g0 hg17
                          obtain ⟨hO14, k68, dj50⟩ := DeepO.open k66 (iltN h23 hn_since)
                          have dj51 := DeepO.at (Q := Dj (some g_t330)) k66 (iltN h23 hn_since) dj6
                          have dj52 := FPd.sub (j := k.toNat) (Q := Dj (some g_t330)) dj6
                          have dj53 := DeepO.at (Q := Dj (blk (some ⟨g1, 0, none⟩))) k66 (iltN h23 hn_since) dj8
                          have dj54 := FPd.sub (j := k.toNat) (Q := Dj (blk (some ⟨g1, 0, none⟩))) dj8
                          have dj55 := DeepO.at (Q := fun p => AllP (Dj p) (FP g_t330_files hs_t330_3 none)) k66 (iltN h23 hn_since) (apSym (DeepO.inpA k24 hi9 (apC dj6 dj10)))
                          have dj56 := FPd.sub (j := k.toNat) (Q := fun p => AllP (Dj p) (FP g_t330_files hs_t330_3 none)) (apSym (DeepO.inpA k24 hi9 (apC dj6 dj10)))
                          have dj57 := DeepO.at (Q := Dj (blk (some ⟨g8, 0, none⟩))) k66 (iltN h23 hn_since) (k63.new (Ge.box hl9))
                          have dj58 := FPd.sub (j := k.toNat) (Q := Dj (blk (some ⟨g8, 0, none⟩))) (k63.new (Ge.box hl9))
                          obtain ⟨h24, H⟩ := H
                          refine WL.append tab_ok rfl rfl One.s hO14 rfl rfl hO13.rd rfl rfl h24 (applen h24) (size_le gr21) (fun A_t160 c_t160 w25 hO15 hg18 hk3 => ?_)
                          have gr22 := gr_mod gr21 hg18 hO14.ge'
                          have k69 := k64.go hg18 dj51
                          have k70 := k65.go hg18 dj53
                          have k71 := k68.go hg18 dj50
                          have k72 := k67.go hg18 dj55
                          obtain ⟨h25, H⟩ := H
                          refine WL.y rfl (Yld.iaddrW tab_ok k71.out.rd rfl rfl (hn_since.trans k71.zl.symm) rfl h25.1 h25.2) ?_
                          have dj59 := FPd.closeA (A' := A_t160) (c' := c_t160) (Q := Dj (some g_t330)) dj52 (Dj.app dj51.symm k64.lt' hk3).symm
                          have dj60 := FPd.closeA (A' := A_t160) (c' := c_t160) (Q := Dj (blk (some ⟨g1, 0, none⟩))) dj54 (Dj.app dj53.symm k65.lt' hk3).symm
                          have dj61 := FPd.closeA (A' := A_t160) (c' := c_t160) (Q := fun p => AllP (Dj p) (FP g_t330_files hs_t330_3 none)) dj56 (PoolO.app k67 dj55 hk3)
                          refine WL.dstore (ys := ((since.getD k.toNat []) ++ ([([] : List UInt8)] : List (List UInt8)))) one22 k71 rfl rfl rfl (iltN h25 hn_since) hO15 (DeepO.app k68 dj50 hk3) (fun w26 hD3 hg19 => ?_)
                          have gr23 := gr_mod gr22 hg19 (apH (k71.ge'))
                          have k73 := k69.go hg19 (apH dj52)
                          have k74 := k70.go hg19 (apH dj54)
                          have k75 := k72.go hg19 (apH dj56)
                          refine WL.nil (WX.block_normal (WX.block_normal ?_))
                          exact WX.weaken (by repeat (first | exact Sub.nil | refine Sub.cons rfl ?_)) (hQ _ _ ⟨t330_9, hs_t330_3, t330_10, t330_11, t330_12, hs.set k.toNat (A_t160, c_t160), since.set k.toNat ((since.getD k.toNat []) ++ ([([] : List UInt8)] : List (List UInt8))), rfl, H, (hn_since.trans List.length_set.symm), gr23, k73, k74, hD3, k75, dj5, dj59, dj49, dj60, (InA.dj hi9 k23.lt' (apC dj5.symm dj9)), (apSym dj61), (hD3.ge'), (InA.toGe hi9 (apC (Ge.le hge2 (size_le gr1)) hi2) (size_le gr9))⟩)
                        · replace H := H.2 (of_decide_eq_false b9)
                          refine WC.seq ?_
                          refine WC.region ?_
                          refine WL.y rfl (Yld.pure tab_ok rfl) ?_
                          refine WL.y rfl (Yld.pure tab_ok rfl) ?_
                          refine WL.y rfl (Yld.pure tab_ok rfl) ?_
                          obtain ⟨h26, H⟩ := H
                          refine WL.y rfl (Yld.iaddrW tab_ok k23.rd rfl rfl rfl rfl h26.1 h26.2) ?_
                          refine WL.y rfl (Yld.iload [] tab_ok k23.rd rfl rfl (iltN h26 rfl)) ?_
                          refine WL.call rfl rfl (W_pdisk_Disk_Sync (GB.grown hG gr9) (size_le gr9) (apC (Ge.le hge2 (size_le gr1)) hi2) hS11 hS15 hS100 k25 k22 dj7 H) ?_
                          rintro v_t89 w27 ⟨hgl4, _, t89, hs_t330_4, t330_13, t330_14, t330_15, t330_16, rfl, ht89, hB13, hM4, hi10, dj62, H⟩
                          have gr24 := gr_modL gr9 hgl4 (apC (Ge.le hge2 (size_le gr1)) hi2)
                          have k76 := k23.goL hgl4 (apC dj5.symm dj9)
                          have k77 := k24.goL hgl4 (apC dj6 dj10)
                          refine WL.nil (WX.then_normal ?_)
                          refine WC.region ?_
                          refine WL.y rfl (Yld.pure tab_ok rfl) ?_
                          refine WL.y rfl (Yld.pure tab_ok rfl) ?_
                          refine WL.y rfl (Yld.pure tab_ok rfl) ?_
                          refine WL.lit tab_ok rfl rfl rfl (all1c rfl all1n) rfl (by omega) (fun g9 w28 hB14 hg20 hl10 => ?_)
                          have hO16 : Own vs w28 w.heap.size 9 (some ⟨g9, 0, none⟩) 1 ([(since.getD k.toNat []).getD ((((since.getD k.toNat []).length : Int) - (1 : Int)).toNat) []] : List (List UInt8)) := Own.ofBl hB14 (Nat.le_trans (size_le gr24) hl10) (by simp [maxLen]) rfl
                          have gr25 := gr_trans gr24 hg20
                          have k78 := hB13.g0 hg20
                          have k79 := k76.grown hg20
                          have k80 := k77.g0 hg20
                          have k81 := hM4.g0 hg20
                          obtain ⟨h27, H⟩ := H
                          refine WL.y rfl (Yld.iaddrW tab_ok k80.out.rd rfl rfl (hn_since.trans k80.zl.symm) rfl h27.1 h27.2) ?_
                          have dj63 := FPd.closeA (A' := (some ⟨g9, 0, none⟩)) (c' := 1) (Q := Dj (some g_t330)) (FPd.sub (j := k.toNat) (Q := Dj (some g_t330)) dj6) (Dj.new hB13.lt' (Ge.box hl10))
                          have dj64 := FPd.closeA (A' := (some ⟨g9, 0, none⟩)) (c' := 1) (Q := Dj (blk (some ⟨g1, 0, none⟩))) (FPd.sub (j := k.toNat) (Q := Dj (blk (some ⟨g1, 0, none⟩))) dj8) (Dj.new k76.lt' (Ge.box hl10))
                          have dj65 := FPd.closeA (A' := (some ⟨g9, 0, none⟩)) (c' := 1) (Q := fun p => AllP (Dj p) (FP g_t330_files hs_t330_4 none)) (FPd.sub (j := k.toNat) (Q := fun p => AllP (Dj p) (FP g_t330_files hs_t330_4 none)) (apSym (DeepO.inpA k24 hi10 (apC dj6 dj10)))) (hM4.new (Ge.box hl10))
                          refine WL.dstore (ys := ([(since.getD k.toNat []).getD ((((since.getD k.toNat []).length : Int) - (1 : Int)).toNat) []] : List (List UInt8))) one22 (DeepO.sub k80 k.toNat) rfl rfl rfl (iltN h27 hn_since) hO16 (FPd.sub (j := k.toNat) (Q := Dj (blk (some ⟨g9, 0, none⟩))) (k77.new (Ge.box hl10))) (fun w29 hD4 hg21 => ?_)
                          have gr26 := gr_mod gr25 hg21 (apH (k80.ge'))
                          have k82 := k78.go hg21 (apH dj6)
                          have k83 := k79.go hg21 (apH dj8)
                          have k84 := k81.go hg21 (apH (apSym (DeepO.inpA k24 hi10 (apC dj6 dj10))))
                          refine WL.nil (WX.block_normal (WX.block_normal ?_))
                          exact WX.weaken (by repeat (first | exact Sub.nil | refine Sub.cons rfl ?_)) (hQ _ _ ⟨t330_13, hs_t330_4, t330_14, t330_15, t330_16, hs.set k.toNat ((some ⟨g9, 0, none⟩), 1), since.set k.toNat ([(since.getD k.toNat []).getD ((((since.getD k.toNat []).length : Int) - (1 : Int)).toNat) []] : List (List UInt8)), rfl, H, (hn_since.trans List.length_set.symm), gr26, k82, k83, hD4, k84, dj5, dj63, dj62, dj64, (InA.dj hi10 k23.lt' (apC dj5.symm dj9)), (apSym dj65), (hD4.ge'), (InA.toGe hi10 (apC (Ge.le hge2 (size_le gr1)) hi2) (size_le gr9))⟩)
              · replace H := H.2 (of_decide_eq_false b4)
                refine WC.exit (WX.then_exit (WX.then_exit (WX.block_same (WX.then_normal ?_))))
                refine WC.seq ?_
                refine WC.region ?_
                refine WL.y rfl (Yld.pure tab_ok rfl) ?_
                refine WL.call rfl rfl (W_pdisk_Disk_Arm k25 k22 dj7 H) ?_
                rintro _ w30 ⟨hgl5, hs_t330_5, t330_17, t330_18, t330_19, t330_20, rfl, hB15, hM5, hi11, dj66, H⟩
                have gr27 := gr_modL gr9 hgl5 (apC (Ge.le hge2 (size_le gr1)) hi2)
                have k85 := k23.goL hgl5 (apC dj5.symm dj9)
                have k86 := k24.goL hgl5 (apC dj6 dj10)
                refine WL.nil (WX.then_normal ?_)
                refine WC.seq ?_
                refine WC.region ?_
                refine WL.y rfl (Yld.pure tab_ok rfl) ?_
                refine WL.call rfl rfl (W_pdisk_Disk_Sync (GB.grown hG gr27) (size_le gr27) (apC (Ge.le hge2 (size_le gr1)) (InA.toGe hi11 (apC (Ge.le hge2 (size_le gr1)) hi2) (size_le gr9))) hS11 hS15 hS100 hM5 hB15 dj66 H) ?_
                rintro v_t165 w31 ⟨hgl6, _, t165, hs_t330_6, t330_21, t330_22, t330_23, t330_24, rfl, ht165, hB16, hM6, hi12, dj67, H⟩
                have gr28 := gr_modL gr27 hgl6 (apC (Ge.le hge2 (size_le gr1)) (InA.toGe hi11 (apC (Ge.le hge2 (size_le gr1)) hi2) (size_le gr9)))
                have k87 := k85.goL hgl6 (apC dj5.symm (InA.dj hi11 k23.lt' (apC dj5.symm dj9)))
                have k88 := k86.goL hgl6 (apC dj6 (DeepO.inpA k24 hi11 (apC dj6 dj10)))
                refine WL.nil (WX.then_normal ?_)
                refine WC.seq ?_
                refine WC.region ?_
                refine WL.y rfl (Yld.pure tab_ok rfl) ?_
                refine WL.y rfl (Yld.pure tab_ok rfl) ?_
                refine WL.y rfl (Yld.pure tab_ok rfl) ?_
                refine WL.call rfl rfl (W_pdisk_Disk_Rise hM6 hB16 dj67 H) ?_
                rintro _ w32 ⟨hgl7, hs_t330_7, t330_25, t330_26, t330_27, t330_28, rfl, hB17, hM7, hi13, dj68, H⟩
                have gr29 := gr_modL gr28 hgl7 (apC (Ge.le hge2 (size_le gr1)) (InA.toGe hi12 (apC (Ge.le hge2 (size_le gr1)) (InA.toGe hi11 (apC (Ge.le hge2 (size_le gr1)) hi2) (size_le gr9))) (size_le gr27)))
                have k89 := k87.goL hgl7 (apC dj5.symm (InA.dj hi12 k85.lt' (apC dj5.symm (InA.dj hi11 k23.lt' (apC dj5.symm dj9)))))
                have k90 := k88.goL hgl7 (apC dj6 (DeepO.inpA k86 hi12 (apC dj6 (DeepO.inpA k24 hi11 (apC dj6 dj10)))))
                refine WL.nil (WX.then_normal ?_)
                refine WC.seq ?_
                refine WC.seq ?_
                refine WC.region ?_
                refine WL.y rfl (Yld.pure tab_ok rfl) ?_
                refine WL.nil (WX.then_normal ?_)
                refine WC.block ?_
                obtain ⟨I3, mu3, h0_3, HR3⟩ := H
                refine WC.loopF (fun n' L' w' => ∃ (k_2 : Int), ∃ (t33003 : List (List UInt8 × List UInt8 × Bool × List UInt8 × Bool × List (Int × List UInt8))), ∃ (hs_t33003 : List (List UInt8 × PH)), ∃ (t33013 : Int), ∃ (t33023 : Int), ∃ (t33033 : Bool), n' = mu3 k_2 t33003 t33013 t33023 t33033 ∧ L' = [(8, .pointer (some ⟨g_t330, 0, none⟩)), (10, .slice (some ⟨g1, 0, none⟩) 3 3), (11, .slice (some ⟨g6, 0, none⟩) 3 3), (17, .int .i64 k_2)] ∧ I3 k_2 t33003 t33013 t33023 t33033 ∧ w.grownBy w' none ∧ Bl w' g_t330 124 [.map (some g_t330_files), .int .i64 t33013, .int .i64 t33023, .bool t33033] ∧ Own vs w' w.heap.size 9 (some ⟨g1, 0, none⟩) 3 ([([97] : List UInt8), ([98] : List UInt8), ([99] : List UInt8)] : List (List UInt8)) ∧ DeepO vs w' w.heap.size 22 9 (some ⟨g6, 0, none⟩) 3 hs since none ∧ PoolO pe128 w' g_t330_files hs_t33003 t33003 none ∧ Dj (some g_t330) (blk (some ⟨g1, 0, none⟩)) ∧ AllP (Dj (some g_t330)) (FPd (some ⟨g6, 0, none⟩) hs none) ∧ AllP (Dj (some g_t330)) (FP g_t330_files hs_t33003 none) ∧ AllP (Dj (blk (some ⟨g1, 0, none⟩))) (FPd (some ⟨g6, 0, none⟩) hs none) ∧ AllP (Dj (blk (some ⟨g1, 0, none⟩))) (FP g_t330_files hs_t33003 none) ∧ AllP (fun p => AllP (Dj p) (FPd (some ⟨g6, 0, none⟩) hs none)) (FP g_t330_files hs_t33003 none) ∧ AllP (fun p => Ge p w.heap.size) (FPd (some ⟨g6, 0, none⟩) hs none) ∧ AllP (fun p => Ge p w.heap.size) (FP g_t330_files hs_t33003 none)) _ _ ⟨(0 : Int), t330_25, hs_t330_7, t330_26, t330_27, t330_28, rfl, rfl, h0_3, gr29, hB17, k89, k90, hM7, dj5, dj6, dj68, dj8, (InA.dj hi13 k87.lt' (apC dj5.symm (InA.dj hi12 k85.lt' (apC dj5.symm (InA.dj hi11 k23.lt' (apC dj5.symm dj9)))))), (DeepO.inpA k88 hi13 (apC dj6 (DeepO.inpA k86 hi12 (apC dj6 (DeepO.inpA k24 hi11 (apC dj6 dj10)))))), (k90.ge'), (InA.toGe hi13 (apC (Ge.le hge2 (size_le gr1)) (InA.toGe hi12 (apC (Ge.le hge2 (size_le gr1)) (InA.toGe hi11 (apC (Ge.le hge2 (size_le gr1)) hi2) (size_le gr9))) (size_le gr27))) (size_le gr28))⟩ (by repeat (first | exact Sub.nil | refine Sub.cons rfl ?_)) ?_
                clear h0_3
                rintro _ _ w33 ⟨k_2, t33003, hs_t33003, t33013, t33023, t33033, rfl, rfl, hI3, gr30, k91, k92, k93, k94, dj69, dj70, dj71, dj72, dj73, dj74, hi14, hi15⟩
                have H := HR3 k_2 t33003 t33013 t33023 t33033 hI3
                refine WC.seq ?_
                refine WC.seq ?_
                refine WC.region ?_
                refine WL.y rfl (Yld.pure tab_ok rfl) ?_
                refine WL.y rfl (Yld.pure tab_ok rfl) ?_
                refine WL.nil (WX.then_normal ?_)
                refine WC.cond rfl (fun b10 => ?_) (fun b10 => ?_)
                · replace H := H.1 (of_decide_eq_true b10)
                  refine WC.skip (WX.then_normal ?_)
                  refine WC.seq ?_
                  refine WC.block ?_
                  refine WC.seq ?_
                  refine WC.region ?_
                  refine WL.y rfl (Yld.pure tab_ok rfl) ?_
                  refine WL.y rfl (Yld.pure tab_ok rfl) ?_
                  refine WL.y rfl (Yld.pure tab_ok rfl) ?_
                  obtain ⟨h28, H⟩ := H
                  refine WL.y rfl (Yld.iaddrW tab_ok k92.rd rfl rfl rfl rfl h28.1 h28.2) ?_
                  refine WL.y rfl (Yld.iload [] tab_ok k92.rd rfl rfl (iltN h28 rfl)) ?_
                  refine WL.call rfl rfl (W_pdisk_Disk_Read (GB.grown hG gr30) (size_le gr30) (apC (Ge.le hge2 (size_le gr1)) hi15) hS15 k94 k91 dj71 H) ?_
                  rintro _ w34 ⟨hgl8, t1800, t1801, v_t1802, t1802, hs_t330_8, t330_29, t330_30, t330_31, t330_32, rfl, ht1802, hB18, hM8, hi16, dj75, H⟩
                  have gr31 := gr_modL gr30 hgl8 (apC (Ge.le hge2 (size_le gr1)) hi15)
                  have k95 := k92.goL hgl8 (apC dj69.symm dj73)
                  have k96 := k93.goL hgl8 (apC dj70 dj74)
                  refine WL.y rfl (Yld.pure tab_ok rfl) ?_
                  refine WL.y rfl (Yld.pure tab_ok rfl) ?_
                  refine WL.y rfl (Yld.pure tab_ok rfl) ?_
                  refine WL.y rfl (Yld.pure tab_ok rfl) ?_
                  refine WL.y rfl (Yld.pure tab_ok rfl) ?_
                  refine WL.y rfl (Yld.pure tab_ok rfl) ?_
                  refine WL.y rfl (Yld.pure tab_ok rfl) ?_
                  refine WL.nil (WX.then_normal ?_)
                  refine WC.seq ?_
                  refine WC.region ?_
                  refine WL.y rfl (Yld.pure tab_ok rfl) ?_
                  refine WL.y rfl (Yld.errneq Tryd.underlying29 ht1802 rfl) ?_
                  refine WL.y rfl (Yld.pure tab_ok rfl) ?_
                  obtain ⟨J2, H, hJ2⟩ := H
                  refine WL.midF 8 (fun L' w' => ∃ q4 : Bool, L' = [(194, .bool q4), (8, .pointer (some ⟨g_t330, 0, none⟩)), (10, .slice (some ⟨g1, 0, none⟩) 3 3), (11, .slice (some ⟨g6, 0, none⟩) 3 3), (17, .int .i64 k_2)] ∧ J2 q4 ∧ w34 = w') ?_ (fun hQ => ?_)
                  · clear H
                    rintro _ _ ⟨q4, rfl, H, rfl⟩
                    replace H := hJ2 q4 H
                    refine WL.nil (WX.then_normal ?_)
                    refine WC.cond rfl (fun b11 => ?_) (fun b11 => ?_)
                    · replace H := H.1 (b11)
                      refine WC.seq ?_
                      refine WC.region ?_
                      refine WL.y rfl (Yld.pure tab_ok rfl) ?_
                      refine WL.nil (WX.then_normal ?_)
                      refine WC.ret (WX.block_ret (WX.then_ret (WX.then_ret (WX.block_ret (WX.then_ret ?_)))))
                      exact WX.ret1 rfl rfl ⟨gr31, false, rfl, H⟩
                    · replace H := H.2 (b11)
                      refine WC.skip (WX.block_normal (WX.then_normal ?_))
                      refine WC.region ?_
                      refine WL.y rfl (Yld.pure tab_ok rfl) ?_
                      obtain ⟨h29, H⟩ := H
                      refine WL.y rfl (Yld.add rfl rfl h29) ?_
                      refine WL.y rfl (Yld.pure tab_ok rfl) ?_
                      refine WL.nil ?_
                      exact WX.roundF _ ⟨k_2 + (1 : Int), t330_29, hs_t330_8, t330_30, t330_31, t330_32, rfl, rfl, H.1, gr31, hB18, k95, k96, hM8, dj69, dj70, dj75, dj72, (InA.dj hi16 k92.lt' (apC dj69.symm dj73)), (DeepO.inpA k93 hi16 (apC dj70 dj74)), (k96.ge'), (InA.toGe hi16 (apC (Ge.le hge2 (size_le gr1)) hi15) (size_le gr30))⟩ (by repeat (first | exact Sub.nil | refine Sub.cons rfl ?_)) H.2
                  · clear hJ2
                    rcases Bool.eq_false_or_eq_true (!decide (t1802 = Er.ok)) with b12 | b12
                    · replace H := H.1 b12
                      refine WL.gno rfl rfl (okb b12) rfl ?_
                      refine WL.gno rfl rfl (okb b12) rfl ?_
                      refine WL.gno rfl rfl (okb b12) rfl ?_
                      refine WL.gno rfl rfl (okb b12) rfl ?_
                      refine WL.gno rfl rfl (okb b12) rfl ?_
                      refine WL.gno rfl rfl (okb b12) rfl ?_
                      refine WL.gno rfl rfl (okb b12) rfl ?_
                      refine WL.y rfl (Yld.pickT (okb b12) rfl) ?_
                      exact WL.weaken (by repeat (first | exact Sub.nil | refine Sub.cons rfl ?_)) (hQ _ _ ⟨true, rfl, H, rfl⟩)
                    · replace H := H.2 b12
                      refine WL.gyes rfl rfl (okb b12) rfl (Yld.pure tab_ok rfl) ?_
                      refine WL.gyes rfl rfl (okb b12) rfl (Yld.pure tab_ok rfl) ?_
                      obtain ⟨h30, H⟩ := H
                      refine WL.gyes rfl rfl (okb b12) rfl (Yld.iaddrW tab_ok k96.out.rd rfl rfl (hn_since.trans k96.zl.symm) rfl h30.1 h30.2) ?_
                      refine WL.gyes rfl rfl (okb b12) rfl (Yld.dload tab_ok k96 rfl rfl (iltN h30 hn_since)) ?_
                      refine WL.gyes rfl rfl (okb b12) rfl (Yld.pure tab_ok rfl) ?_
                      refine WL.callw (wants_some rfl rfl (okb b12)) rfl rfl (W_smithyref_AmongTexts (DeepO.rd k96 (iltN h30 hn_since)) rfl H) ?_
                      rintro _ _ ⟨rfl, t192, rfl, H⟩
                      refine WL.gyes rfl rfl (okb b12) rfl (Yld.pure tab_ok rfl) ?_
                      refine WL.y rfl (Yld.pickF (okb b12) rfl) ?_
                      exact WL.weaken (by repeat (first | exact Sub.nil | refine Sub.cons rfl ?_)) (hQ _ _ ⟨decide (t192 < (0 : Int)), rfl, H, rfl⟩)
                · replace H := H.2 (of_decide_eq_false b10)
                  refine WC.exit (WX.then_exit (WX.then_exit (WX.block_same (WX.then_normal ?_))))
                  refine WC.seq ?_
                  refine WC.region ?_
                  refine WL.y rfl (Yld.pure tab_ok rfl) ?_
                  refine WL.call rfl rfl (W_pdisk_Disk_Down k94 k91 H) ?_
                  rintro _ _ ⟨rfl, t196, rfl, H⟩
                  refine WL.y rfl (Yld.pure tab_ok rfl) ?_
                  refine WL.y rfl (Yld.pure tab_ok rfl) ?_
                  refine WL.nil (WX.then_normal ?_)
                  refine WC.ret ?_
                  exact WX.ret1 rfl rfl ⟨gr30, !t196, rfl, H⟩
          · clear H
            refine WL.gyes rfl rfl (rfl) rfl (Yld.pure tab_ok rfl) ?_
            refine WL.gyes rfl rfl (rfl) rfl (Yld.errneq Tryd.underlying29 ht3312 rfl) ?_
            refine WL.y rfl (Yld.pickF (rfl) rfl) ?_
            exact WL.weaken (by repeat (first | exact Sub.nil | refine Sub.cons rfl ?_)) (hQ _ _ ⟨!decide (t3312 = Er.ok), rfl, rfl, rfl⟩)
    · clear H
      rcases Bool.eq_false_or_eq_true (decide ((40 : Int) < (l.length : Int))) with b13 | b13
      · refine WL.gno rfl rfl (okb b13) rfl ?_
        refine WL.gno rfl rfl (okb b13) rfl ?_
        refine WL.y rfl (Yld.pickT (okb b13) rfl) ?_
        exact WL.weaken (by repeat (first | exact Sub.nil | refine Sub.cons rfl ?_)) (hQ _ _ ⟨true, rfl, by rw [b13] <;> rfl, rfl⟩)
      · refine WL.gyes rfl rfl (okb b13) rfl (Yld.pure tab_ok rfl) ?_
        refine WL.gyes rfl rfl (okb b13) rfl (Yld.pure tab_ok rfl) ?_
        refine WL.y rfl (Yld.pickF (okb b13) rfl) ?_
        exact WL.weaken (by repeat (first | exact Sub.nil | refine Sub.cons rfl ?_)) (hQ _ _ ⟨!ok, rfl, by rw [b13] <;> rfl, rfl⟩)

end Go.Proofs.YtlonpmajnglmoaaDoor

 /- DiskKeeps, plainly. -/
namespace Go.Proofs.YtlonpmajnglmoaaDoor
open Go Go.RowKit
def txt (p : List UInt8 × Bool) : List UInt8 := if p.2 = true then p.1 else []
/-- all changes, one behind the other -/
def runP : List (Int × List UInt8) → List UInt8 → Bool → List UInt8 × Bool
  | [], t, b => (t, b)
  | c :: l, t, _ => runP l (appC c t).1 (appC c t).2
theorem runP_snoc (c : Int × List UInt8) : ∀ (l : List (Int × List UInt8)) (t : List UInt8) (b : Bool), runP (l ++ [c]) t b = appC c (runP l t b).1
  | [], t, b => rfl
  | c0 :: l, t, b => runP_snoc c l _ _
theorem riseP_snoc (cut : Int) (c : Int × List UInt8) : ∀ (l : List (Int × List UInt8)) (m : Nat) (t : List UInt8) (b : Bool), riseP cut m (l ++ [c]) t b = riseP cut m l t b ∨ riseP cut m (l ++ [c]) t b = runP l t b ∨ riseP cut m (l ++ [c]) t b = appC c (runP l t b).1 ∨ (c.1 = 1 ∧ 0 < cutN c cut ∧ riseP cut m (l ++ [c]) t b = ((runP l t b).1 ++ c.2.take (cutN c cut).toNat, true))
  | [], 0, t, b => by
    show (if c.1 = 1 ∧ 0 < cutN c cut then (t ++ c.2.take (cutN c cut).toNat, true) else (t, b)) = _ ∨ _
    by_cases h : c.1 = 1 ∧ 0 < cutN c cut
    · refine .inr (.inr (.inr ⟨h.1, h.2, ?_⟩))
      show (if c.1 = 1 ∧ 0 < cutN c cut then (t ++ c.2.take (cutN c cut).toNat, true) else (t, b)) = _
      rw [if_pos h]; rfl
    · rw [if_neg h]; exact .inl rfl
  | [], m + 1, t, b => by
    refine .inr (.inr (.inl ?_))
    show riseP cut m [] (appC c t).1 (appC c t).2 = _
    cases m <;> rfl
  | c0 :: l, 0, t, b => .inl rfl
  | c0 :: l, m + 1, t, b => riseP_snoc cut c l m _ _
def nms3 : List (List UInt8) := [[97], [98], [99]]
def nmK (k : Nat) : List UInt8 := nms3.getD k []
theorem nmK_inj {j k : Nat} (hj : j < 3) (hk : k < 3) (h : nmK j = nmK k) : j = k := by
  have : ∀ j, j < 3 → ∀ k, k < 3 → nmK j = nmK k → j = k := by decide
  exact this j hj k hk h
theorem nmK_valid {k : Nat} (hk : k < 3) : validB (nmK k) = true ∧ (nmK k).length ≤ 3 := by
  match k, hk with
  | 0, _ => exact ⟨by decide +kernel, by decide⟩
  | 1, _ => exact ⟨by decide +kernel, by decide⟩
  | 2, _ => exact ⟨by decide +kernel, by decide⟩
structure KF (x : Fil) (L : List (List UInt8)) (n : Nat) : Prop where
  run : runP x.2.2.2.2 x.2.2.1 x.2.2.2.1 = (x.1, x.2.1)
  zero : x.2.1 = false → x.1 = []
  poss : ∀ cut m, txt (riseP cut m x.2.2.2.2 x.2.2.1 x.2.2.2.1) ∈ L
  cur : x.1 ∈ L
  last : L.getD (L.length - 1) [] = x.1
  tl : x.1.length ≤ 51 * n
  sy : x.2.2.1.length ≤ 51 * n
  cl : x.2.2.2.2.length ≤ n
  ct : ∀ c ∈ x.2.2.2.2, c.2.length ≤ 51
  ll : L.length ≤ 51 * n + 1
theorem KF.mono {x : Fil} {L : List (List UInt8)} {n : Nat} (h : KF x L n) : KF x L (n + 1) :=
  ⟨h.run, h.zero, h.poss, h.cur, h.last, by have := h.tl; omega, by have := h.sy; omega, by have := h.cl; omega, h.ct, by have := h.ll; omega⟩
theorem KF.txt_cur {x : Fil} {L : List (List UInt8)} {n : Nat} (h : KF x L n) : txt (x.1, x.2.1) = x.1 := by
  unfold txt
  cases hb : x.2.1 with
  | true => simp
  | false => simp [h.zero hb]
theorem KF.snoc {x : Fil} {L L' : List (List UInt8)} {n : Nat} (h : KF x L n) (c : Int × List UInt8) (hsub : ∀ y ∈ L, y ∈ L') (hc : c.2.length ≤ 51) (h0 : (appC c x.1).2 = false → (appC c x.1).1 = []) (h1 : (appC c x.1).1 ∈ L') (hp : c.1 = 1 → ∀ m, 0 < m → m ≤ c.2.length → x.1 ++ c.2.take m ∈ L') (hl : L'.getD (L'.length - 1) [] = (appC c x.1).1) (ht : (appC c x.1).1.length ≤ 51 * (n + 1)) (hll : L'.length ≤ 51 * (n + 1) + 1) : KF ((appC c x.1).1, (appC c x.1).2, x.2.2.1, x.2.2.2.1, x.2.2.2.2 ++ [c]) L' (n + 1) := by
  have hcl := h.cl
  have hsy := h.sy
  refine ⟨?_, h0, fun cut m => ?_, h1, hl, ht, by dsimp only; omega, by simp; omega, fun d hd => ?_, hll⟩
  · show runP (x.2.2.2.2 ++ [c]) x.2.2.1 x.2.2.2.1 = _
    rw [runP_snoc, h.run]
  · show txt (riseP cut m (x.2.2.2.2 ++ [c]) x.2.2.1 x.2.2.2.1) ∈ L'
    rcases riseP_snoc cut c x.2.2.2.2 m x.2.2.1 x.2.2.2.1 with e | e | e | ⟨e1, e2, e⟩
    · rw [e]; exact hsub _ (h.poss cut m)
    · rw [e, h.run, h.txt_cur]; exact hsub _ h.cur
    · rw [e, h.run]
      have : txt (appC c x.1) = (appC c x.1).1 := by
        unfold txt
        cases hb : (appC c x.1).2 with
        | true => simp
        | false => simp [h0 hb]
      rw [this]; exact h1
    · rw [e, h.run]
      have hcn : cutN c cut ≤ (c.2.length : Int) - 1 := by unfold cutN; split <;> omega
      exact hp e1 (cutN c cut).toNat (by omega) (by omega)
  · rcases List.mem_append.1 hd with hd | hd
    · exact h.ct d hd
    · rw [List.mem_singleton.1 hd]; exact hc
theorem getD_last {L : List (List UInt8)} {y : List UInt8} : (L ++ [y]).getD ((L ++ [y]).length - 1) [] = y := by simp [List.getD]
theorem KF.sync {x : Fil} {L : List (List UInt8)} {n : Nat} (h : KF x L n) : KF (x.1, x.2.1, x.1, x.2.1, []) [x.1] (n + 1) := by
  have htl := h.tl
  refine ⟨rfl, h.zero, fun cut m => ?_, by simp, rfl, by dsimp only; omega, by dsimp only; omega, by simp, by simp, by simp⟩
  have : riseP cut m ([] : List (Int × List UInt8)) x.1 x.2.1 = (x.1, x.2.1) := by cases m <;> rfl
  show txt (riseP cut m [] x.1 x.2.1) ∈ _
  rw [this, h.txt_cur]; simp
structure KI (fs : DF) (since : List (List (List UInt8))) (n : Nat) : Prop where
  uq : Uq fs
  len : fs.length ≤ n
  keys : ∀ p ∈ fs, ∃ k, k < 3 ∧ p.1 = nmK k
  sl : since.length = 3
  at_ : ∀ k, k < 3 → KF (fil fs (nmK k)) (since.getD k []) n
theorem KI.put {fs : DF} {since : List (List (List UInt8))} {n k : Nat} {x : Fil} {L : List (List UInt8)} (h : KI fs since n) (hk : k < 3) (hx : KF x L (n + 1)) : KI (mput fs (nmK k) x) (since.set k L) (n + 1) := by
  have hsl := h.sl
  refine ⟨h.uq.put _ _, ?_, fun p hp => ?_, by rw [List.length_set, hsl], fun j hj => ?_⟩
  · rw [mput_len]; have := h.len; split <;> omega
  · rcases mput_mem hp with rfl | hp
    · exact ⟨k, hk, rfl⟩
    · exact h.keys p hp
  · rw [fil_put, getD_setF (by omega)]
    by_cases e : k = j
    · subst e; rw [if_pos rfl, if_pos rfl]; exact hx
    · rw [if_neg (fun e2 => e (nmK_inj hk hj e2)), if_neg e]; exact (h.at_ j hj).mono
theorem KI.stay {fs : DF} {since : List (List (List UInt8))} {n k : Nat} {L : List (List UInt8)} (h : KI fs since n) (hk : k < 3) (hx : KF (fil fs (nmK k)) L (n + 1)) : KI fs (since.set k L) (n + 1) := by
  have hsl := h.sl
  refine ⟨h.uq, by have := h.len; omega, h.keys, by rw [List.length_set, hsl], fun j hj => ?_⟩
  rw [getD_setF (by omega)]
  by_cases e : k = j
  · subst e; rw [if_pos rfl]; exact hx
  · rw [if_neg e]; exact (h.at_ j hj).mono
theorem riseAll_other (cut : Int) {q : List UInt8} : ∀ (ks : List (List UInt8)) (keep : Int) (fs : DF), q ∉ ks → fil (riseAll cut ks keep fs) q = fil fs q
  | [], _, _, _ => rfl
  | k :: ks, keep, fs, h => by
    have h1 : q ≠ k := fun e => h (by rw [e]; exact List.mem_cons_self)
    have h2 : q ∉ ks := fun e => h (List.mem_cons_of_mem _ e)
    rw [riseAll_cons]
    split
    · rw [riseAll_other cut ks _ _ h2, fil_put, if_neg (fun e => h1 e.symm)]
    · rw [riseAll_other cut ks _ _ h2, fil_put, if_neg (fun e => h1 e.symm)]
theorem dtext_txt (fs : DF) (q : List UInt8) : dtext fs q = txt ((fil fs q).1, (fil fs q).2.1) := rfl
theorem riseAll_at (cut : Int) {q : List UInt8} : ∀ (ks : List (List UInt8)) (keep : Int) (fs : DF), ks.Nodup → dtext (riseAll cut ks keep fs) q = txt ((fil fs q).1, (fil fs q).2.1) ∨ ∃ m, dtext (riseAll cut ks keep fs) q = txt (riseP cut m (fil fs q).2.2.2.2 (fil fs q).2.2.1 (fil fs q).2.2.2.1)
  | [], _, _, _ => .inl rfl
  | k :: ks, keep, fs, h => by
    obtain ⟨h1, h2⟩ := List.nodup_cons.1 h
    rw [riseAll_cons]
    by_cases e : k = q
    · subst e
      split
      · left
        rw [dtext_txt, riseAll_other cut ks _ _ h1, fil_put, if_pos rfl]
      · right
        refine ⟨(keep % 4).toNat, ?_⟩
        rw [dtext_txt, riseAll_other cut ks _ _ h1, fil_put, if_pos rfl]
    · have hf : ∀ x, fil (mput fs k x) q = fil fs q := fun x => by rw [fil_put, if_neg e]
      split
      · have := riseAll_at cut (q := q) ks keep (mput fs k ((fil fs k).1, (fil fs k).2.1, (fil fs k).1, (fil fs k).2.1, [])) h2
        rw [hf] at this
        exact this
      · have := riseAll_at cut (q := q) ks (keep / 4) (mput fs k ((riseP cut (keep % 4).toNat (fil fs k).2.2.2.2 (fil fs k).2.2.1 (fil fs k).2.2.2.1).1, (riseP cut (keep % 4).toNat (fil fs k).2.2.2.2 (fil fs k).2.2.1 (fil fs k).2.2.2.1).2, (riseP cut (keep % 4).toNat (fil fs k).2.2.2.2 (fil fs k).2.2.1 (fil fs k).2.2.2.1).1, (riseP cut (keep % 4).toNat (fil fs k).2.2.2.2 (fil fs k).2.2.1 (fil fs k).2.2.2.1).2, [])) h2
        rw [hf] at this
        exact this
/-- what is laid behind, piece by piece -/
def addL (t s : List UInt8) (n : Nat) : List (List UInt8) := (List.range n).map fun j => t ++ s.take (j + 1)
theorem addL_succ (t s : List UInt8) (n : Nat) : addL t s (n + 1) = addL t s n ++ [t ++ s.take (n + 1)] := by
  unfold addL; rw [List.range_succ, List.map_append]; rfl
theorem KF.add {x : Fil} {L : List (List UInt8)} {n : Nat} {s : List UInt8} (h : KF x L n) (hs : s.length ≤ 50) : KF (x.1 ++ s, true, x.2.2.1, x.2.2.2.1, x.2.2.2.2 ++ [(1, s)]) (L ++ addL x.1 s s.length) (n + 1) := by
  have htl := h.tl
  have hll := h.ll
  have hmem : ∀ m, 0 < m → m ≤ s.length → x.1 ++ s.take m ∈ L ++ addL x.1 s s.length := fun m h0 h1 => List.mem_append_right _ (List.mem_map.2 ⟨m - 1, List.mem_range.2 (by omega), by rw [show m - 1 + 1 = m by omega]⟩)
  have hal : (addL x.1 s s.length).length = s.length := by unfold addL; rw [List.length_map, List.length_range]
  have hne : s ≠ [] → ∃ L0, L ++ addL x.1 s s.length = L0 ++ [x.1 ++ s] := fun hne => by
    have hpos := List.length_pos_iff.2 hne
    refine ⟨L ++ addL x.1 s (s.length - 1), ?_⟩
    have e := addL_succ x.1 s (s.length - 1)
    rw [show s.length - 1 + 1 = s.length by omega, List.take_of_length_le (Nat.le_refl _)] at e
    rw [e, List.append_assoc]
  have hnil : s = [] → L ++ addL x.1 s s.length = L ∧ x.1 ++ s = x.1 := fun e => by subst e; simp [addL]
  refine h.snoc (1, s) (fun y hy => List.mem_append_left _ hy) (by dsimp only; omega) (fun e => (by cases e)) ?_ (fun _ => hmem) ?_ (by show (x.1 ++ s).length ≤ _; rw [List.length_append]; omega) (by rw [List.length_append, hal]; omega)
  · show x.1 ++ s ∈ _
    by_cases e : s = []
    · rw [(hnil e).1, (hnil e).2]; exact h.cur
    · obtain ⟨L0, e0⟩ := hne e
      rw [e0]; simp
  · show _ = x.1 ++ s
    by_cases e : s = []
    · rw [(hnil e).1, (hnil e).2]; exact h.last
    · obtain ⟨L0, e0⟩ := hne e
      rw [e0]; exact getD_last
theorem keeps_ok {l : List (Int × Int × Int × List UInt8 × List UInt8)} {keep cut : Int} {K : Bool → Prop} (hin : ∀ x ∈ l, In .i64 (x.1) ∧ In .i64 (x.2.1) ∧ In .i64 (x.2.2.1) ∧ (x.2.2.2.1).length ≤ maxLen ∧ (x.2.2.2.2).length ≤ maxLen) (hke : In .i64 keep) (_ : In .i64 cut) (H : K true) : M_smithylaw3_DiskKeeps l keep cut K := by
  intro _
  refine dfirst_M ⟨fun h => by simp at h, fun _ => ⟨fun _ => H, fun h40 => ?_⟩⟩
  have hl40 : l.length ≤ 40 := by
    rw [Bool.or_eq_false_iff, decide_eq_false_iff_not] at h40; omega
  refine new0_M ⟨fun h => absurd rfl h, fun _ => ?_⟩
  refine ⟨fun i fs ops left down since => 0 ≤ i ∧ i ≤ l.length ∧ i = ops ∧ left = 0 ∧ down = false ∧ KI fs since i.toNat, fun i _ _ _ _ _ => l.length - i.toNat, ⟨by omega, by omega, rfl, rfl, rfl, ?_⟩, fun i fs ops left down since ⟨a0, a1, a2, a3, a4, a5⟩ _ => ⟨fun hlt => ?_, fun hge => ?_⟩⟩
  · refine ⟨List.nodup_nil, by simp, by simp, rfl, fun k hk => ?_⟩
    have hf : fil ([] : DF) (nmK k) = fz := rfl
    have hL : ([([([] : List UInt8)] : List (List UInt8)), ([([] : List UInt8)] : List (List UInt8)), ([([] : List UInt8)] : List (List UInt8))] : List (List (List UInt8))).getD k [] = [[]] := by
      match k, hk with
      | 0, _ => rfl
      | 1, _ => rfl
      | 2, _ => rfl
    rw [hf, hL]
    refine ⟨rfl, fun _ => rfl, fun cut m => ?_, by simp [fz], rfl, by simp [fz], by simp [fz], by simp [fz], by simp [fz], by simp⟩
    have : riseP cut m ([] : List (Int × List UInt8)) [] false = ([], false) := by cases m <;> rfl
    show txt (riseP cut m [] [] false) ∈ _
    rw [this]; simp [txt]
  · subst a2; subst a3; subst a4
    have hi : i.toNat < l.length := by omega
    have e : l.getD i.toNat (0, 0, 0, [], []) = l[i.toNat] := by simp [List.getD, hi]
    have hn := (hin _ (List.getElem_mem hi)).2.1
    rw [e]
    generalize l[i.toNat] = x at hn ⊢
    refine ⟨fun fs' ops' left' down' xs => ops' = i + 1 ∧ left' = 0 ∧ down' = false ∧ KI fs' xs (i.toNat + 1), ⟨⟨a0, hlt⟩, numR_M hn (by omega) (by omega) fun k k0 k1 => ⟨⟨a0, hlt⟩, fun _ => H, fun h50 => ?_⟩⟩, fun fs' ops' left' down' xs ⟨c0, c1, c2, c3⟩ _ => ⟨by simp only [In]; omega, ⟨by omega, by omega, c0.symm, c1, c2, by rw [show (i + 1).toNat = i.toNat + 1 by omega]; exact c3⟩, by (try dsimp only); omega⟩⟩
    have hk : k.toNat < 3 := by omega
    have hk3 : 0 ≤ k ∧ k < (3 : Nat) := ⟨k0, by omega⟩
    have hnm : ([([97] : List UInt8), ([98] : List UInt8), ([99] : List UInt8)] : List (List UInt8)).getD k.toNat [] = nmK k.toNat := rfl
    obtain ⟨hva, hln⟩ := nmK_valid hk
    have hF := a5.at_ _ hk
    have hfl := a5.len
    have hsl := a5.sl
    rw [hnm]
    generalize hs : x.2.2.2.2 = s at h50 ⊢
    have hs50 : s.length ≤ 50 := by omega
    generalize hL : since.getD k.toNat [] = L at hF ⊢
    have htl := hF.tl
    have hcl := hF.cl
    have hll := hF.ll
    have hpos : 0 < L.length := List.length_pos_of_mem hF.cur
    have hlast : L.getD (((L.length : Int) - 1).toNat) [] = (fil fs (nmK k.toNat)).1 := by
      rw [show ((L.length : Int) - 1).toNat = L.length - 1 by omega]; exact hF.last
    rw [hlast]
    refine ⟨hk3, hk3, by simp only [In]; omega, ⟨by omega, by omega⟩, ⟨a0, hlt⟩, fun h1 => ⟨hk3, by simp only [List.length_singleton]; omega, ?_⟩, fun h1 => ⟨fun h2 => ⟨hk3, ?_⟩, fun h2 => ⟨fun h3 => ⟨hk3, ?_⟩, fun h3 => ⟨hk3, ?_⟩⟩⟩⟩
    · have hwl : (([119] : List UInt8) ++ s).length ≤ 51 := by rw [List.length_append, List.length_singleton]; omega
      refine put0_M (by omega) (by omega) (by omega) (by omega) (by omega) (by omega) (by omega) ?_
      rw [dlay_ok hva (by omega) (by rw [if_neg (by omega)]; omega), if_neg (by omega : ¬ ((0 : Int) = 1 ∧ thereB fs (nmK k.toNat) = true))]
      refine ⟨hk3, by simp only [List.length_singleton]; omega, by simp only [List.length_singleton]; omega, hk3, rfl, rfl, rfl, ?_⟩
      exact a5.put hk (hF.snoc (0, [119] ++ s) (fun y hy => List.mem_append_left _ hy) hwl (fun e => (by cases e)) (by simp [appC]) (fun e => (by cases e)) getD_last (by show (([119] : List UInt8) ++ s).length ≤ _; omega) (by simp; omega))
    · refine put0_M (by omega) (by omega) (by omega) (by omega) (by omega) (by omega) (by omega) ?_
      have hap : (if (1 : Int) = 1 ∧ thereB fs (nmK k.toNat) = true then (fil fs (nmK k.toNat)).1 ++ s else s) = (fil fs (nmK k.toNat)).1 ++ s := by
        by_cases hb : thereB fs (nmK k.toNat) = true
        · rw [if_pos ⟨rfl, hb⟩]
        · have hz : (fil fs (nmK k.toNat)).1 = [] := hF.zero (by unfold thereB at hb; simpa using hb)
          rw [if_neg (fun h => hb h.2), hz]; rfl
      rw [dlay_ok hva (by omega) (by rw [hap, List.length_append]; omega), hap]
      refine ⟨fun n since2 => 1 ≤ n ∧ n ≤ s.length + 1 ∧ since2 = since.set k.toNat (L ++ addL (fil fs (nmK k.toNat)).1 s (n - 1).toNat), fun n _ => (s.length + 1 - n).toNat, ⟨by omega, by omega, ?_⟩, fun n since2 ⟨b0, b1, b2⟩ _ => ⟨fun hle => ?_, fun hgt => ?_⟩⟩
      · have e0 : addL (fil fs (nmK k.toNat)).1 s ((1 : Int) - 1).toNat = [] := rfl
        rw [e0, List.append_nil, ← hL, set_same (by omega)]
      · have hg : since2.getD k.toNat [] = L ++ addL (fil fs (nmK k.toNat)).1 s (n - 1).toNat := by
          rw [b2, getD_setF (by omega), if_pos rfl]
        have hal : (addL (fil fs (nmK k.toNat)).1 s (n - 1).toNat).length = (n - 1).toNat := by unfold addL; rw [List.length_map, List.length_range]
        rw [hg]
        refine ⟨hk3, ⟨by omega, by omega⟩, by rw [List.length_take]; omega, by rw [List.length_append, hal, List.length_singleton]; omega, hk3, by simp only [In]; omega, ⟨by omega, by omega, ?_⟩, by (try dsimp only); omega⟩
        rw [b2, List.set_set, show (n + 1 - 1).toNat = (n - 1).toNat + 1 by omega, addL_succ, show (n - 1).toNat + 1 = n.toNat by omega, List.append_assoc]
      · have hn1 : (n - 1).toNat = s.length := by omega
        rw [hn1] at b2
        refine ⟨rfl, rfl, rfl, ?_⟩
        rw [b2]
        exact a5.put hk (hF.add hs50)
    · refine remove0_M (by omega) (by omega) (by omega) (by omega) ?_
      unfold dremove
      rw [if_neg (by rw [hva]; simp)]
      refine ⟨hk3, by simp only [List.length_singleton]; omega, hk3, rfl, rfl, rfl, ?_⟩
      have hR := hF.snoc (L' := L ++ [[]]) (2, []) (fun y hy => List.mem_append_left _ hy) (by simp) (fun _ => rfl) (by simp [appC]) (fun e => (by cases e)) getD_last (by simp [appC]) (by simp; omega)
      by_cases hb : thereB fs (nmK k.toNat) = true
      · rw [if_pos hb]
        exact a5.put hk hR
      · have hz : (fil fs (nmK k.toNat)).1 = [] := hF.zero (by unfold thereB at hb; simpa using hb)
        rw [if_neg hb]
        refine a5.stay hk ⟨hF.run, hF.zero, fun cut m => List.mem_append_left _ (hF.poss cut m), List.mem_append_left _ hF.cur, by rw [getD_last, hz], by omega, by have := hF.sy; omega, by omega, hF.ct, by simp; omega⟩
    · refine sync0_M (by omega) (by omega) (by omega) ?_
      unfold dsync
      rw [if_neg (by rw [hva]; simp)]
      refine ⟨hk3, rfl, rfl, rfl, ?_⟩
      split
      · exact a5.put hk hF.sync
      · rename_i hns
        have hz : fil fs (nmK k.toNat) = fz := by
          unfold fil
          cases hm : mget fs (nmK k.toNat) with
          | none => rfl
          | some y => rw [hm] at hns; simp at hns
        have hF' := hF.sync
        refine a5.stay hk ?_
        rw [hz] at hF' ⊢
        exact hF'
  · subst a2; subst a3; subst a4
    obtain rfl : i = l.length := by omega
    have hfl := a5.len
    show M_pdisk_Disk_Sync fs _ (if (1 : Int) < 0 then 0 else 1) false _ _
    rw [if_neg (by omega : ¬ (1 : Int) < 0)]
    refine sync_M (by simp) (by omega) (by omega) (by omega) fun o l' d => ⟨fun e he hne => ?_, fun he => ?_⟩
    · simp only [dcall, Bool.false_eq_true, if_false, Int.zero_lt_one, if_true, Prod.mk.injEq] at he
      obtain ⟨rfl, rfl, rfl, rfl⟩ := he
      have hnone : ∀ q, (∀ k, k < 3 → q ≠ nmK k) → fil fs q = fz := fun q hq => by
        unfold fil
        rw [mget_none.2 fun p hp e => ?_]
        · rfl
        · obtain ⟨k, hk, e2⟩ := a5.keys p hp
          exact hq k hk (by rw [← e, e2])
      refine rise_M (by omega) (fun p hp => ?_) hke (fun q => ?_) ?_
      · obtain ⟨k, hk, e⟩ := a5.keys p hp
        rw [e]
        have := (nmK_valid hk).2
        unfold maxLen; omega
      · by_cases hq : ∃ k, k < 3 ∧ q = nmK k
        · obtain ⟨k, hk, rfl⟩ := hq
          have hF := a5.at_ k hk
          have h1 := hF.sy
          have h2 := hF.cl
          exact ⟨by omega, by omega, fun c hc => by have := hF.ct c hc; omega⟩
        · rw [hnone q fun k hk e => hq ⟨k, hk, e⟩]
          exact ⟨by simp [fz], by simp [fz], by simp [fz]⟩
      · rw [if_pos rfl]
        have hnd : (sortB (fs.map (·.1))).Nodup := (sortB_perm _).nodup_iff.2 a5.uq
        have hin3 : ∀ k, k < 3 → dtext (riseAll (max0 cut) (sortB (fs.map (·.1))) (max0 keep) fs) (nmK k) ∈ since.getD k [] := fun k hk => by
          have hF := a5.at_ k hk
          rcases riseAll_at (max0 cut) (q := nmK k) (sortB (fs.map (·.1))) (max0 keep) fs hnd with e | ⟨m, e⟩
          · rw [e, hF.txt_cur]; exact hF.cur
          · rw [e]; exact hF.poss _ _
        generalize riseAll (max0 cut) (sortB (fs.map (·.1))) (max0 keep) fs = fs3 at hin3 ⊢
        refine ⟨fun k fs' ops' left' down' => 0 ≤ k ∧ k ≤ 3 ∧ fs' = fs3 ∧ 0 ≤ ops' ∧ ops' ≤ 100 + k ∧ left' = 0 ∧ down' = false, fun k _ _ _ _ => 3 - k.toNat, ⟨by omega, by omega, rfl, by omega, by omega, rfl, rfl⟩, fun k fs' ops' left' down' ⟨b0, b1, b2, b3, b4, b5, b6⟩ => ⟨fun hlt => ?_, fun hge => ?_⟩⟩
        · subst b2; subst b5; subst b6
          have hk : k.toNat < 3 := by omega
          have hk3 : 0 ≤ k ∧ k < (3 : Nat) := ⟨b0, by omega⟩
          have hnm : ([([97] : List UInt8), ([98] : List UInt8), ([99] : List UInt8)] : List (List UInt8)).getD k.toNat [] = nmK k.toNat := rfl
          have hln := (nmK_valid hk).2
          have hll := (a5.at_ _ hk).ll
          rw [hnm]
          refine ⟨hk3, dread0_M (by unfold maxLen; omega) (by omega) (by omega) ⟨fun b => b = false, ⟨fun h => by simp at h, fun _ => ⟨hk3, amongTexts_M (by omega) (fun hni => absurd (hin3 _ hk) hni) (fun j hj _ => decide_eq_false (by omega))⟩⟩, fun q hq => ⟨fun h => (by rw [hq] at h; cases h), fun _ => ⟨by simp only [In]; omega, ⟨by omega, by omega, rfl, by omega, by omega, rfl, rfl⟩, by (try dsimp only); omega⟩⟩⟩⟩
        · subst b6
          exact H
    · simp [dcall] at he
end Go.Proofs.YtlonpmajnglmoaaDoor


 