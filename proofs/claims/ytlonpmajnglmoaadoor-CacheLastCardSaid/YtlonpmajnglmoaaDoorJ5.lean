/- Texts of this claim, joined by a program: GCl, KeyB, KeyH, Sha11, PathA, PathB, PathC, Srt, Lin, See, DiskP, DiskQ, GDl, PathD, PathE, PathF, PathG, PathH, DiskL, DiskF, CacheP, CacheQ, CacheL. -/
import Derived.Test.YtlonpmajnglmoaaDoorJ4
import Derived.Lib.Replace
import Derived.Lib.Join
import Derived.Lib.SlicesCompact
import Derived.Sort.Walk0
import Derived.Lib.SplitLaws
import Derived.Lib.Strings
/- Printed by a program (wip/vg): what the functions mean, plainly, and their walks. -/
namespace Go.Proofs.YtlonpmajnglmoaaDoor
open Go Go.RowKit
attribute [local irreducible] WL WC WX WQ WK WJ Yld Eff Ef0 Fn
def M_smithylaw25_name (n : Int) (K : (List UInt8) → Prop) : Prop :=
 M_smithyworld_Number n (12 : Int) (fun (t4 : Int) =>
 M_smithyworld_Number n (12 : Int) (fun (t6 : Int) =>
 (In .i64 (t6 + (1 : Int))) ∧
 (0 ≤ t4 ∧ t4 ≤ t6 + (1 : Int) ∧ t6 + (1 : Int) ≤ ([97, 98, 99, 100, 101, 102, 103, 104, 105, 106, 107, 108] : List UInt8).length) ∧
 (([110] : List UInt8).length + ((([97, 98, 99, 100, 101, 102, 103, 104, 105, 106, 107, 108] : List UInt8).drop t4.toNat).take ((t6 + (1 : Int)).toNat - t4.toNat)).length ≤ 9223372036854775807) ∧
 K (([110] : List UInt8) ++ ((([97, 98, 99, 100, 101, 102, 103, 104, 105, 106, 107, 108] : List UInt8).drop t4.toNat).take ((t6 + (1 : Int)).toNat - t4.toNat)))))

def M_smithylaw25_first (K : Bool → Prop) : Prop :=
 M_disk_New [] (fun (t111 : Er) =>
 K false) (fun (t110_files : List (List UInt8 × List UInt8 × Bool × List UInt8 × Bool × List (Int × List UInt8))) (t110_ops : Int) (t110_left : Int) (t110_down : Bool) (t1112 : Er) =>
 ((¬ (t1112 = Er.ok) → K false) ∧
 (t1112 = Er.ok → M_cache_Open t110_files t110_ops t110_left t110_down ([106] : List UInt8) (fun (t221 : Er) (t110_ : List (List UInt8 × List UInt8 × Bool × List UInt8 × Bool × List (Int × List UInt8))) (t110_2 : Int) (t110_3 : Int) (t110_4 : Bool) =>
 K false) (fun (t220_p : List UInt8) (t220_l : List (List UInt8 × List UInt8)) (t2212 : Er) (t110_5 : List (List UInt8 × List UInt8 × Bool × List UInt8 × Bool × List (Int × List UInt8))) (t110_6 : Int) (t110_7 : Int) (t110_8 : Bool) =>
 ((¬ (t2212 = Er.ok) → K false) ∧
 (t2212 = Er.ok → M_key_Source ([97] : List UInt8) (fun (t32 : List UInt8) =>
 M_key_Source ([98] : List UInt8) (fun (t33 : List UInt8) =>
 M_pcache_Cache_Put t110_5 t110_6 t110_7 t110_8 t220_p t220_l t32 t33 (fun (a : Er) (t220_ : List UInt8) (t220_2 : List (List UInt8 × List UInt8)) (t110_9 : List (List UInt8 × List UInt8 × Bool × List UInt8 × Bool × List (Int × List UInt8))) (t110_10 : Int) (t110_11 : Int) (t110_12 : Bool) =>
 M_key_Source ([97] : List UInt8) (fun (t36 : List UInt8) =>
 M_key_Source ([98] : List UInt8) (fun (t37 : List UInt8) =>
 M_pcache_Cache_Put t110_9 t110_10 t110_11 t110_12 t220_ t220_2 t36 t37 (fun (b : Er) (t220_3 : List UInt8) (t220_4 : List (List UInt8 × List UInt8)) (t110_13 : List (List UInt8 × List UInt8 × Bool × List UInt8 × Bool × List (Int × List UInt8))) (t110_14 : Int) (t110_15 : Int) (t110_16 : Bool) =>
 M_pdisk_Disk_Read t110_13 t110_14 t110_15 t110_16 ([106] : List UInt8) (fun (t410 : List UInt8) (t411 : Bool) (t412 : Er) (t110_17 : List (List UInt8 × List UInt8 × Bool × List UInt8 × Bool × List (Int × List UInt8))) (t110_18 : Int) (t110_19 : Int) (t110_20 : Bool) =>
 ∃ J1 : Bool → Prop, ((((((((decide (a = Er.ok)) && (decide (b = Er.ok))) && t411) && (decide (t412 = Er.ok))) && (decide ((t410.length : Int) = (195 : Int)))) = true → M_pcache_Cache_Len t110_17 t110_18 t110_19 t110_20 t220_3 t220_4 (fun (t65 : Int) =>
 J1 (decide (t65 = (1 : Int))))) ∧
 ((((((decide (a = Er.ok)) && (decide (b = Er.ok))) && t411) && (decide (t412 = Er.ok))) && (decide ((t410.length : Int) = (195 : Int)))) = false → J1 false))) ∧
 (∀ q9 : Bool, J1 q9 → K q9))))))))))))))

def M_smithylaw25_CacheLast (l : List Int) (K : Bool → Prop) : Prop :=
 (l.length ≤ maxLen →
 M_smithylaw25_first (fun (ok : Bool) =>
 (((!ok) = true → K false) ∧
 ((!ok) = false → ((((decide ((30 : Int) < (l.length : Int))) || (!ok)) = true → K ok) ∧
 (((decide ((30 : Int) < (l.length : Int))) || (!ok)) = false → M_disk_New [] (fun (t381 : Er) =>
 K false) (fun (t380_files : List (List UInt8 × List UInt8 × Bool × List UInt8 × Bool × List (Int × List UInt8))) (t380_ops : Int) (t380_left : Int) (t380_down : Bool) (t3812 : Er) =>
 ((¬ (t3812 = Er.ok) → K false) ∧
 (t3812 = Er.ok → M_cache_Open t380_files t380_ops t380_left t380_down ([97, 47, 106] : List UInt8) (fun (t491 : Er) (t380_ : List (List UInt8 × List UInt8 × Bool × List UInt8 × Bool × List (Int × List UInt8))) (t380_2 : Int) (t380_3 : Int) (t380_4 : Bool) =>
 K false) (fun (t490_p : List UInt8) (t490_l : List (List UInt8 × List UInt8)) (t4912 : Er) (t380_5 : List (List UInt8 × List UInt8 × Bool × List UInt8 × Bool × List (Int × List UInt8))) (t380_6 : Int) (t380_7 : Int) (t380_8 : Bool) =>
 ((¬ (t4912 = Er.ok) → K false) ∧
 (t4912 = Er.ok → Lp2 (fun (k : Int) (last0 : List Int) kont1 => ((k < (4 : Int) → (0 ≤ k ∧ k < 4) ∧
 (last0.length = 4) ∧
 (In .i64 (k + (1 : Int))) ∧
 kont1 (k + (1 : Int)) (last0.set k.toNat (-1 : Int))) ∧
 (¬ (k < (4 : Int)) → Lp9 (fun (changes : Int) (i : Int) (t4901 : List UInt8) (t4902 : List (List UInt8 × List UInt8)) (t3800 : List (List UInt8 × List UInt8 × Bool × List UInt8 × Bool × List (Int × List UInt8))) (t3801 : Int) (t3802 : Int) (t3803 : Bool) (last02 : List Int) kont2 => ((i < (l.length : Int) → (0 ≤ i ∧ i < (l.length : Nat)) ∧
 M_smithyworld_Number (l.getD i.toNat 0) (4 : Int) (fun (k_2 : Int) =>
 (0 ≤ i ∧ i < (l.length : Nat)) ∧
 ((4 : Int) ≠ 0) ∧
 M_smithyworld_Number (IntKind.wrap .i64 ((l.getD i.toNat 0).tdiv (4 : Int))) (3 : Int) (fun (v : Int) =>
 ∃ J1 : Int → Prop, ((0 ≤ k_2 ∧ k_2 < 4) ∧
 (last02.length = 4) ∧
 ((¬ ((last02.getD k_2.toNat 0) = v) → (In .i64 (changes + (1 : Int))) ∧
 J1 (changes + (1 : Int))) ∧
 ((last02.getD k_2.toNat 0) = v → J1 changes))) ∧
 (∀ changes2 : Int, J1 changes2 → (0 ≤ k_2 ∧ k_2 < 4) ∧
 (last02.length = 4) ∧
 M_smithylaw25_name k_2 (fun (t93 : List UInt8) =>
 M_key_Source t93 (fun (t94 : List UInt8) =>
 M_smithylaw25_name v (fun (t96 : List UInt8) =>
 M_key_Source t96 (fun (t97 : List UInt8) =>
 M_pcache_Cache_Put t3800 t3801 t3802 t3803 t4901 t4902 t94 t97 (fun (t98 : Er) (t490_ : List UInt8) (t490_2 : List (List UInt8 × List UInt8)) (t380_9 : List (List UInt8 × List UInt8 × Bool × List UInt8 × Bool × List (Int × List UInt8))) (t380_10 : Int) (t380_11 : Int) (t380_12 : Bool) =>
 ((¬ (t98 = Er.ok) → K false) ∧
 (t98 = Er.ok → (In .i64 (i + (1 : Int))) ∧
 kont2 changes2 (i + (1 : Int)) t490_ t490_2 t380_9 t380_10 t380_11 t380_12 (last02.set k_2.toNat v)))))))))))) ∧
 (¬ (i < (l.length : Int)) → M_pdisk_Disk_Read t3800 t3801 t3802 t3803 ([97, 47, 106] : List UInt8) (fun (t1020 : List UInt8) (t1021 : Bool) (t1022 : Er) (t380_13 : List (List UInt8 × List UInt8 × Bool × List UInt8 × Bool × List (Int × List UInt8))) (t380_14 : Int) (t380_15 : Int) (t380_16 : Bool) =>
 M_cache_Open t380_13 t380_14 t380_15 t380_16 ([97, 47, 106] : List UInt8) (fun (t1081 : Er) (t380_17 : List (List UInt8 × List UInt8 × Bool × List UInt8 × Bool × List (Int × List UInt8))) (t380_18 : Int) (t380_19 : Int) (t380_20 : Bool) =>
 (true = false → (In .i64 ((195 : Int) * changes))) ∧
 K false) (fun (t1080_p : List UInt8) (t1080_l : List (List UInt8 × List UInt8)) (t10812 : Er) (t380_21 : List (List UInt8 × List UInt8 × Bool × List UInt8 × Bool × List (Int × List UInt8))) (t380_22 : Int) (t380_23 : Int) (t380_24 : Bool) =>
 (((!decide (t1022 = Er.ok)) || (!decide (t10812 = Er.ok))) = false → (In .i64 ((195 : Int) * changes))) ∧
 (((((!decide (t1022 = Er.ok)) || (!decide (t10812 = Er.ok))) || (!decide ((t1020.length : Int) = ((195 : Int) * changes)))) = true → K false) ∧
 ((((!decide (t1022 = Er.ok)) || (!decide (t10812 = Er.ok))) || (!decide ((t1020.length : Int) = ((195 : Int) * changes)))) = false → Lp2 (fun (n : Int) (k_3 : Int) kont3 => ((k_3 < (4 : Int) → ∃ J2 : Int → Prop, (M_smithylaw25_name k_3 (fun (t135 : List UInt8) =>
 M_key_Source t135 (fun (t136 : List UInt8) =>
 M_pcache_Cache_Get t380_21 t380_22 t380_23 t380_24 t4901 t4902 t136 (fun (t1370 : List UInt8) (t1371 : Bool) =>
 M_smithylaw25_name k_3 (fun (t143 : List UInt8) =>
 M_key_Source t143 (fun (t144 : List UInt8) =>
 M_pcache_Cache_Get t380_21 t380_22 t380_23 t380_24 t1080_p t1080_l t144 (fun (t1450 : List UInt8) (t1451 : Bool) =>
 (0 ≤ k_3 ∧ k_3 < 4) ∧
 (last02.length = 4) ∧
 ((((!(t1371 == (decide ((0 : Int) ≤ (last02.getD k_3.toNat 0))))) || (!(t1451 == t1371))) = true → K false) ∧
 (((!(t1371 == (decide ((0 : Int) ≤ (last02.getD k_3.toNat 0))))) || (!(t1451 == t1371))) = false → ((t1371 = true → (In .i64 (n + (1 : Int))) ∧
 (0 ≤ k_3 ∧ k_3 < 4) ∧
 (last02.length = 4) ∧
 M_smithylaw25_name (last02.getD k_3.toNat 0) (fun (t165 : List UInt8) =>
 M_key_Source t165 (fun (t166 : List UInt8) =>
 M_smithyref17_SameSum t1370 t166 (fun (t169 : Bool) =>
 ∃ J3 : Bool → Prop, ((((!t169) = true → J3 true) ∧
 ((!t169) = false → M_smithyref17_SameSum t1450 t166 (fun (t174 : Bool) =>
 J3 (!t174))))) ∧
 (∀ q13 : Bool, J3 q13 → ((q13 = true → K false) ∧
 (q13 = false → J2 (n + (1 : Int))))))))) ∧
 (t1371 = false → J2 n))))))))))) ∧
 (∀ n2 : Int, J2 n2 → (In .i64 (k_3 + (1 : Int))) ∧
 kont3 n2 (k_3 + (1 : Int)))) ∧
 (¬ (k_3 < (4 : Int)) → M_pcache_Cache_Len t380_21 t380_22 t380_23 t380_24 t4901 t4902 (fun (t178 : Int) =>
 ∃ J4 : Bool → Prop, ((((decide (t178 = n)) = true → M_pcache_Cache_Len t380_21 t380_22 t380_23 t380_24 t1080_p t1080_l (fun (t183 : Int) =>
 J4 (decide (t183 = n)))) ∧
 ((decide (t178 = n)) = false → J4 false))) ∧
 (∀ q14 : Bool, J4 q14 → K (bif q14 then true else false)))))) (0 : Int) (0 : Int)))))))) (0 : Int) (0 : Int) t490_p t490_l t380_5 t380_6 t380_7 t380_8 last0))) (0 : Int) ([0, 0, 0, 0] : List Int)))))))))))))

set_option maxHeartbeats 8000000 in
theorem W_smithylaw25_name {w : World} {n : Int} {K : (List UInt8) → Prop} (H : M_smithylaw25_name n K) : Fn Tryd.prog 40 ⟨[.int .i64 n]⟩ w (fun v w' => w = w' ∧ ∃ (r : List UInt8), v = vs r ∧ K r) := by
  unfold M_smithylaw25_name at H
  refine Fn.enter (by kernel_rfl) Tryd.func40 rfl Tryd.ntmps40 rfl ?_
  refine WC.seq ?_
  refine WC.region ?_
  refine WL.y rfl (Yld.pure tab_ok rfl) ?_
  refine WL.nil (WX.then_normal ?_)
  refine WC.seq ?_
  refine WC.region ?_
  refine WL.y rfl (Yld.pure tab_ok rfl) ?_
  refine WL.call rfl rfl (W_smithyworld_Number H) ?_
  rintro _ _ ⟨rfl, t4, rfl, H⟩
  refine WL.y rfl (Yld.pure tab_ok rfl) ?_
  refine WL.call rfl rfl (W_smithyworld_Number H) ?_
  rintro _ _ ⟨rfl, t6, rfl, H⟩
  obtain ⟨h1, H⟩ := H
  refine WL.y rfl (Yld.add rfl rfl h1) ?_
  obtain ⟨h2, H⟩ := H
  refine WL.y rfl (Yld.scut tab_ok rfl rfl rfl rfl h2.1 h2.2.1 h2.2.2) ?_
  obtain ⟨h3, H⟩ := H
  refine WL.y rfl (Yld.sadd rfl rfl h3) ?_
  refine WL.y rfl (Yld.pure tab_ok rfl) ?_
  refine WL.nil (WX.then_normal ?_)
  refine WC.ret ?_
  exact WX.ret1 rfl rfl ⟨rfl, ([110] : List UInt8) ++ ((([97, 98, 99, 100, 101, 102, 103, 104, 105, 106, 107, 108] : List UInt8).drop t4.toNat).take ((t6 + (1 : Int)).toNat - t4.toNat)), rfl, H⟩

set_option maxHeartbeats 8000000 in
theorem W_smithylaw25_first {S : List Nat} {w : World} {K : Bool → Prop} (hG : GOK S w) (hS9 : 9 ∈ S) (hS11 : 11 ∈ S) (hS12 : 12 ∈ S) (hS15 : 15 ∈ S) (hS100 : 100 ∈ S) (H : M_smithylaw25_first  K) : Fn Tryd.prog 35 ⟨[]⟩ w (fun v w' => w.grownBy w' none ∧ ∃ (r : Bool), v = .bool r ∧ K r) := by
  unfold M_smithylaw25_first at H
  refine Fn.enter (by kernel_rfl) Tryd.func35 rfl Tryd.ntmps35 rfl ?_
  refine WC.seq ?_
  refine WC.region ?_
  refine WL.y rfl (Yld.pure tab_ok rfl) ?_
  refine WL.nil (WX.then_normal ?_)
  refine WC.seq ?_
  refine WC.region ?_
  refine WL.call rfl rfl (W_disk_New hG hS9 hS11 hS100 (OwnK.nil enc43_ok w w.heap.size 43).rd rfl H) ?_
  rintro v_ w1 ⟨hg_, hc_ | hc_⟩
  · obtain ⟨v_t111, t111, rfl, ht111, H⟩ := hc_
    have hg1 := hg_
    have gr1 := hg1
    refine WL.y rfl (Yld.pure tab_ok rfl) ?_
    refine WL.y rfl (Yld.pure tab_ok rfl) ?_
    refine WL.y rfl (Yld.pure tab_ok rfl) ?_
    refine WL.y rfl (Yld.pure tab_ok rfl) ?_
    refine WL.y rfl (Yld.pure tab_ok rfl) ?_
    refine WL.nil (WX.then_normal ?_)
    refine WC.seq ?_
    refine WC.seq ?_
    refine WC.region ?_
    refine WL.y rfl (Yld.pure tab_ok rfl) ?_
    refine WL.y rfl (Yld.peqnil Tryd.underlying39 rfl rfl) ?_
    refine WL.y rfl (Yld.pure tab_ok rfl) ?_
    refine WL.midF 3 (fun L' w' => ∃ q1 : Bool, L' = [(19, .bool q1), (1, .pointer none)] ∧ true = q1 ∧ w1 = w') ?_ (fun hQ => ?_)
    · rintro _ _ ⟨q1, rfl, rfl, rfl⟩
      refine WL.nil (WX.then_normal ?_)
      refine WC.cond rfl (fun _ => ?_) (fun h => by cases h)
      refine WC.seq ?_
      refine WC.region ?_
      refine WL.y rfl (Yld.pure tab_ok rfl) ?_
      refine WL.nil (WX.then_normal ?_)
      refine WC.ret (WX.then_ret ?_)
      exact WX.ret1 rfl rfl ⟨gr1, false, rfl, H⟩
    · clear H
      refine WL.gno rfl rfl (rfl) rfl ?_
      refine WL.gno rfl rfl (rfl) rfl ?_
      refine WL.y rfl (Yld.pickT (rfl) rfl) ?_
      exact WL.weaken (by repeat (first | exact Sub.nil | refine Sub.cons rfl ?_)) (hQ _ _ ⟨true, rfl, rfl, rfl⟩)
  · obtain ⟨g_t110, g_t110_files, hs_t110_files, t110_files, t110_ops, t110_left, t110_down, v_t1112, t1112, rfl, ht1112, ht110_files, hge1, ht110, hge2, dj1, H⟩ := hc_
    have hg2 := hg_
    have gr2 := hg2
    refine WL.y rfl (Yld.pure tab_ok rfl) ?_
    refine WL.y rfl (Yld.pure tab_ok rfl) ?_
    refine WL.y rfl (Yld.pure tab_ok rfl) ?_
    refine WL.y rfl (Yld.pure tab_ok rfl) ?_
    refine WL.y rfl (Yld.pure tab_ok rfl) ?_
    refine WL.nil (WX.then_normal ?_)
    refine WC.seq ?_
    refine WC.seq ?_
    refine WC.region ?_
    refine WL.y rfl (Yld.pure tab_ok rfl) ?_
    refine WL.y rfl (Yld.peqnil Tryd.underlying39 rfl rfl) ?_
    refine WL.y rfl (Yld.pure tab_ok rfl) ?_
    refine WL.midF 3 (fun L' w' => ∃ q2 : Bool, L' = [(19, .bool q2), (1, .pointer (some ⟨g_t110, 0, none⟩))] ∧ (!decide (t1112 = Er.ok)) = q2 ∧ w1 = w') ?_ (fun hQ => ?_)
    · rintro _ _ ⟨q2, rfl, rfl, rfl⟩
      refine WL.nil (WX.then_normal ?_)
      refine WC.cond rfl (fun b1 => ?_) (fun b1 => ?_)
      · replace H := H.1 (nd_true b1)
        refine WC.seq ?_
        refine WC.region ?_
        refine WL.y rfl (Yld.pure tab_ok rfl) ?_
        refine WL.nil (WX.then_normal ?_)
        refine WC.ret (WX.then_ret ?_)
        exact WX.ret1 rfl rfl ⟨gr2, false, rfl, H⟩
      · replace H := H.2 (nd_false b1)
        refine WC.skip (WX.then_normal ?_)
        refine WC.seq ?_
        refine WC.region ?_
        refine WL.y rfl (Yld.pure tab_ok rfl) ?_
        refine WL.call rfl rfl (W_cache_Open (GB.grown hG gr2) (size_le gr2) (apC (Ge.le hge2 (Nat.le_refl _)) (fun p hp => Ge.le (hge1 p hp) (Nat.le_refl _))) hS9 hS11 hS12 hS15 hS100 ht110_files ht110 dj1 H) ?_
        rintro v_ w4 ⟨hg_, hc_ | hc_⟩
        · obtain ⟨v_t221, t221, hs_t110_, t110_, t110_2, t110_3, t110_4, rfl, ht221, hB1, hM1, hi1, dj2, H⟩ := hc_
          have hgl1 := hg_
          have gr3 := gr_modL gr2 hgl1 (apC (Ge.le hge2 (Nat.le_refl _)) (fun p hp => Ge.le (hge1 p hp) (Nat.le_refl _)))
          refine WL.y rfl (Yld.pure tab_ok rfl) ?_
          refine WL.y rfl (Yld.pure tab_ok rfl) ?_
          refine WL.y rfl (Yld.pure tab_ok rfl) ?_
          refine WL.y rfl (Yld.pure tab_ok rfl) ?_
          refine WL.y rfl (Yld.pure tab_ok rfl) ?_
          refine WL.nil (WX.then_normal ?_)
          refine WC.seq ?_
          refine WC.seq ?_
          refine WC.region ?_
          refine WL.y rfl (Yld.pure tab_ok rfl) ?_
          refine WL.y rfl (Yld.peqnil Tryd.underlying85 rfl rfl) ?_
          refine WL.y rfl (Yld.pure tab_ok rfl) ?_
          refine WL.midF 3 (fun L' w' => ∃ q3 : Bool, L' = [(30, .bool q3), (1, .pointer (some ⟨g_t110, 0, none⟩)), (3, .pointer none)] ∧ true = q3 ∧ w4 = w') ?_ (fun hQ => ?_)
          · rintro _ _ ⟨q3, rfl, rfl, rfl⟩
            refine WL.nil (WX.then_normal ?_)
            refine WC.cond rfl (fun _ => ?_) (fun h => by cases h)
            refine WC.seq ?_
            refine WC.region ?_
            refine WL.y rfl (Yld.pure tab_ok rfl) ?_
            refine WL.nil (WX.then_normal ?_)
            refine WC.ret (WX.then_ret ?_)
            exact WX.ret1 rfl rfl ⟨gr3, false, rfl, H⟩
          · clear H
            refine WL.gno rfl rfl (rfl) rfl ?_
            refine WL.gno rfl rfl (rfl) rfl ?_
            refine WL.y rfl (Yld.pickT (rfl) rfl) ?_
            exact WL.weaken (by repeat (first | exact Sub.nil | refine Sub.cons rfl ?_)) (hQ _ _ ⟨true, rfl, rfl, rfl⟩)
        · obtain ⟨g_t220, t220_p, g_t220_l, t220_l, v_t2212, t2212, hs_t110_2, t110_5, t110_6, t110_7, t110_8, rfl, ht2212, ht220_l, hge3, ht220, hge4, dj3, hB2, hM2, hi2, dj4, dj5, dj6, dj7, dj8, H⟩ := hc_
          have hgl2 := hg_
          have gr4 := gr_modL gr2 hgl2 (apC (Ge.le hge2 (Nat.le_refl _)) (fun p hp => Ge.le (hge1 p hp) (Nat.le_refl _)))
          refine WL.y rfl (Yld.pure tab_ok rfl) ?_
          refine WL.y rfl (Yld.pure tab_ok rfl) ?_
          refine WL.y rfl (Yld.pure tab_ok rfl) ?_
          refine WL.y rfl (Yld.pure tab_ok rfl) ?_
          refine WL.y rfl (Yld.pure tab_ok rfl) ?_
          refine WL.nil (WX.then_normal ?_)
          refine WC.seq ?_
          refine WC.seq ?_
          refine WC.region ?_
          refine WL.y rfl (Yld.pure tab_ok rfl) ?_
          refine WL.y rfl (Yld.peqnil Tryd.underlying85 rfl rfl) ?_
          refine WL.y rfl (Yld.pure tab_ok rfl) ?_
          refine WL.midF 3 (fun L' w' => ∃ q4 : Bool, L' = [(30, .bool q4), (1, .pointer (some ⟨g_t110, 0, none⟩)), (3, .pointer (some ⟨g_t220, 0, none⟩))] ∧ (!decide (t2212 = Er.ok)) = q4 ∧ w4 = w') ?_ (fun hQ => ?_)
          · rintro _ _ ⟨q4, rfl, rfl, rfl⟩
            refine WL.nil (WX.then_normal ?_)
            refine WC.cond rfl (fun b2 => ?_) (fun b2 => ?_)
            · replace H := H.1 (nd_true b2)
              refine WC.seq ?_
              refine WC.region ?_
              refine WL.y rfl (Yld.pure tab_ok rfl) ?_
              refine WL.nil (WX.then_normal ?_)
              refine WC.ret (WX.then_ret ?_)
              exact WX.ret1 rfl rfl ⟨gr4, false, rfl, H⟩
            · replace H := H.2 (nd_false b2)
              refine WC.skip (WX.then_normal ?_)
              refine WC.seq ?_
              refine WC.region ?_
              refine WL.y rfl (Yld.pure tab_ok rfl) ?_
              refine WL.call rfl rfl (W_key_Source H) ?_
              rintro _ w7 ⟨hg3, t32, rfl, H⟩
              have gr5 := gr_trans gr4 hg3
              have k1 := hM2.g0 hg3
              have k2 := hB2.g0 hg3
              have k3 := ht220_l.g0 hg3
              have k4 := ht220.g0 hg3
              refine WL.call rfl rfl (W_key_Source H) ?_
              rintro _ w8 ⟨hg4, t33, rfl, H⟩
              have gr6 := gr_trans gr5 hg4
              have k5 := k1.g0 hg4
              have k6 := k2.g0 hg4
              have k7 := k3.g0 hg4
              have k8 := k4.g0 hg4
              refine WL.call rfl rfl (W_pcache_Cache_Put (GB.grown hG gr6) (size_le gr6) (apC (Ge.le hge4 (size_le gr2)) (apC (Ge.le hge3 (size_le gr2)) (apC (Ge.le hge2 (Nat.le_refl _)) (InA.toGe hi2 (apC (Ge.le hge2 (Nat.le_refl _)) (fun p hp => Ge.le (hge1 p hp) (Nat.le_refl _))) (size_le gr2))))) hS9 hS11 hS15 hS100 k5 k6 k7 k8 dj3.symm dj7 dj8 dj5 dj6 dj4 H) ?_
              rintro v_a w9 ⟨hgl3, _, a, t220_, t220_2, hs_t110_3, t110_9, t110_10, t110_11, t110_12, rfl, ha, hB3, hM3, hB4, hM4, hi3, dj9, dj10, dj11, dj12, dj13, dj14, H⟩
              have gr7 := gr_modL gr6 hgl3 (apC (Ge.le hge4 (size_le gr2)) (apC (Ge.le hge3 (size_le gr2)) (apC (Ge.le hge2 (Nat.le_refl _)) (InA.toGe hi2 (apC (Ge.le hge2 (Nat.le_refl _)) (fun p hp => Ge.le (hge1 p hp) (Nat.le_refl _))) (size_le gr2)))))
              refine WL.y rfl (Yld.pure tab_ok rfl) ?_
              refine WL.nil (WX.then_normal ?_)
              refine WC.seq ?_
              refine WC.region ?_
              refine WL.y rfl (Yld.pure tab_ok rfl) ?_
              refine WL.call rfl rfl (W_key_Source H) ?_
              rintro _ w10 ⟨hg5, t36, rfl, H⟩
              have gr8 := gr_trans gr7 hg5
              have k9 := hM4.g0 hg5
              have k10 := hB4.g0 hg5
              have k11 := hM3.g0 hg5
              have k12 := hB3.g0 hg5
              have k13 := ha.grown hg5
              refine WL.call rfl rfl (W_key_Source H) ?_
              rintro _ w11 ⟨hg6, t37, rfl, H⟩
              have gr9 := gr_trans gr8 hg6
              have k14 := k9.g0 hg6
              have k15 := k10.g0 hg6
              have k16 := k11.g0 hg6
              have k17 := k12.g0 hg6
              have k18 := k13.grown hg6
              refine WL.call rfl rfl (W_pcache_Cache_Put (GB.grown hG gr9) (size_le gr9) (apC (Ge.le hge4 (size_le gr2)) (apC (Ge.le hge3 (size_le gr2)) (apC (Ge.le hge2 (Nat.le_refl _)) (InA.toGe hi3 (apC (Ge.le hge4 (size_le gr2)) (apC (Ge.le hge3 (size_le gr2)) (apC (Ge.le hge2 (Nat.le_refl _)) (InA.toGe hi2 (apC (Ge.le hge2 (Nat.le_refl _)) (fun p hp => Ge.le (hge1 p hp) (Nat.le_refl _))) (size_le gr2))))) (size_le gr6))))) hS9 hS11 hS15 hS100 k14 k15 k16 k17 dj9 dj10 dj11 dj12 dj13 dj14 H) ?_
              rintro v_b w12 ⟨hgl4, _, b, t220_3, t220_4, hs_t110_4, t110_13, t110_14, t110_15, t110_16, rfl, hb, hB5, hM5, hB6, hM6, hi4, dj15, dj16, dj17, dj18, dj19, dj20, H⟩
              have gr10 := gr_modL gr9 hgl4 (apC (Ge.le hge4 (size_le gr2)) (apC (Ge.le hge3 (size_le gr2)) (apC (Ge.le hge2 (Nat.le_refl _)) (InA.toGe hi3 (apC (Ge.le hge4 (size_le gr2)) (apC (Ge.le hge3 (size_le gr2)) (apC (Ge.le hge2 (Nat.le_refl _)) (InA.toGe hi2 (apC (Ge.le hge2 (Nat.le_refl _)) (fun p hp => Ge.le (hge1 p hp) (Nat.le_refl _))) (size_le gr2))))) (size_le gr6)))))
              have k19 := ErrR.goB k18 (GB.grown hG gr9) hgl4 (apC (Ge.le hge4 (size_le gr2)) (apC (Ge.le hge3 (size_le gr2)) (apC (Ge.le hge2 (Nat.le_refl _)) (InA.toGe hi3 (apC (Ge.le hge4 (size_le gr2)) (apC (Ge.le hge3 (size_le gr2)) (apC (Ge.le hge2 (Nat.le_refl _)) (InA.toGe hi2 (apC (Ge.le hge2 (Nat.le_refl _)) (fun p hp => Ge.le (hge1 p hp) (Nat.le_refl _))) (size_le gr2))))) (size_le gr6))))) (apC (NoAt.bl k17 rfl) (apC (NoAt.map k16) (apC (NoAt.bl k15 rfl) k14.noats)))
              refine WL.y rfl (Yld.pure tab_ok rfl) ?_
              refine WL.nil (WX.then_normal ?_)
              refine WC.seq ?_
              refine WC.region ?_
              refine WL.y rfl (Yld.pure tab_ok rfl) ?_
              refine WL.call rfl rfl (W_pdisk_Disk_Read (GB.grown hG gr10) (size_le gr10) (apC (Ge.le hge2 (Nat.le_refl _)) (InA.toGe hi4 (apC (Ge.le hge4 (size_le gr2)) (apC (Ge.le hge3 (size_le gr2)) (apC (Ge.le hge2 (Nat.le_refl _)) (InA.toGe hi3 (apC (Ge.le hge4 (size_le gr2)) (apC (Ge.le hge3 (size_le gr2)) (apC (Ge.le hge2 (Nat.le_refl _)) (InA.toGe hi2 (apC (Ge.le hge2 (Nat.le_refl _)) (fun p hp => Ge.le (hge1 p hp) (Nat.le_refl _))) (size_le gr2))))) (size_le gr6))))) (size_le gr9))) hS15 hM6 hB6 dj20 H) ?_
              rintro _ w13 ⟨hgl5, t410, t411, v_t412, t412, hs_t110_5, t110_17, t110_18, t110_19, t110_20, rfl, ht412, hB7, hM7, hi5, dj21, H⟩
              have gr11 := gr_modL gr10 hgl5 (apC (Ge.le hge2 (Nat.le_refl _)) (InA.toGe hi4 (apC (Ge.le hge4 (size_le gr2)) (apC (Ge.le hge3 (size_le gr2)) (apC (Ge.le hge2 (Nat.le_refl _)) (InA.toGe hi3 (apC (Ge.le hge4 (size_le gr2)) (apC (Ge.le hge3 (size_le gr2)) (apC (Ge.le hge2 (Nat.le_refl _)) (InA.toGe hi2 (apC (Ge.le hge2 (Nat.le_refl _)) (fun p hp => Ge.le (hge1 p hp) (Nat.le_refl _))) (size_le gr2))))) (size_le gr6))))) (size_le gr9)))
              have k20 := hM5.goL hgl5 (apC dj18 dj19)
              have k21 := hB5.goL hgl5 (apC dj16 dj17)
              have k22 := ErrR.goB k19 (GB.grown hG gr10) hgl5 (apC (Ge.le hge2 (Nat.le_refl _)) (InA.toGe hi4 (apC (Ge.le hge4 (size_le gr2)) (apC (Ge.le hge3 (size_le gr2)) (apC (Ge.le hge2 (Nat.le_refl _)) (InA.toGe hi3 (apC (Ge.le hge4 (size_le gr2)) (apC (Ge.le hge3 (size_le gr2)) (apC (Ge.le hge2 (Nat.le_refl _)) (InA.toGe hi2 (apC (Ge.le hge2 (Nat.le_refl _)) (fun p hp => Ge.le (hge1 p hp) (Nat.le_refl _))) (size_le gr2))))) (size_le gr6))))) (size_le gr9))) (apC (NoAt.bl hB6 rfl) hM6.noats)
              have k23 := ErrR.goB hb (GB.grown hG gr10) hgl5 (apC (Ge.le hge2 (Nat.le_refl _)) (InA.toGe hi4 (apC (Ge.le hge4 (size_le gr2)) (apC (Ge.le hge3 (size_le gr2)) (apC (Ge.le hge2 (Nat.le_refl _)) (InA.toGe hi3 (apC (Ge.le hge4 (size_le gr2)) (apC (Ge.le hge3 (size_le gr2)) (apC (Ge.le hge2 (Nat.le_refl _)) (InA.toGe hi2 (apC (Ge.le hge2 (Nat.le_refl _)) (fun p hp => Ge.le (hge1 p hp) (Nat.le_refl _))) (size_le gr2))))) (size_le gr6))))) (size_le gr9))) (apC (NoAt.bl hB6 rfl) hM6.noats)
              refine WL.y rfl (Yld.pure tab_ok rfl) ?_
              refine WL.y rfl (Yld.pure tab_ok rfl) ?_
              refine WL.y rfl (Yld.pure tab_ok rfl) ?_
              refine WL.y rfl (Yld.pure tab_ok rfl) ?_
              refine WL.y rfl (Yld.pure tab_ok rfl) ?_
              refine WL.y rfl (Yld.pure tab_ok rfl) ?_
              refine WL.y rfl (Yld.pure tab_ok rfl) ?_
              refine WL.nil (WX.then_normal ?_)
              refine WC.seq ?_
              refine WC.region ?_
              refine WL.y rfl (Yld.pure tab_ok rfl) ?_
              refine WL.y rfl (Yld.erreql Tryd.underlying29 k22 rfl) ?_
              refine WL.y rfl (Yld.pure tab_ok rfl) ?_
              refine WL.midF 3 (fun L' w' => ∃ q5 : Bool, L' = [(50, .bool q5), (3, .pointer (some ⟨g_t220, 0, none⟩)), (7, vs t410), (8, .bool t411), (9, v_t412)] ∧ ((decide (a = Er.ok)) && (decide (b = Er.ok))) = q5 ∧ w13 = w') ?_ (fun hQ => ?_)
              · rintro _ _ ⟨q5, rfl, rfl, rfl⟩
                refine WL.y rfl (Yld.pure tab_ok rfl) ?_
                refine WL.midF 2 (fun L' w' => ∃ q6 : Bool, L' = [(53, .bool q6), (3, .pointer (some ⟨g_t220, 0, none⟩)), (7, vs t410), (9, v_t412)] ∧ (((decide (a = Er.ok)) && (decide (b = Er.ok))) && t411) = q6 ∧ w13 = w') ?_ (fun hQ => ?_)
                · rintro _ _ ⟨q6, rfl, rfl, rfl⟩
                  refine WL.y rfl (Yld.pure tab_ok rfl) ?_
                  refine WL.midF 3 (fun L' w' => ∃ q7 : Bool, L' = [(57, .bool q7), (3, .pointer (some ⟨g_t220, 0, none⟩)), (7, vs t410)] ∧ ((((decide (a = Er.ok)) && (decide (b = Er.ok))) && t411) && (decide (t412 = Er.ok))) = q7 ∧ w13 = w') ?_ (fun hQ => ?_)
                  · rintro _ _ ⟨q7, rfl, rfl, rfl⟩
                    refine WL.y rfl (Yld.pure tab_ok rfl) ?_
                    refine WL.midF 4 (fun L' w' => ∃ q8 : Bool, L' = [(62, .bool q8), (3, .pointer (some ⟨g_t220, 0, none⟩))] ∧ (((((decide (a = Er.ok)) && (decide (b = Er.ok))) && t411) && (decide (t412 = Er.ok))) && (decide ((t410.length : Int) = (195 : Int)))) = q8 ∧ w13 = w') ?_ (fun hQ => ?_)
                    · rintro _ _ ⟨q8, rfl, rfl, rfl⟩
                      refine WL.y rfl (Yld.pure tab_ok rfl) ?_
                      obtain ⟨J1, H, hJ1⟩ := H
                      refine WL.midF 4 (fun L' w' => ∃ q9 : Bool, L' = [(67, .bool q9)] ∧ J1 q9 ∧ w13 = w') ?_ (fun hQ => ?_)
                      · clear H
                        rintro _ _ ⟨q9, rfl, H, rfl⟩
                        replace H := hJ1 q9 H
                        refine WL.y rfl (Yld.pure tab_ok rfl) ?_
                        refine WL.nil (WX.then_normal ?_)
                        refine WC.ret ?_
                        exact WX.ret1 rfl rfl ⟨gr11, q9, rfl, H⟩
                      · clear hJ1
                        rcases Bool.eq_false_or_eq_true (((((decide (a = Er.ok)) && (decide (b = Er.ok))) && t411) && (decide (t412 = Er.ok))) && (decide ((t410.length : Int) = (195 : Int)))) with b3 | b3
                        · replace H := H.1 b3
                          refine WL.gyes rfl rfl (okb b3) rfl (Yld.pure tab_ok rfl) ?_
                          refine WL.callw (wants_some rfl rfl (okb b3)) rfl rfl (W_pcache_Cache_Len hM7 hB7 k20 k21 H) ?_
                          rintro _ _ ⟨rfl, t65, rfl, H⟩
                          refine WL.gyes rfl rfl (okb b3) rfl (Yld.pure tab_ok rfl) ?_
                          refine WL.y rfl (Yld.pickT (okb b3) rfl) ?_
                          exact WL.weaken (by repeat (first | exact Sub.nil | refine Sub.cons rfl ?_)) (hQ _ _ ⟨decide (t65 = (1 : Int)), rfl, H, rfl⟩)
                        · replace H := H.2 b3
                          refine WL.gno rfl rfl (okb b3) rfl ?_
                          refine WL.gno rfl rfl (okb b3) rfl ?_
                          refine WL.gno rfl rfl (okb b3) rfl ?_
                          refine WL.y rfl (Yld.pickF (okb b3) rfl) ?_
                          exact WL.weaken (by repeat (first | exact Sub.nil | refine Sub.cons rfl ?_)) (hQ _ _ ⟨false, rfl, H, rfl⟩)
                    · clear H
                      rcases Bool.eq_false_or_eq_true ((((decide (a = Er.ok)) && (decide (b = Er.ok))) && t411) && (decide (t412 = Er.ok))) with b4 | b4
                      · refine WL.gyes rfl rfl (okb b4) rfl (Yld.pure tab_ok rfl) ?_
                        refine WL.gyes rfl rfl (okb b4) rfl (Yld.pure tab_ok rfl) ?_
                        refine WL.gyes rfl rfl (okb b4) rfl (Yld.pure tab_ok rfl) ?_
                        refine WL.y rfl (Yld.pickT (okb b4) rfl) ?_
                        exact WL.weaken (by repeat (first | exact Sub.nil | refine Sub.cons rfl ?_)) (hQ _ _ ⟨decide ((t410.length : Int) = (195 : Int)), rfl, by rw [b4] <;> rfl, rfl⟩)
                      · refine WL.gno rfl rfl (okb b4) rfl ?_
                        refine WL.gno rfl rfl (okb b4) rfl ?_
                        refine WL.gno rfl rfl (okb b4) rfl ?_
                        refine WL.y rfl (Yld.pickF (okb b4) rfl) ?_
                        exact WL.weaken (by repeat (first | exact Sub.nil | refine Sub.cons rfl ?_)) (hQ _ _ ⟨false, rfl, by rw [b4] <;> rfl, rfl⟩)
                  · clear H
                    rcases Bool.eq_false_or_eq_true (((decide (a = Er.ok)) && (decide (b = Er.ok))) && t411) with b5 | b5
                    · refine WL.gyes rfl rfl (okb b5) rfl (Yld.pure tab_ok rfl) ?_
                      refine WL.gyes rfl rfl (okb b5) rfl (Yld.erreql Tryd.underlying29 ht412 rfl) ?_
                      refine WL.y rfl (Yld.pickT (okb b5) rfl) ?_
                      exact WL.weaken (by repeat (first | exact Sub.nil | refine Sub.cons rfl ?_)) (hQ _ _ ⟨decide (t412 = Er.ok), rfl, by rw [b5] <;> rfl, rfl⟩)
                    · refine WL.gno rfl rfl (okb b5) rfl ?_
                      refine WL.gno rfl rfl (okb b5) rfl ?_
                      refine WL.y rfl (Yld.pickF (okb b5) rfl) ?_
                      exact WL.weaken (by repeat (first | exact Sub.nil | refine Sub.cons rfl ?_)) (hQ _ _ ⟨false, rfl, by rw [b5] <;> rfl, rfl⟩)
                · clear H
                  rcases Bool.eq_false_or_eq_true ((decide (a = Er.ok)) && (decide (b = Er.ok))) with b6 | b6
                  · refine WL.gyes rfl rfl (okb b6) rfl (Yld.pure tab_ok rfl) ?_
                    refine WL.y rfl (Yld.pickT (okb b6) rfl) ?_
                    exact WL.weaken (by repeat (first | exact Sub.nil | refine Sub.cons rfl ?_)) (hQ _ _ ⟨t411, rfl, by rw [b6] <;> rfl, rfl⟩)
                  · refine WL.gno rfl rfl (okb b6) rfl ?_
                    refine WL.y rfl (Yld.pickF (okb b6) rfl) ?_
                    exact WL.weaken (by repeat (first | exact Sub.nil | refine Sub.cons rfl ?_)) (hQ _ _ ⟨false, rfl, by rw [b6] <;> rfl, rfl⟩)
              · clear H
                rcases Bool.eq_false_or_eq_true (decide (a = Er.ok)) with b7 | b7
                · refine WL.gyes rfl rfl (okb b7) rfl (Yld.pure tab_ok rfl) ?_
                  refine WL.gyes rfl rfl (okb b7) rfl (Yld.erreql Tryd.underlying29 k23 rfl) ?_
                  refine WL.y rfl (Yld.pickT (okb b7) rfl) ?_
                  exact WL.weaken (by repeat (first | exact Sub.nil | refine Sub.cons rfl ?_)) (hQ _ _ ⟨decide (b = Er.ok), rfl, by rw [b7] <;> rfl, rfl⟩)
                · refine WL.gno rfl rfl (okb b7) rfl ?_
                  refine WL.gno rfl rfl (okb b7) rfl ?_
                  refine WL.y rfl (Yld.pickF (okb b7) rfl) ?_
                  exact WL.weaken (by repeat (first | exact Sub.nil | refine Sub.cons rfl ?_)) (hQ _ _ ⟨false, rfl, by rw [b7] <;> rfl, rfl⟩)
          · clear H
            refine WL.gyes rfl rfl (rfl) rfl (Yld.pure tab_ok rfl) ?_
            refine WL.gyes rfl rfl (rfl) rfl (Yld.errneq Tryd.underlying29 ht2212 rfl) ?_
            refine WL.y rfl (Yld.pickF (rfl) rfl) ?_
            exact WL.weaken (by repeat (first | exact Sub.nil | refine Sub.cons rfl ?_)) (hQ _ _ ⟨!decide (t2212 = Er.ok), rfl, rfl, rfl⟩)
    · clear H
      refine WL.gyes rfl rfl (rfl) rfl (Yld.pure tab_ok rfl) ?_
      refine WL.gyes rfl rfl (rfl) rfl (Yld.errneq Tryd.underlying29 ht1112 rfl) ?_
      refine WL.y rfl (Yld.pickF (rfl) rfl) ?_
      exact WL.weaken (by repeat (first | exact Sub.nil | refine Sub.cons rfl ?_)) (hQ _ _ ⟨!decide (t1112 = Er.ok), rfl, rfl, rfl⟩)

set_option maxHeartbeats 8000000 in
theorem W_smithylaw25_CacheLast {S : List Nat} {w : World} {l : List Int} {A_l : Option Addr} {c_l : Nat} {n_l : Nat} {K : Bool → Prop} (hG : GOK S w) (hS9 : 9 ∈ S) (hS11 : 11 ∈ S) (hS12 : 12 ∈ S) (hS15 : 15 ∈ S) (hS100 : 100 ∈ S) (hl : Rd vi w A_l c_l l) (hn_l : n_l = l.length) (H : M_smithylaw25_CacheLast l K) : Fn Tryd.prog 8 ⟨[.slice A_l n_l c_l]⟩ w (fun v w' => w.grownBy w' none ∧ ∃ (r : Bool), v = .bool r ∧ K r) := by
  subst hn_l
  unfold M_smithylaw25_CacheLast at H
  refine Fn.enter (by kernel_rfl) Tryd.func8 rfl Tryd.ntmps8 rfl ?_
  replace H := H (Nat.le_trans hl.cap hl.max)
  refine WC.seq ?_
  refine WC.region ?_
  refine WL.y rfl (Yld.pure tab_ok rfl) ?_
  refine WL.nil (WX.then_normal ?_)
  refine WC.seq ?_
  refine WC.region ?_
  refine WL.call rfl rfl (W_smithylaw25_first hG hS9 hS11 hS12 hS15 hS100 H) ?_
  rintro _ w1 ⟨hg1, ok, rfl, H⟩
  have gr1 := hg1
  refine WL.y rfl (Yld.pure tab_ok rfl) ?_
  refine WL.nil (WX.then_normal ?_)
  refine WC.seq ?_
  refine WC.seq ?_
  refine WC.region ?_
  refine WL.y rfl (Yld.pure tab_ok rfl) ?_
  refine WL.y rfl (Yld.pure tab_ok rfl) ?_
  refine WL.nil (WX.then_normal ?_)
  refine WC.cond rfl (fun b1 => ?_) (fun b1 => ?_)
  · replace H := H.1 (b1)
    refine WC.seq ?_
    refine WC.region ?_
    refine WL.y rfl (Yld.pure tab_ok rfl) ?_
    refine WL.nil (WX.then_normal ?_)
    refine WC.ret (WX.then_ret ?_)
    exact WX.ret1 rfl rfl ⟨gr1, false, rfl, H⟩
  · replace H := H.2 (b1)
    refine WC.skip (WX.then_normal ?_)
    refine WC.seq ?_
    refine WC.seq ?_
    refine WC.region ?_
    refine WL.y rfl (Yld.pure tab_ok rfl) ?_
    refine WL.y rfl (Yld.pure tab_ok rfl) ?_
    refine WL.y rfl (Yld.pure tab_ok rfl) ?_
    refine WL.y rfl (Yld.pure tab_ok rfl) ?_
    refine WL.midF 3 (fun L' w' => ∃ q1 : Bool, L' = [(35, .bool q1), (0, .slice A_l l.length c_l), (3, .bool ok)] ∧ ((decide ((30 : Int) < (l.length : Int))) || (!ok)) = q1 ∧ w1 = w') ?_ (fun hQ => ?_)
    · rintro _ _ ⟨q1, rfl, rfl, rfl⟩
      refine WL.nil (WX.then_normal ?_)
      refine WC.cond rfl (fun b2 => ?_) (fun b2 => ?_)
      · replace H := H.1 (b2)
        refine WC.seq ?_
        refine WC.region ?_
        refine WL.y rfl (Yld.pure tab_ok rfl) ?_
        refine WL.y rfl (Yld.pure tab_ok rfl) ?_
        refine WL.nil (WX.then_normal ?_)
        refine WC.ret (WX.then_ret ?_)
        exact WX.ret1 rfl rfl ⟨gr1, ok, rfl, H⟩
      · replace H := H.2 (b2)
        refine WC.skip (WX.then_normal ?_)
        refine WC.seq ?_
        refine WC.region ?_
        refine WL.call rfl rfl (W_disk_New (hG.grown gr1) hS9 hS11 hS100 (OwnK.nil enc43_ok w1 w.heap.size 43).rd rfl H) ?_
        rintro v_ w2 ⟨hg_, hc_ | hc_⟩
        · obtain ⟨v_t381, t381, rfl, ht381, H⟩ := hc_
          have hg2 := hg_
          have gr2 := gr_trans gr1 hg2
          refine WL.y rfl (Yld.pure tab_ok rfl) ?_
          refine WL.y rfl (Yld.pure tab_ok rfl) ?_
          refine WL.y rfl (Yld.pure tab_ok rfl) ?_
          refine WL.y rfl (Yld.pure tab_ok rfl) ?_
          refine WL.y rfl (Yld.pure tab_ok rfl) ?_
          refine WL.nil (WX.then_normal ?_)
          refine WC.seq ?_
          refine WC.seq ?_
          refine WC.region ?_
          refine WL.y rfl (Yld.pure tab_ok rfl) ?_
          refine WL.y rfl (Yld.peqnil Tryd.underlying39 rfl rfl) ?_
          refine WL.y rfl (Yld.pure tab_ok rfl) ?_
          refine WL.midF 3 (fun L' w' => ∃ q2 : Bool, L' = [(46, .bool q2), (0, .slice A_l l.length c_l), (4, .pointer none)] ∧ true = q2 ∧ w2 = w') ?_ (fun hQ => ?_)
          · rintro _ _ ⟨q2, rfl, rfl, rfl⟩
            refine WL.nil (WX.then_normal ?_)
            refine WC.cond rfl (fun _ => ?_) (fun h => by cases h)
            refine WC.seq ?_
            refine WC.region ?_
            refine WL.y rfl (Yld.pure tab_ok rfl) ?_
            refine WL.nil (WX.then_normal ?_)
            refine WC.ret (WX.then_ret ?_)
            exact WX.ret1 rfl rfl ⟨gr2, false, rfl, H⟩
          · clear H
            refine WL.gno rfl rfl (rfl) rfl ?_
            refine WL.gno rfl rfl (rfl) rfl ?_
            refine WL.y rfl (Yld.pickT (rfl) rfl) ?_
            exact WL.weaken (by repeat (first | exact Sub.nil | refine Sub.cons rfl ?_)) (hQ _ _ ⟨true, rfl, rfl, rfl⟩)
        · obtain ⟨g_t380, g_t380_files, hs_t380_files, t380_files, t380_ops, t380_left, t380_down, v_t3812, t3812, rfl, ht3812, ht380_files, hge1, ht380, hge2, dj1, H⟩ := hc_
          have hg3 := hg_
          have gr3 := gr_trans gr1 hg3
          refine WL.y rfl (Yld.pure tab_ok rfl) ?_
          refine WL.y rfl (Yld.pure tab_ok rfl) ?_
          refine WL.y rfl (Yld.pure tab_ok rfl) ?_
          refine WL.y rfl (Yld.pure tab_ok rfl) ?_
          refine WL.y rfl (Yld.pure tab_ok rfl) ?_
          refine WL.nil (WX.then_normal ?_)
          refine WC.seq ?_
          refine WC.seq ?_
          refine WC.region ?_
          refine WL.y rfl (Yld.pure tab_ok rfl) ?_
          refine WL.y rfl (Yld.peqnil Tryd.underlying39 rfl rfl) ?_
          refine WL.y rfl (Yld.pure tab_ok rfl) ?_
          refine WL.midF 3 (fun L' w' => ∃ q3 : Bool, L' = [(46, .bool q3), (0, .slice A_l l.length c_l), (4, .pointer (some ⟨g_t380, 0, none⟩))] ∧ (!decide (t3812 = Er.ok)) = q3 ∧ w2 = w') ?_ (fun hQ => ?_)
          · rintro _ _ ⟨q3, rfl, rfl, rfl⟩
            refine WL.nil (WX.then_normal ?_)
            refine WC.cond rfl (fun b3 => ?_) (fun b3 => ?_)
            · replace H := H.1 (nd_true b3)
              refine WC.seq ?_
              refine WC.region ?_
              refine WL.y rfl (Yld.pure tab_ok rfl) ?_
              refine WL.nil (WX.then_normal ?_)
              refine WC.ret (WX.then_ret ?_)
              exact WX.ret1 rfl rfl ⟨gr3, false, rfl, H⟩
            · replace H := H.2 (nd_false b3)
              refine WC.skip (WX.then_normal ?_)
              refine WC.seq ?_
              refine WC.region ?_
              refine WL.y rfl (Yld.pure tab_ok rfl) ?_
              refine WL.call rfl rfl (W_cache_Open (GB.grown hG gr3) (size_le gr3) (apC (Ge.le hge2 (size_le gr1)) (fun p hp => Ge.le (hge1 p hp) (size_le gr1))) hS9 hS11 hS12 hS15 hS100 ht380_files ht380 dj1 H) ?_
              rintro v_ w5 ⟨hg_, hc_ | hc_⟩
              · obtain ⟨v_t491, t491, hs_t380_, t380_, t380_2, t380_3, t380_4, rfl, ht491, hB1, hM1, hi1, dj2, H⟩ := hc_
                have hgl1 := hg_
                have gr4 := gr_modL gr3 hgl1 (apC (Ge.le hge2 (size_le gr1)) (fun p hp => Ge.le (hge1 p hp) (size_le gr1)))
                refine WL.y rfl (Yld.pure tab_ok rfl) ?_
                refine WL.y rfl (Yld.pure tab_ok rfl) ?_
                refine WL.y rfl (Yld.pure tab_ok rfl) ?_
                refine WL.y rfl (Yld.pure tab_ok rfl) ?_
                refine WL.y rfl (Yld.pure tab_ok rfl) ?_
                refine WL.nil (WX.then_normal ?_)
                refine WC.seq ?_
                refine WC.seq ?_
                refine WC.region ?_
                refine WL.y rfl (Yld.pure tab_ok rfl) ?_
                refine WL.y rfl (Yld.peqnil Tryd.underlying85 rfl rfl) ?_
                refine WL.y rfl (Yld.pure tab_ok rfl) ?_
                refine WL.midF 3 (fun L' w' => ∃ q4 : Bool, L' = [(57, .bool q4), (0, .slice A_l l.length c_l), (4, .pointer (some ⟨g_t380, 0, none⟩)), (6, .pointer none)] ∧ true = q4 ∧ w5 = w') ?_ (fun hQ => ?_)
                · rintro _ _ ⟨q4, rfl, rfl, rfl⟩
                  refine WL.nil (WX.then_normal ?_)
                  refine WC.cond rfl (fun _ => ?_) (fun h => by cases h)
                  refine WC.seq ?_
                  refine WC.region ?_
                  refine WL.y rfl (Yld.pure tab_ok rfl) ?_
                  refine WL.nil (WX.then_normal ?_)
                  refine WC.ret (WX.then_ret ?_)
                  exact WX.ret1 rfl rfl ⟨gr4, false, rfl, H⟩
                · clear H
                  refine WL.gno rfl rfl (rfl) rfl ?_
                  refine WL.gno rfl rfl (rfl) rfl ?_
                  refine WL.y rfl (Yld.pickT (rfl) rfl) ?_
                  exact WL.weaken (by repeat (first | exact Sub.nil | refine Sub.cons rfl ?_)) (hQ _ _ ⟨true, rfl, rfl, rfl⟩)
              · obtain ⟨g_t490, t490_p, g_t490_l, t490_l, v_t4912, t4912, hs_t380_2, t380_5, t380_6, t380_7, t380_8, rfl, ht4912, ht490_l, hge3, ht490, hge4, dj3, hB2, hM2, hi2, dj4, dj5, dj6, dj7, dj8, H⟩ := hc_
                have hgl2 := hg_
                have gr5 := gr_modL gr3 hgl2 (apC (Ge.le hge2 (size_le gr1)) (fun p hp => Ge.le (hge1 p hp) (size_le gr1)))
                refine WL.y rfl (Yld.pure tab_ok rfl) ?_
                refine WL.y rfl (Yld.pure tab_ok rfl) ?_
                refine WL.y rfl (Yld.pure tab_ok rfl) ?_
                refine WL.y rfl (Yld.pure tab_ok rfl) ?_
                refine WL.y rfl (Yld.pure tab_ok rfl) ?_
                refine WL.nil (WX.then_normal ?_)
                refine WC.seq ?_
                refine WC.seq ?_
                refine WC.region ?_
                refine WL.y rfl (Yld.pure tab_ok rfl) ?_
                refine WL.y rfl (Yld.peqnil Tryd.underlying85 rfl rfl) ?_
                refine WL.y rfl (Yld.pure tab_ok rfl) ?_
                refine WL.midF 3 (fun L' w' => ∃ q5 : Bool, L' = [(57, .bool q5), (0, .slice A_l l.length c_l), (4, .pointer (some ⟨g_t380, 0, none⟩)), (6, .pointer (some ⟨g_t490, 0, none⟩))] ∧ (!decide (t4912 = Er.ok)) = q5 ∧ w5 = w') ?_ (fun hQ => ?_)
                · rintro _ _ ⟨q5, rfl, rfl, rfl⟩
                  refine WL.nil (WX.then_normal ?_)
                  refine WC.cond rfl (fun b4 => ?_) (fun b4 => ?_)
                  · replace H := H.1 (nd_true b4)
                    refine WC.seq ?_
                    refine WC.region ?_
                    refine WL.y rfl (Yld.pure tab_ok rfl) ?_
                    refine WL.nil (WX.then_normal ?_)
                    refine WC.ret (WX.then_ret ?_)
                    exact WX.ret1 rfl rfl ⟨gr5, false, rfl, H⟩
                  · replace H := H.2 (nd_false b4)
                    refine WC.skip (WX.then_normal ?_)
                    refine WC.seq ?_
                    refine WC.region ?_
                    refine WL.alloc rfl zero88 (fun g1 w8 hB3 hg4 hl1 => ?_)
                    have hB4 : Bl w8 g1 88 (([0, 0, 0, 0] : List Int).map vi) := hB3
                    have gr6 := gr_trans gr5 hg4
                    have k1 := hM2.g0 hg4
                    have k2 := hB2.g0 hg4
                    have k3 := ht490_l.g0 hg4
                    have k4 := ht490.g0 hg4
                    refine WL.nil (WX.then_normal ?_)
                    refine WC.seq ?_
                    refine WC.seq ?_
                    refine WC.region ?_
                    refine WL.y rfl (Yld.pure tab_ok rfl) ?_
                    refine WL.nil (WX.then_normal ?_)
                    refine WC.block ?_
                    obtain ⟨I1, mu1, h0_1, HR1⟩ := H
                    refine WC.loopF (fun n' L' w' => ∃ (k : Int), ∃ (last0 : List Int), n' = mu1 k last0 ∧ L' = [(0, .slice A_l l.length c_l), (4, .pointer (some ⟨g_t380, 0, none⟩)), (6, .pointer (some ⟨g_t490, 0, none⟩)), (8, .pointer (some ⟨g1, 0, none⟩)), (9, .int .i64 k)] ∧ I1 k last0 ∧ w.grownBy w' none ∧ PoolO pe128 w' g_t380_files hs_t380_2 t380_5 none ∧ Bl w' g_t380 124 [.map (some g_t380_files), .int .i64 t380_6, .int .i64 t380_7, .bool t380_8] ∧ MapB vA okA vA w' g_t490_l t490_l ∧ Bl w' g_t490 155 [.pointer (some ⟨g_t380, 0, none⟩), vs t490_p, .map (some g_t490_l)] ∧ Bl w' g1 88 (last0.map vi) ∧ AllP (Dj (some g_t380)) (FP g_t380_files hs_t380_2 none) ∧ AllP (Dj (some g_t490_l)) (FP g_t380_files hs_t380_2 none) ∧ AllP (Dj (some g_t490)) (FP g_t380_files hs_t380_2 none) ∧ AllP (Dj (some g1)) (FP g_t380_files hs_t380_2 none) ∧ Dj (some g_t380) (some g_t490_l) ∧ Dj (some g_t380) (some g_t490) ∧ Dj (some g_t380) (some g1) ∧ Dj (some g_t490_l) (some g_t490) ∧ Dj (some g_t490_l) (some g1) ∧ Dj (some g_t490) (some g1) ∧ AllP (fun p => Ge p w.heap.size) (FP g_t380_files hs_t380_2 none)) _ _ ⟨(0 : Int), ([0, 0, 0, 0] : List Int), rfl, rfl, h0_1, gr6, k1, k2, k3, k4, hB4, dj4, dj6, dj8, (hM2.new (Ge.box hl1)), dj5.symm, dj7.symm, (Dj.new hB2.lt' (Ge.box hl1)), dj3, (Dj.new ht490_l.lt' (Ge.box hl1)), (Dj.new ht490.lt' (Ge.box hl1)), (InA.toGe hi2 (apC (Ge.le hge2 (size_le gr1)) (fun p hp => Ge.le (hge1 p hp) (size_le gr1))) (size_le gr3))⟩ (by repeat (first | exact Sub.nil | refine Sub.cons rfl ?_)) ?_
                    clear h0_1
                    rintro _ _ w9 ⟨k, last0, rfl, rfl, hI1, gr7, k5, k6, k7, k8, k9, dj9, dj10, dj11, dj12, dj13, dj14, dj15, dj16, dj17, dj18, hi3⟩
                    have H := HR1 k last0 hI1
                    refine WC.seq ?_
                    refine WC.seq ?_
                    refine WC.region ?_
                    refine WL.y rfl (Yld.pure tab_ok rfl) ?_
                    refine WL.y rfl (Yld.pure tab_ok rfl) ?_
                    refine WL.nil (WX.then_normal ?_)
                    refine WC.cond rfl (fun b5 => ?_) (fun b5 => ?_)
                    · replace H := H.1 (of_decide_eq_true b5)
                      refine WC.skip (WX.then_normal ?_)
                      refine WC.seq ?_
                      refine WC.block ?_
                      refine WC.region ?_
                      refine WL.y rfl (Yld.pure tab_ok rfl) ?_
                      obtain ⟨h1, H⟩ := H
                      refine WL.y rfl (Yld.aaddr tab_ok rfl rfl rfl h1.1 h1.2) ?_
                      obtain ⟨h2, H⟩ := H
                      refine WL.store1 (u := vi (-1 : Int)) one3 rfl rfl rfl k9 (vi_lt (ltN h1 h2)) (fun w10 hB5 hg5 => ?_)
                      have hB6 : Bl w10 g1 88 ((last0.set k.toNat (-1 : Int)).map vi) := vi_setO ▸ hB5
                      have gr8 := gr_mod gr7 hg5 (Ge.le (Ge.box hl1) (size_le gr5))
                      have k10 := k5.go hg5 dj12
                      have k11 := k6.go hg5 dj15
                      have k12 := k7.go hg5 dj17
                      have k13 := k8.go hg5 dj18
                      refine WL.nil (WX.block_normal (WX.then_normal ?_))
                      refine WC.region ?_
                      refine WL.y rfl (Yld.pure tab_ok rfl) ?_
                      obtain ⟨h3, H⟩ := H
                      refine WL.y rfl (Yld.add rfl rfl h3) ?_
                      refine WL.y rfl (Yld.pure tab_ok rfl) ?_
                      refine WL.nil ?_
                      exact WX.roundF _ ⟨k + (1 : Int), last0.set k.toNat (-1 : Int), rfl, rfl, H.1, gr8, k10, k11, k12, k13, hB6, dj9, dj10, dj11, dj12, dj13, dj14, dj15, dj16, dj17, dj18, hi3⟩ (by repeat (first | exact Sub.nil | refine Sub.cons rfl ?_)) H.2
                    · replace H := H.2 (of_decide_eq_false b5)
                      refine WC.exit (WX.then_exit (WX.then_exit (WX.block_same (WX.then_normal ?_))))
                      refine WC.seq ?_
                      refine WC.region ?_
                      refine WL.y rfl (Yld.pure tab_ok rfl) ?_
                      refine WL.nil (WX.then_normal ?_)
                      refine WC.seq ?_
                      refine WC.seq ?_
                      refine WC.region ?_
                      refine WL.y rfl (Yld.pure tab_ok rfl) ?_
                      refine WL.nil (WX.then_normal ?_)
                      refine WC.block ?_
                      obtain ⟨I2, mu2, h0_2, HR2⟩ := H
                      refine WC.loopF (fun n' L' w' => ∃ (changes : Int), ∃ (i : Int), ∃ (t4901 : List UInt8), ∃ (t4902 : List (List UInt8 × List UInt8)), ∃ (t3800 : List (List UInt8 × List UInt8 × Bool × List UInt8 × Bool × List (Int × List UInt8))), ∃ (hs_t3800 : List (List UInt8 × PH)), ∃ (t3801 : Int), ∃ (t3802 : Int), ∃ (t3803 : Bool), ∃ (last02 : List Int), n' = mu2 changes i t4901 t4902 t3800 t3801 t3802 t3803 last02 ∧ L' = [(0, .slice A_l l.length c_l), (4, .pointer (some ⟨g_t380, 0, none⟩)), (6, .pointer (some ⟨g_t490, 0, none⟩)), (8, .pointer (some ⟨g1, 0, none⟩)), (10, .int .i64 changes), (11, .int .i64 i)] ∧ I2 changes i t4901 t4902 t3800 t3801 t3802 t3803 last02 ∧ w.grownBy w' none ∧ Bl w' g_t380 124 [.map (some g_t380_files), .int .i64 t3801, .int .i64 t3802, .bool t3803] ∧ Bl w' g_t490 155 [.pointer (some ⟨g_t380, 0, none⟩), vs t4901, .map (some g_t490_l)] ∧ Bl w' g1 88 (last02.map vi) ∧ MapB vA okA vA w' g_t490_l t4902 ∧ PoolO pe128 w' g_t380_files hs_t3800 t3800 none ∧ Dj (some g_t380) (some g_t490) ∧ Dj (some g_t380) (some g1) ∧ Dj (some g_t380) (some g_t490_l) ∧ AllP (Dj (some g_t380)) (FP g_t380_files hs_t3800 none) ∧ Dj (some g_t490) (some g1) ∧ Dj (some g_t490) (some g_t490_l) ∧ AllP (Dj (some g_t490)) (FP g_t380_files hs_t3800 none) ∧ Dj (some g1) (some g_t490_l) ∧ AllP (Dj (some g1)) (FP g_t380_files hs_t3800 none) ∧ AllP (Dj (some g_t490_l)) (FP g_t380_files hs_t3800 none) ∧ AllP (fun p => Ge p w.heap.size) (FP g_t380_files hs_t3800 none)) _ _ ⟨(0 : Int), (0 : Int), t490_p, t490_l, t380_5, hs_t380_2, t380_6, t380_7, t380_8, last0, rfl, rfl, h0_2, gr7, k6, k8, k9, k7, k5, dj14, dj15, dj13, dj9, dj18, dj16.symm, dj11, dj17.symm, dj12, dj10, hi3⟩ (by repeat (first | exact Sub.nil | refine Sub.cons rfl ?_)) ?_
                      clear h0_2
                      rintro _ _ w11 ⟨changes, i, t4901, t4902, t3800, hs_t3800, t3801, t3802, t3803, last02, rfl, rfl, hI2, gr9, k14, k15, k16, k17, k18, dj19, dj20, dj21, dj22, dj23, dj24, dj25, dj26, dj27, dj28, hi4⟩
                      have H := HR2 changes i t4901 t4902 t3800 t3801 t3802 t3803 last02 hI2
                      refine WC.seq ?_
                      refine WC.seq ?_
                      refine WC.region ?_
                      refine WL.y rfl (Yld.pure tab_ok rfl) ?_
                      refine WL.y rfl (Yld.pure tab_ok rfl) ?_
                      refine WL.y rfl (Yld.pure tab_ok rfl) ?_
                      refine WL.y rfl (Yld.pure tab_ok rfl) ?_
                      refine WL.nil (WX.then_normal ?_)
                      refine WC.cond rfl (fun b6 => ?_) (fun b6 => ?_)
                      · replace H := H.1 (of_decide_eq_true b6)
                        refine WC.skip (WX.then_normal ?_)
                        refine WC.seq ?_
                        refine WC.block ?_
                        refine WC.seq ?_
                        refine WC.region ?_
                        refine WL.y rfl (Yld.pure tab_ok rfl) ?_
                        refine WL.y rfl (Yld.pure tab_ok rfl) ?_
                        obtain ⟨h4, H⟩ := H
                        refine WL.y rfl (Yld.iaddrW tab_ok (hl.grown gr9) rfl rfl rfl rfl h4.1 h4.2) ?_
                        refine WL.y rfl (Yld.iload 0 tab_ok (hl.grown gr9) rfl rfl (iltN h4 rfl)) ?_
                        refine WL.call rfl rfl (W_smithyworld_Number H) ?_
                        rintro _ _ ⟨rfl, k_2, rfl, H⟩
                        refine WL.y rfl (Yld.pure tab_ok rfl) ?_
                        refine WL.nil (WX.then_normal ?_)
                        refine WC.seq ?_
                        refine WC.region ?_
                        refine WL.y rfl (Yld.pure tab_ok rfl) ?_
                        refine WL.y rfl (Yld.pure tab_ok rfl) ?_
                        obtain ⟨h5, H⟩ := H
                        refine WL.y rfl (Yld.iaddrW tab_ok (hl.grown gr9) rfl rfl rfl rfl h5.1 h5.2) ?_
                        refine WL.y rfl (Yld.iload 0 tab_ok (hl.grown gr9) rfl rfl (iltN h5 rfl)) ?_
                        obtain ⟨h6, H⟩ := H
                        refine WL.y rfl (Yld.quo' rfl rfl h6) ?_
                        refine WL.call rfl rfl (W_smithyworld_Number H) ?_
                        rintro _ _ ⟨rfl, v, rfl, H⟩
                        refine WL.y rfl (Yld.pure tab_ok rfl) ?_
                        refine WL.nil (WX.then_normal ?_)
                        refine WC.seq ?_
                        obtain ⟨J1, H, hJ1⟩ := H
                        refine WC.midF (fun L' w' => ∃ (changes2 : Int), L' = [(0, .slice A_l l.length c_l), (4, .pointer (some ⟨g_t380, 0, none⟩)), (6, .pointer (some ⟨g_t490, 0, none⟩)), (8, .pointer (some ⟨g1, 0, none⟩)), (10, .int .i64 changes2), (11, .int .i64 i), (12, .int .i64 k_2), (13, .int .i64 v)] ∧ J1 changes2 ∧ w11 = w') ?_ (fun hQ => ?_)
                        · clear H
                          rintro _ _ ⟨changes2, rfl, H, rfl⟩
                          replace H := hJ1 changes2 H
                          refine WX.then_normal ?_
                          refine WC.seq ?_
                          refine WC.region ?_
                          refine WL.y rfl (Yld.pure tab_ok rfl) ?_
                          refine WL.y rfl (Yld.pure tab_ok rfl) ?_
                          obtain ⟨h7, H⟩ := H
                          refine WL.y rfl (Yld.aaddr tab_ok rfl rfl rfl h7.1 h7.2) ?_
                          obtain ⟨h8, H⟩ := H
                          refine WL.store1 (u := vi v) one3 rfl rfl rfl k16 (vi_lt (ltN h7 h8)) (fun w12 hB7 hg6 => ?_)
                          have hB8 : Bl w12 g1 88 ((last02.set k_2.toNat v).map vi) := vi_setO ▸ hB7
                          have gr10 := gr_mod gr9 hg6 (Ge.le (Ge.box hl1) (size_le gr5))
                          have k19 := k14.go hg6 dj20
                          have k20 := k15.go hg6 dj23
                          have k21 := k17.go hg6 dj26.symm
                          have k22 := k18.go hg6 dj27
                          refine WL.nil (WX.then_normal ?_)
                          refine WC.seq ?_
                          refine WC.region ?_
                          refine WL.y rfl (Yld.pure tab_ok rfl) ?_
                          refine WL.y rfl (Yld.pure tab_ok rfl) ?_
                          refine WL.call rfl rfl (W_smithylaw25_name H) ?_
                          rintro _ _ ⟨rfl, t93, rfl, H⟩
                          refine WL.call rfl rfl (W_key_Source H) ?_
                          rintro _ w13 ⟨hg7, t94, rfl, H⟩
                          have gr11 := gr_trans gr10 hg7
                          have k23 := k19.g0 hg7
                          have k24 := k20.g0 hg7
                          have k25 := hB8.g0 hg7
                          have k26 := k21.g0 hg7
                          have k27 := k22.g0 hg7
                          refine WL.y rfl (Yld.pure tab_ok rfl) ?_
                          refine WL.call rfl rfl (W_smithylaw25_name H) ?_
                          rintro _ _ ⟨rfl, t96, rfl, H⟩
                          refine WL.call rfl rfl (W_key_Source H) ?_
                          rintro _ w14 ⟨hg8, t97, rfl, H⟩
                          have gr12 := gr_trans gr11 hg8
                          have k28 := k23.g0 hg8
                          have k29 := k24.g0 hg8
                          have k30 := k25.g0 hg8
                          have k31 := k26.g0 hg8
                          have k32 := k27.g0 hg8
                          refine WL.call rfl rfl (W_pcache_Cache_Put (GB.grown hG gr12) (size_le gr12) (apC (Ge.le hge4 (size_le gr3)) (apC (Ge.le hge3 (size_le gr3)) (apC (Ge.le hge2 (size_le gr1)) hi4))) hS9 hS11 hS15 hS100 k32 k28 k31 k29 dj24 dj19.symm dj25 dj21.symm dj28 dj22 H) ?_
                          rintro v_t98 w15 ⟨hgl3, _, t98, t490_, t490_2, hs_t380_3, t380_9, t380_10, t380_11, t380_12, rfl, ht98, hB9, hM3, hB10, hM4, hi5, dj29, dj30, dj31, dj32, dj33, dj34, H⟩
                          have gr13 := gr_modL gr12 hgl3 (apC (Ge.le hge4 (size_le gr3)) (apC (Ge.le hge3 (size_le gr3)) (apC (Ge.le hge2 (size_le gr1)) hi4)))
                          have k33 := k30.goL hgl3 (apC dj23.symm (apC dj26 (apC dj20.symm dj27)))
                          refine WL.y rfl (Yld.errneq Tryd.underlying29 ht98 rfl) ?_
                          refine WL.nil (WX.then_normal ?_)
                          refine WC.cond rfl (fun b7 => ?_) (fun b7 => ?_)
                          · replace H := H.1 (nd_true b7)
                            refine WC.seq ?_
                            refine WC.region ?_
                            refine WL.y rfl (Yld.pure tab_ok rfl) ?_
                            refine WL.nil (WX.then_normal ?_)
                            refine WC.ret (WX.block_ret (WX.then_ret (WX.then_ret (WX.block_ret (WX.then_ret ?_)))))
                            exact WX.ret1 rfl rfl ⟨gr13, false, rfl, H⟩
                          · replace H := H.2 (nd_false b7)
                            refine WC.skip (WX.block_normal (WX.then_normal ?_))
                            refine WC.region ?_
                            refine WL.y rfl (Yld.pure tab_ok rfl) ?_
                            obtain ⟨h9, H⟩ := H
                            refine WL.y rfl (Yld.add rfl rfl h9) ?_
                            refine WL.y rfl (Yld.pure tab_ok rfl) ?_
                            refine WL.nil ?_
                            exact WX.roundF _ ⟨changes2, i + (1 : Int), t490_, t490_2, t380_9, hs_t380_3, t380_10, t380_11, t380_12, last02.set k_2.toNat v, rfl, rfl, H.1, gr13, hB10, hB9, k33, hM3, hM4, dj30.symm, dj20, dj32.symm, dj34, dj23, dj29, dj31, dj26, (InA.dj hi5 k30.lt' (apC dj23.symm (apC dj26 (apC dj20.symm dj27)))), dj33, (InA.toGe hi5 (apC (Ge.le hge4 (size_le gr3)) (apC (Ge.le hge3 (size_le gr3)) (apC (Ge.le hge2 (size_le gr1)) hi4))) (size_le gr12))⟩ (by repeat (first | exact Sub.nil | refine Sub.cons rfl ?_)) H.2
                        · clear hJ1
                          refine WC.seq ?_
                          refine WC.region ?_
                          refine WL.y rfl (Yld.pure tab_ok rfl) ?_
                          obtain ⟨h10, H⟩ := H
                          refine WL.y rfl (Yld.aaddr tab_ok rfl rfl rfl h10.1 h10.2) ?_
                          obtain ⟨h11, H⟩ := H
                          refine WL.y rfl (Yld.bload tab_ok k16 rfl rfl (vi_getO _ _ (ltN h10 h11))) ?_
                          refine WL.y rfl (Yld.pure tab_ok rfl) ?_
                          refine WL.y rfl (Yld.pure tab_ok rfl) ?_
                          refine WL.nil (WX.then_normal ?_)
                          refine WC.cond rfl (fun b8 => ?_) (fun b8 => ?_)
                          · replace H := H.1 (nd_true b8)
                            refine WC.region ?_
                            refine WL.y rfl (Yld.pure tab_ok rfl) ?_
                            obtain ⟨h12, H⟩ := H
                            refine WL.y rfl (Yld.add rfl rfl h12) ?_
                            refine WL.y rfl (Yld.pure tab_ok rfl) ?_
                            refine WL.nil ?_
                            exact WX.weaken (by repeat (first | exact Sub.nil | refine Sub.cons rfl ?_)) (hQ _ _ ⟨changes + (1 : Int), rfl, H, rfl⟩)
                          · replace H := H.2 (nd_false b8)
                            refine WC.skip ?_
                            exact WX.weaken (by repeat (first | exact Sub.nil | refine Sub.cons rfl ?_)) (hQ _ _ ⟨changes, rfl, H, rfl⟩)
                      · replace H := H.2 (of_decide_eq_false b6)
                        refine WC.exit (WX.then_exit (WX.then_exit (WX.block_same (WX.then_normal ?_))))
                        refine WC.seq ?_
                        refine WC.region ?_
                        refine WL.y rfl (Yld.pure tab_ok rfl) ?_
                        refine WL.call rfl rfl (W_pdisk_Disk_Read (GB.grown hG gr9) (size_le gr9) (apC (Ge.le hge2 (size_le gr1)) hi4) hS15 k18 k14 dj22 H) ?_
                        rintro _ w16 ⟨hgl4, t1020, t1021, v_t1022, t1022, hs_t380_4, t380_13, t380_14, t380_15, t380_16, rfl, ht1022, hB11, hM5, hi6, dj35, H⟩
                        have gr14 := gr_modL gr9 hgl4 (apC (Ge.le hge2 (size_le gr1)) hi4)
                        have k34 := k15.goL hgl4 (apC dj19.symm dj25)
                        have k35 := k16.goL hgl4 (apC dj20.symm dj27)
                        have k36 := k17.goL hgl4 (apC dj21.symm dj28)
                        refine WL.y rfl (Yld.pure tab_ok rfl) ?_
                        refine WL.y rfl (Yld.pure tab_ok rfl) ?_
                        refine WL.y rfl (Yld.pure tab_ok rfl) ?_
                        refine WL.y rfl (Yld.pure tab_ok rfl) ?_
                        refine WL.y rfl (Yld.pure tab_ok rfl) ?_
                        refine WL.y rfl (Yld.pure tab_ok rfl) ?_
                        refine WL.y rfl (Yld.pure tab_ok rfl) ?_
                        refine WL.nil (WX.then_normal ?_)
                        refine WC.seq ?_
                        refine WC.region ?_
                        refine WL.y rfl (Yld.pure tab_ok rfl) ?_
                        refine WL.call rfl rfl (W_cache_Open (GB.grown hG gr14) (size_le gr14) (apC (Ge.le hge2 (size_le gr1)) (InA.toGe hi6 (apC (Ge.le hge2 (size_le gr1)) hi4) (size_le gr9))) hS9 hS11 hS12 hS15 hS100 hM5 hB11 dj35 H) ?_
                        rintro v_ w17 ⟨hg_, hc_ | hc_⟩
                        · obtain ⟨v_t1081, t1081, hs_t380_5, t380_17, t380_18, t380_19, t380_20, rfl, ht1081, hB12, hM6, hi7, dj36, H⟩ := hc_
                          have hgl5 := hg_
                          have gr15 := gr_modL gr14 hgl5 (apC (Ge.le hge2 (size_le gr1)) (InA.toGe hi6 (apC (Ge.le hge2 (size_le gr1)) hi4) (size_le gr9)))
                          have k37 := k34.goL hgl5 (apC dj19.symm (InA.dj hi6 k15.lt' (apC dj19.symm dj25)))
                          have k38 := k35.goL hgl5 (apC dj20.symm (InA.dj hi6 k16.lt' (apC dj20.symm dj27)))
                          have k39 := k36.goL hgl5 (apC dj21.symm (InA.dj hi6 k17.lt' (apC dj21.symm dj28)))
                          have k40 := ErrR.goB ht1022 (GB.grown hG gr14) hgl5 (apC (Ge.le hge2 (size_le gr1)) (InA.toGe hi6 (apC (Ge.le hge2 (size_le gr1)) hi4) (size_le gr9))) (apC (NoAt.bl hB11 rfl) hM5.noats)
                          refine WL.y rfl (Yld.pure tab_ok rfl) ?_
                          refine WL.y rfl (Yld.pure tab_ok rfl) ?_
                          refine WL.y rfl (Yld.pure tab_ok rfl) ?_
                          refine WL.y rfl (Yld.pure tab_ok rfl) ?_
                          refine WL.y rfl (Yld.pure tab_ok rfl) ?_
                          refine WL.nil (WX.then_normal ?_)
                          refine WC.seq ?_
                          refine WC.seq ?_
                          refine WC.region ?_
                          refine WL.y rfl (Yld.pure tab_ok rfl) ?_
                          refine WL.y rfl (Yld.errneq Tryd.underlying29 k40 rfl) ?_
                          refine WL.y rfl (Yld.pure tab_ok rfl) ?_
                          refine WL.midF 3 (fun L' w' => ∃ q6 : Bool, L' = [(116, .bool q6), (6, .pointer (some ⟨g_t490, 0, none⟩)), (8, .pointer (some ⟨g1, 0, none⟩)), (10, .int .i64 changes), (14, vs t1020), (17, .pointer none)] ∧ ((!decide (t1022 = Er.ok)) || (!decide (t1081 = Er.ok))) = q6 ∧ w17 = w') ?_ (fun hQ => ?_)
                          · rintro _ _ ⟨q6, rfl, rfl, rfl⟩
                            refine WL.y rfl (Yld.pure tab_ok rfl) ?_
                            refine WL.midF 3 (fun L' w' => ∃ q7 : Bool, L' = [(120, .bool q7), (6, .pointer (some ⟨g_t490, 0, none⟩)), (8, .pointer (some ⟨g1, 0, none⟩)), (10, .int .i64 changes), (14, vs t1020), (17, .pointer none)] ∧ true = q7 ∧ w17 = w') ?_ (fun hQ => ?_)
                            · rintro _ _ ⟨q7, rfl, rfl, rfl⟩
                              refine WL.y rfl (Yld.pure tab_ok rfl) ?_
                              obtain ⟨h13, H⟩ := H
                              refine WL.midF 6 (fun L' w' => ∃ q8 : Bool, L' = [(127, .bool q8), (6, .pointer (some ⟨g_t490, 0, none⟩)), (8, .pointer (some ⟨g1, 0, none⟩)), (17, .pointer none)] ∧ true = q8 ∧ w17 = w') ?_ (fun hQ => ?_)
                              · rintro _ _ ⟨q8, rfl, rfl, rfl⟩
                                refine WL.nil (WX.then_normal ?_)
                                refine WC.cond rfl (fun _ => ?_) (fun h => by cases h)
                                refine WC.seq ?_
                                refine WC.region ?_
                                refine WL.y rfl (Yld.pure tab_ok rfl) ?_
                                refine WL.nil (WX.then_normal ?_)
                                refine WC.ret (WX.then_ret ?_)
                                exact WX.ret1 rfl rfl ⟨gr15, false, rfl, H⟩
                              · clear H
                                refine WL.gno rfl rfl (rfl) rfl ?_
                                refine WL.gno rfl rfl (rfl) rfl ?_
                                refine WL.gno rfl rfl (rfl) rfl ?_
                                refine WL.gno rfl rfl (rfl) rfl ?_
                                refine WL.gno rfl rfl (rfl) rfl ?_
                                refine WL.y rfl (Yld.pickT (rfl) rfl) ?_
                                exact WL.weaken (by repeat (first | exact Sub.nil | refine Sub.cons rfl ?_)) (hQ _ _ ⟨true, rfl, rfl, rfl⟩)
                            · clear H
                              rcases Bool.eq_false_or_eq_true ((!decide (t1022 = Er.ok)) || (!decide (t1081 = Er.ok))) with b9 | b9
                              · refine WL.gno rfl rfl (okb b9) rfl ?_
                                refine WL.gno rfl rfl (okb b9) rfl ?_
                                refine WL.y rfl (Yld.pickT (okb b9) rfl) ?_
                                exact WL.weaken (by repeat (first | exact Sub.nil | refine Sub.cons rfl ?_)) (hQ _ _ ⟨true, rfl, rfl, rfl⟩)
                              · refine WL.gyes rfl rfl (okb b9) rfl (Yld.pure tab_ok rfl) ?_
                                refine WL.gyes rfl rfl (okb b9) rfl (Yld.peqnil Tryd.underlying85 rfl rfl) ?_
                                refine WL.y rfl (Yld.pickF (okb b9) rfl) ?_
                                exact WL.weaken (by repeat (first | exact Sub.nil | refine Sub.cons rfl ?_)) (hQ _ _ ⟨true, rfl, rfl, rfl⟩)
                          · clear H
                            rcases Bool.eq_false_or_eq_true (!decide (t1022 = Er.ok)) with b10 | b10
                            · refine WL.gno rfl rfl (okb b10) rfl ?_
                              refine WL.gno rfl rfl (okb b10) rfl ?_
                              refine WL.y rfl (Yld.pickT (okb b10) rfl) ?_
                              exact WL.weaken (by repeat (first | exact Sub.nil | refine Sub.cons rfl ?_)) (hQ _ _ ⟨true, rfl, by rw [b10] <;> rfl, rfl⟩)
                            · refine WL.gyes rfl rfl (okb b10) rfl (Yld.pure tab_ok rfl) ?_
                              refine WL.gyes rfl rfl (okb b10) rfl (Yld.errneq Tryd.underlying29 ht1081 rfl) ?_
                              refine WL.y rfl (Yld.pickF (okb b10) rfl) ?_
                              exact WL.weaken (by repeat (first | exact Sub.nil | refine Sub.cons rfl ?_)) (hQ _ _ ⟨!decide (t1081 = Er.ok), rfl, by rw [b10] <;> rfl, rfl⟩)
                        · obtain ⟨g_t1080, t1080_p, g_t1080_l, t1080_l, v_t10812, t10812, hs_t380_6, t380_21, t380_22, t380_23, t380_24, rfl, ht10812, ht1080_l, hge5, ht1080, hge6, dj37, hB13, hM7, hi8, dj38, dj39, dj40, dj41, dj42, H⟩ := hc_
                          have hgl6 := hg_
                          have gr16 := gr_modL gr14 hgl6 (apC (Ge.le hge2 (size_le gr1)) (InA.toGe hi6 (apC (Ge.le hge2 (size_le gr1)) hi4) (size_le gr9)))
                          have k41 := k34.goL hgl6 (apC dj19.symm (InA.dj hi6 k15.lt' (apC dj19.symm dj25)))
                          have k42 := k35.goL hgl6 (apC dj20.symm (InA.dj hi6 k16.lt' (apC dj20.symm dj27)))
                          have k43 := k36.goL hgl6 (apC dj21.symm (InA.dj hi6 k17.lt' (apC dj21.symm dj28)))
                          have k44 := ErrR.goB ht1022 (GB.grown hG gr14) hgl6 (apC (Ge.le hge2 (size_le gr1)) (InA.toGe hi6 (apC (Ge.le hge2 (size_le gr1)) hi4) (size_le gr9))) (apC (NoAt.bl hB11 rfl) hM5.noats)
                          refine WL.y rfl (Yld.pure tab_ok rfl) ?_
                          refine WL.y rfl (Yld.pure tab_ok rfl) ?_
                          refine WL.y rfl (Yld.pure tab_ok rfl) ?_
                          refine WL.y rfl (Yld.pure tab_ok rfl) ?_
                          refine WL.y rfl (Yld.pure tab_ok rfl) ?_
                          refine WL.nil (WX.then_normal ?_)
                          refine WC.seq ?_
                          refine WC.seq ?_
                          refine WC.region ?_
                          refine WL.y rfl (Yld.pure tab_ok rfl) ?_
                          refine WL.y rfl (Yld.errneq Tryd.underlying29 k44 rfl) ?_
                          refine WL.y rfl (Yld.pure tab_ok rfl) ?_
                          refine WL.midF 3 (fun L' w' => ∃ q9 : Bool, L' = [(116, .bool q9), (6, .pointer (some ⟨g_t490, 0, none⟩)), (8, .pointer (some ⟨g1, 0, none⟩)), (10, .int .i64 changes), (14, vs t1020), (17, .pointer (some ⟨g_t1080, 0, none⟩))] ∧ ((!decide (t1022 = Er.ok)) || (!decide (t10812 = Er.ok))) = q9 ∧ w17 = w') ?_ (fun hQ => ?_)
                          · rintro _ _ ⟨q9, rfl, rfl, rfl⟩
                            refine WL.y rfl (Yld.pure tab_ok rfl) ?_
                            refine WL.midF 3 (fun L' w' => ∃ q10 : Bool, L' = [(120, .bool q10), (6, .pointer (some ⟨g_t490, 0, none⟩)), (8, .pointer (some ⟨g1, 0, none⟩)), (10, .int .i64 changes), (14, vs t1020), (17, .pointer (some ⟨g_t1080, 0, none⟩))] ∧ ((!decide (t1022 = Er.ok)) || (!decide (t10812 = Er.ok))) = q10 ∧ w17 = w') ?_ (fun hQ => ?_)
                            · rintro _ _ ⟨q10, rfl, rfl, rfl⟩
                              refine WL.y rfl (Yld.pure tab_ok rfl) ?_
                              obtain ⟨h14, H⟩ := H
                              refine WL.midF 6 (fun L' w' => ∃ q11 : Bool, L' = [(127, .bool q11), (6, .pointer (some ⟨g_t490, 0, none⟩)), (8, .pointer (some ⟨g1, 0, none⟩)), (17, .pointer (some ⟨g_t1080, 0, none⟩))] ∧ (((!decide (t1022 = Er.ok)) || (!decide (t10812 = Er.ok))) || (!decide ((t1020.length : Int) = ((195 : Int) * changes)))) = q11 ∧ w17 = w') ?_ (fun hQ => ?_)
                              · rintro _ _ ⟨q11, rfl, rfl, rfl⟩
                                refine WL.nil (WX.then_normal ?_)
                                refine WC.cond rfl (fun b11 => ?_) (fun b11 => ?_)
                                · replace H := H.1 (b11)
                                  refine WC.seq ?_
                                  refine WC.region ?_
                                  refine WL.y rfl (Yld.pure tab_ok rfl) ?_
                                  refine WL.nil (WX.then_normal ?_)
                                  refine WC.ret (WX.then_ret ?_)
                                  exact WX.ret1 rfl rfl ⟨gr16, false, rfl, H⟩
                                · replace H := H.2 (b11)
                                  refine WC.skip (WX.then_normal ?_)
                                  refine WC.seq ?_
                                  refine WC.region ?_
                                  refine WL.y rfl (Yld.pure tab_ok rfl) ?_
                                  refine WL.nil (WX.then_normal ?_)
                                  refine WC.seq ?_
                                  refine WC.seq ?_
                                  refine WC.region ?_
                                  refine WL.y rfl (Yld.pure tab_ok rfl) ?_
                                  refine WL.nil (WX.then_normal ?_)
                                  refine WC.block ?_
                                  obtain ⟨I3, mu3, h0_3, HR3⟩ := H
                                  refine WC.loopF (fun n' L' w' => ∃ (n : Int), ∃ (k_3 : Int), n' = mu3 n k_3 ∧ L' = [(6, .pointer (some ⟨g_t490, 0, none⟩)), (8, .pointer (some ⟨g1, 0, none⟩)), (17, .pointer (some ⟨g_t1080, 0, none⟩)), (19, .int .i64 n), (20, .int .i64 k_3)] ∧ I3 n k_3 ∧ w.grownBy w' none ∧ Bl w' g_t380 124 [.map (some g_t380_files), .int .i64 t380_22, .int .i64 t380_23, .bool t380_24] ∧ Bl w' g_t490 155 [.pointer (some ⟨g_t380, 0, none⟩), vs t4901, .map (some g_t490_l)] ∧ Bl w' g1 88 (last02.map vi) ∧ MapB vA okA vA w' g_t490_l t4902 ∧ PoolO pe128 w' g_t380_files hs_t380_6 t380_21 none ∧ MapB vA okA vA w' g_t1080_l t1080_l ∧ Bl w' g_t1080 155 [.pointer (some ⟨g_t380, 0, none⟩), vs t1080_p, .map (some g_t1080_l)] ∧ Dj (some g_t380) (some g_t490) ∧ Dj (some g_t380) (some g1) ∧ Dj (some g_t380) (some g_t490_l) ∧ AllP (Dj (some g_t380)) (FP g_t380_files hs_t380_6 none) ∧ Dj (some g_t380) (some g_t1080_l) ∧ Dj (some g_t380) (some g_t1080) ∧ Dj (some g_t490) (some g1) ∧ Dj (some g_t490) (some g_t490_l) ∧ AllP (Dj (some g_t490)) (FP g_t380_files hs_t380_6 none) ∧ Dj (some g_t490) (some g_t1080_l) ∧ Dj (some g_t490) (some g_t1080) ∧ Dj (some g1) (some g_t490_l) ∧ AllP (Dj (some g1)) (FP g_t380_files hs_t380_6 none) ∧ Dj (some g1) (some g_t1080_l) ∧ Dj (some g1) (some g_t1080) ∧ AllP (Dj (some g_t490_l)) (FP g_t380_files hs_t380_6 none) ∧ Dj (some g_t490_l) (some g_t1080_l) ∧ Dj (some g_t490_l) (some g_t1080) ∧ AllP (Dj (some g_t1080_l)) (FP g_t380_files hs_t380_6 none) ∧ AllP (Dj (some g_t1080)) (FP g_t380_files hs_t380_6 none) ∧ Dj (some g_t1080_l) (some g_t1080) ∧ AllP (fun p => Ge p w.heap.size) (FP g_t380_files hs_t380_6 none)) _ _ ⟨(0 : Int), (0 : Int), rfl, rfl, h0_3, gr16, hB13, k41, k42, k43, hM7, ht1080_l, ht1080, dj19, dj20, dj21, dj38, dj39.symm, dj41.symm, dj23, dj24, (InA.dj hi8 k34.lt' (apC dj19.symm (InA.dj hi6 k15.lt' (apC dj19.symm dj25)))), (Dj.new k34.lt' hge5), (Dj.new k34.lt' hge6), dj26, (InA.dj hi8 k35.lt' (apC dj20.symm (InA.dj hi6 k16.lt' (apC dj20.symm dj27)))), (Dj.new k35.lt' hge5), (Dj.new k35.lt' hge6), (InA.dj hi8 k36.lt' (apC dj21.symm (InA.dj hi6 k17.lt' (apC dj21.symm dj28)))), (Dj.new k36.lt' hge5), (Dj.new k36.lt' hge6), dj40, dj42, dj37, (InA.toGe hi8 (apC (Ge.le hge2 (size_le gr1)) (InA.toGe hi6 (apC (Ge.le hge2 (size_le gr1)) hi4) (size_le gr9))) (size_le gr14))⟩ (by repeat (first | exact Sub.nil | refine Sub.cons rfl ?_)) ?_
                                  clear h0_3
                                  rintro _ _ w20 ⟨n, k_3, rfl, rfl, hI3, gr17, k45, k46, k47, k48, k49, k50, k51, dj43, dj44, dj45, dj46, dj47, dj48, dj49, dj50, dj51, dj52, dj53, dj54, dj55, dj56, dj57, dj58, dj59, dj60, dj61, dj62, dj63, hi9⟩
                                  have H := HR3 n k_3 hI3
                                  refine WC.seq ?_
                                  refine WC.seq ?_
                                  refine WC.region ?_
                                  refine WL.y rfl (Yld.pure tab_ok rfl) ?_
                                  refine WL.y rfl (Yld.pure tab_ok rfl) ?_
                                  refine WL.nil (WX.then_normal ?_)
                                  refine WC.cond rfl (fun b12 => ?_) (fun b12 => ?_)
                                  · replace H := H.1 (of_decide_eq_true b12)
                                    refine WC.skip (WX.then_normal ?_)
                                    refine WC.seq ?_
                                    obtain ⟨J2, H, hJ2⟩ := H
                                    refine WC.midF (fun L' w' => ∃ (n2 : Int), L' = [(6, .pointer (some ⟨g_t490, 0, none⟩)), (8, .pointer (some ⟨g1, 0, none⟩)), (17, .pointer (some ⟨g_t1080, 0, none⟩)), (19, .int .i64 n2), (20, .int .i64 k_3)] ∧ J2 n2 ∧ w.grownBy w' none ∧ Bl w' g_t380 124 [.map (some g_t380_files), .int .i64 t380_22, .int .i64 t380_23, .bool t380_24] ∧ Bl w' g_t490 155 [.pointer (some ⟨g_t380, 0, none⟩), vs t4901, .map (some g_t490_l)] ∧ Bl w' g1 88 (last02.map vi) ∧ MapB vA okA vA w' g_t490_l t4902 ∧ PoolO pe128 w' g_t380_files hs_t380_6 t380_21 none ∧ MapB vA okA vA w' g_t1080_l t1080_l ∧ Bl w' g_t1080 155 [.pointer (some ⟨g_t380, 0, none⟩), vs t1080_p, .map (some g_t1080_l)] ∧ Dj (some g_t380) (some g_t490) ∧ Dj (some g_t380) (some g1) ∧ Dj (some g_t380) (some g_t490_l) ∧ AllP (Dj (some g_t380)) (FP g_t380_files hs_t380_6 none) ∧ Dj (some g_t380) (some g_t1080_l) ∧ Dj (some g_t380) (some g_t1080) ∧ Dj (some g_t490) (some g1) ∧ Dj (some g_t490) (some g_t490_l) ∧ AllP (Dj (some g_t490)) (FP g_t380_files hs_t380_6 none) ∧ Dj (some g_t490) (some g_t1080_l) ∧ Dj (some g_t490) (some g_t1080) ∧ Dj (some g1) (some g_t490_l) ∧ AllP (Dj (some g1)) (FP g_t380_files hs_t380_6 none) ∧ Dj (some g1) (some g_t1080_l) ∧ Dj (some g1) (some g_t1080) ∧ AllP (Dj (some g_t490_l)) (FP g_t380_files hs_t380_6 none) ∧ Dj (some g_t490_l) (some g_t1080_l) ∧ Dj (some g_t490_l) (some g_t1080) ∧ AllP (Dj (some g_t1080_l)) (FP g_t380_files hs_t380_6 none) ∧ AllP (Dj (some g_t1080)) (FP g_t380_files hs_t380_6 none) ∧ Dj (some g_t1080_l) (some g_t1080) ∧ AllP (fun p => Ge p w.heap.size) (FP g_t380_files hs_t380_6 none)) ?_ (fun hQ => ?_)
                                    · clear H
                                      rintro _ w21 ⟨n2, rfl, H, gr18, k52, k53, k54, k55, k56, k57, k58, dj64, dj65, dj66, dj67, dj68, dj69, dj70, dj71, dj72, dj73, dj74, dj75, dj76, dj77, dj78, dj79, dj80, dj81, dj82, dj83, dj84, hi10⟩
                                      replace H := hJ2 n2 H
                                      refine WX.then_normal ?_
                                      refine WC.region ?_
                                      refine WL.y rfl (Yld.pure tab_ok rfl) ?_
                                      obtain ⟨h15, H⟩ := H
                                      refine WL.y rfl (Yld.add rfl rfl h15) ?_
                                      refine WL.y rfl (Yld.pure tab_ok rfl) ?_
                                      refine WL.nil ?_
                                      exact WX.roundF _ ⟨n2, k_3 + (1 : Int), rfl, rfl, H.1, gr18, k52, k53, k54, k55, k56, k57, k58, dj64, dj65, dj66, dj67, dj68, dj69, dj70, dj71, dj72, dj73, dj74, dj75, dj76, dj77, dj78, dj79, dj80, dj81, dj82, dj83, dj84, hi10⟩ (by repeat (first | exact Sub.nil | refine Sub.cons rfl ?_)) H.2
                                    · clear hJ2
                                      refine WC.block ?_
                                      refine WC.seq ?_
                                      refine WC.region ?_
                                      refine WL.y rfl (Yld.pure tab_ok rfl) ?_
                                      refine WL.y rfl (Yld.pure tab_ok rfl) ?_
                                      refine WL.call rfl rfl (W_smithylaw25_name H) ?_
                                      rintro _ _ ⟨rfl, t135, rfl, H⟩
                                      refine WL.call rfl rfl (W_key_Source H) ?_
                                      rintro _ w22 ⟨hg9, t136, rfl, H⟩
                                      have gr19 := gr_trans gr17 hg9
                                      have k59 := k45.g0 hg9
                                      have k60 := k46.g0 hg9
                                      have k61 := k47.g0 hg9
                                      have k62 := k48.g0 hg9
                                      have k63 := k49.g0 hg9
                                      have k64 := k50.g0 hg9
                                      have k65 := k51.g0 hg9
                                      refine WL.call rfl rfl (W_pcache_Cache_Get k63 k59 k62 k60 H) ?_
                                      rintro _ w23 ⟨hg10, t1370, t1371, rfl, H⟩
                                      have gr20 := gr_trans gr19 hg10
                                      have k66 := k59.g0 hg10
                                      have k67 := k60.g0 hg10
                                      have k68 := k61.g0 hg10
                                      have k69 := k62.g0 hg10
                                      have k70 := k63.g0 hg10
                                      have k71 := k64.g0 hg10
                                      have k72 := k65.g0 hg10
                                      refine WL.y rfl (Yld.pure tab_ok rfl) ?_
                                      refine WL.y rfl (Yld.pure tab_ok rfl) ?_
                                      refine WL.y rfl (Yld.pure tab_ok rfl) ?_
                                      refine WL.alloc rfl zero74 (fun g2 w24 hB14 hg11 hl2 => ?_)
                                      rw [a32_zero] at hB14
                                      have gr21 := gr_trans gr20 hg11
                                      have k73 := k66.g0 hg11
                                      have k74 := k67.g0 hg11
                                      have k75 := k68.g0 hg11
                                      have k76 := k69.g0 hg11
                                      have k77 := k70.g0 hg11
                                      have k78 := k71.g0 hg11
                                      have k79 := k72.g0 hg11
                                      refine WL.storeW (vs := (a32 t1370)) tab_ok rfl rfl rfl (all1a (a32_one _) all1n) hB14 rfl rfl (fun w25 hB15 hg12 => ?_)
                                      have gr22 := gr_mod gr21 hg12 (Ge.le (Ge.box hl2) (size_le gr20))
                                      have k80 := k73.go hg12 (Dj.new k66.lt' (Ge.box hl2))
                                      have k81 := k74.go hg12 (Dj.new k67.lt' (Ge.box hl2))
                                      have k82 := k75.go hg12 (Dj.new k68.lt' (Ge.box hl2))
                                      have k83 := k76.go hg12 (Dj.new k69.lt' (Ge.box hl2))
                                      have k84 := k77.go hg12 (k70.new (Ge.box hl2))
                                      have k85 := k78.go hg12 (Dj.new k71.lt' (Ge.box hl2))
                                      have k86 := k79.go hg12 (Dj.new k72.lt' (Ge.box hl2))
                                      refine WL.y rfl (Yld.pure tab_ok rfl) ?_
                                      refine WL.nil (WX.then_normal ?_)
                                      refine WC.seq ?_
                                      refine WC.region ?_
                                      refine WL.y rfl (Yld.pure tab_ok rfl) ?_
                                      refine WL.y rfl (Yld.pure tab_ok rfl) ?_
                                      refine WL.call rfl rfl (W_smithylaw25_name H) ?_
                                      rintro _ _ ⟨rfl, t143, rfl, H⟩
                                      refine WL.call rfl rfl (W_key_Source H) ?_
                                      rintro _ w26 ⟨hg13, t144, rfl, H⟩
                                      have gr23 := gr_trans gr22 hg13
                                      have k87 := k80.g0 hg13
                                      have k88 := k81.g0 hg13
                                      have k89 := k82.g0 hg13
                                      have k90 := k83.g0 hg13
                                      have k91 := k84.g0 hg13
                                      have k92 := k85.g0 hg13
                                      have k93 := k86.g0 hg13
                                      have k94 := hB15.g0 hg13
                                      refine WL.call rfl rfl (W_pcache_Cache_Get k91 k87 k92 k93 H) ?_
                                      rintro _ w27 ⟨hg14, t1450, t1451, rfl, H⟩
                                      have gr24 := gr_trans gr23 hg14
                                      have k95 := k87.g0 hg14
                                      have k96 := k88.g0 hg14
                                      have k97 := k89.g0 hg14
                                      have k98 := k90.g0 hg14
                                      have k99 := k91.g0 hg14
                                      have k100 := k92.g0 hg14
                                      have k101 := k93.g0 hg14
                                      have k102 := k94.g0 hg14
                                      refine WL.y rfl (Yld.pure tab_ok rfl) ?_
                                      refine WL.y rfl (Yld.pure tab_ok rfl) ?_
                                      refine WL.y rfl (Yld.pure tab_ok rfl) ?_
                                      refine WL.alloc rfl zero74 (fun g3 w28 hB16 hg15 hl3 => ?_)
                                      rw [a32_zero] at hB16
                                      have gr25 := gr_trans gr24 hg15
                                      have k103 := k95.g0 hg15
                                      have k104 := k96.g0 hg15
                                      have k105 := k97.g0 hg15
                                      have k106 := k98.g0 hg15
                                      have k107 := k99.g0 hg15
                                      have k108 := k100.g0 hg15
                                      have k109 := k101.g0 hg15
                                      have k110 := k102.g0 hg15
                                      refine WL.storeW (vs := (a32 t1450)) tab_ok rfl rfl rfl (all1a (a32_one _) all1n) hB16 rfl rfl (fun w29 hB17 hg16 => ?_)
                                      have gr26 := gr_mod gr25 hg16 (Ge.le (Ge.box hl3) (size_le gr24))
                                      have k111 := k103.go hg16 (Dj.new k95.lt' (Ge.box hl3))
                                      have k112 := k104.go hg16 (Dj.new k96.lt' (Ge.box hl3))
                                      have k113 := k105.go hg16 (Dj.new k97.lt' (Ge.box hl3))
                                      have k114 := k106.go hg16 (Dj.new k98.lt' (Ge.box hl3))
                                      have k115 := k107.go hg16 (k99.new (Ge.box hl3))
                                      have k116 := k108.go hg16 (Dj.new k100.lt' (Ge.box hl3))
                                      have k117 := k109.go hg16 (Dj.new k101.lt' (Ge.box hl3))
                                      have k118 := k110.go hg16 (Dj.new k102.lt' (Ge.box hl3))
                                      refine WL.y rfl (Yld.pure tab_ok rfl) ?_
                                      refine WL.nil (WX.then_normal ?_)
                                      refine WC.seq ?_
                                      refine WC.seq ?_
                                      refine WC.region ?_
                                      refine WL.y rfl (Yld.pure tab_ok rfl) ?_
                                      refine WL.y rfl (Yld.pure tab_ok rfl) ?_
                                      obtain ⟨h16, H⟩ := H
                                      refine WL.y rfl (Yld.aaddr tab_ok rfl rfl rfl h16.1 h16.2) ?_
                                      obtain ⟨h17, H⟩ := H
                                      refine WL.y rfl (Yld.bload tab_ok k113 rfl rfl (vi_getO _ _ (ltN h16 h17))) ?_
                                      refine WL.y rfl (Yld.pure tab_ok rfl) ?_
                                      refine WL.y rfl (Yld.bneq Tryd.underlying4 rfl rfl) ?_
                                      refine WL.y rfl (Yld.pure tab_ok rfl) ?_
                                      refine WL.midF 4 (fun L' w' => ∃ q12 : Bool, L' = [(158, .bool q12), (6, .pointer (some ⟨g_t490, 0, none⟩)), (8, .pointer (some ⟨g1, 0, none⟩)), (17, .pointer (some ⟨g_t1080, 0, none⟩)), (19, .int .i64 n), (20, .int .i64 k_3), (21, .pointer (some ⟨g2, 0, none⟩)), (22, .bool t1371), (23, .pointer (some ⟨g3, 0, none⟩))] ∧ ((!(t1371 == (decide ((0 : Int) ≤ (last02.getD k_3.toNat 0))))) || (!(t1451 == t1371))) = q12 ∧ w29 = w') ?_ (fun hQ => ?_)
                                      · rintro _ _ ⟨q12, rfl, rfl, rfl⟩
                                        refine WL.nil (WX.then_normal ?_)
                                        refine WC.cond rfl (fun b13 => ?_) (fun b13 => ?_)
                                        · replace H := H.1 (b13)
                                          refine WC.seq ?_
                                          refine WC.region ?_
                                          refine WL.y rfl (Yld.pure tab_ok rfl) ?_
                                          refine WL.nil (WX.then_normal ?_)
                                          refine WC.ret (WX.then_ret (WX.block_ret (WX.then_ret (WX.then_ret (WX.block_ret (WX.then_ret ?_))))))
                                          exact WX.ret1 rfl rfl ⟨gr26, false, rfl, H⟩
                                        · replace H := H.2 (b13)
                                          refine WC.skip (WX.then_normal ?_)
                                          refine WC.seq ?_
                                          refine WC.region ?_
                                          refine WL.y rfl (Yld.pure tab_ok rfl) ?_
                                          refine WL.nil (WX.then_normal ?_)
                                          refine WC.cond rfl (fun b14 => ?_) (fun b14 => ?_)
                                          · replace H := H.1 (b14)
                                            refine WC.seq ?_
                                            refine WC.region ?_
                                            refine WL.y rfl (Yld.pure tab_ok rfl) ?_
                                            obtain ⟨h18, H⟩ := H
                                            refine WL.y rfl (Yld.add rfl rfl h18) ?_
                                            refine WL.y rfl (Yld.pure tab_ok rfl) ?_
                                            refine WL.nil (WX.then_normal ?_)
                                            refine WC.seq ?_
                                            refine WC.region ?_
                                            refine WL.y rfl (Yld.pure tab_ok rfl) ?_
                                            obtain ⟨h19, H⟩ := H
                                            refine WL.y rfl (Yld.aaddr tab_ok rfl rfl rfl h19.1 h19.2) ?_
                                            obtain ⟨h20, H⟩ := H
                                            refine WL.y rfl (Yld.bload tab_ok k113 rfl rfl (vi_getO _ _ (ltN h19 h20))) ?_
                                            refine WL.call rfl rfl (W_smithylaw25_name H) ?_
                                            rintro _ _ ⟨rfl, t165, rfl, H⟩
                                            refine WL.call rfl rfl (W_key_Source H) ?_
                                            rintro _ w30 ⟨hg17, t166, rfl, H⟩
                                            have gr27 := gr_trans gr26 hg17
                                            have k119 := k111.g0 hg17
                                            have k120 := k112.g0 hg17
                                            have k121 := k113.g0 hg17
                                            have k122 := k114.g0 hg17
                                            have k123 := k115.g0 hg17
                                            have k124 := k116.g0 hg17
                                            have k125 := k117.g0 hg17
                                            have k126 := k118.g0 hg17
                                            have k127 := hB17.g0 hg17
                                            refine WL.alloc rfl zero74 (fun g4 w31 hB18 hg18 hl4 => ?_)
                                            rw [a32_zero] at hB18
                                            have gr28 := gr_trans gr27 hg18
                                            have k128 := k119.g0 hg18
                                            have k129 := k120.g0 hg18
                                            have k130 := k121.g0 hg18
                                            have k131 := k122.g0 hg18
                                            have k132 := k123.g0 hg18
                                            have k133 := k124.g0 hg18
                                            have k134 := k125.g0 hg18
                                            have k135 := k126.g0 hg18
                                            have k136 := k127.g0 hg18
                                            refine WL.storeW (vs := (a32 t166)) tab_ok rfl rfl rfl (all1a (a32_one _) all1n) hB18 rfl rfl (fun w32 hB19 hg19 => ?_)
                                            have gr29 := gr_mod gr28 hg19 (Ge.le (Ge.box hl4) (size_le gr27))
                                            have k137 := k128.go hg19 (Dj.new k119.lt' (Ge.box hl4))
                                            have k138 := k129.go hg19 (Dj.new k120.lt' (Ge.box hl4))
                                            have k139 := k130.go hg19 (Dj.new k121.lt' (Ge.box hl4))
                                            have k140 := k131.go hg19 (Dj.new k122.lt' (Ge.box hl4))
                                            have k141 := k132.go hg19 (k123.new (Ge.box hl4))
                                            have k142 := k133.go hg19 (Dj.new k124.lt' (Ge.box hl4))
                                            have k143 := k134.go hg19 (Dj.new k125.lt' (Ge.box hl4))
                                            have k144 := k135.go hg19 (Dj.new k126.lt' (Ge.box hl4))
                                            have k145 := k136.go hg19 (Dj.new k127.lt' (Ge.box hl4))
                                            refine WL.nil (WX.then_normal ?_)
                                            refine WC.seq ?_
                                            refine WC.region ?_
                                            refine WL.y rfl (Yld.bagg (vs := (a32 t1370)) tab_ok k144 rfl rfl rfl rfl) ?_
                                            refine WL.y rfl (Yld.bagg (vs := (a32 t166)) tab_ok hB19 rfl rfl rfl rfl) ?_
                                            refine WL.call rfl rfl (W_smithyref17_SameSum H) ?_
                                            rintro _ w33 ⟨hg20, t169, rfl, H⟩
                                            have gr30 := gr_trans gr29 hg20
                                            have k146 := k137.g0 hg20
                                            have k147 := k138.g0 hg20
                                            have k148 := k139.g0 hg20
                                            have k149 := k140.g0 hg20
                                            have k150 := k141.g0 hg20
                                            have k151 := k142.g0 hg20
                                            have k152 := k143.g0 hg20
                                            have k153 := k145.g0 hg20
                                            have k154 := hB19.g0 hg20
                                            refine WL.y rfl (Yld.pure tab_ok rfl) ?_
                                            refine WL.y rfl (Yld.pure tab_ok rfl) ?_
                                            obtain ⟨J3, H, hJ3⟩ := H
                                            refine WL.midF 5 (fun L' w' => ∃ q13 : Bool, L' = [(176, .bool q13), (6, .pointer (some ⟨g_t490, 0, none⟩)), (8, .pointer (some ⟨g1, 0, none⟩)), (17, .pointer (some ⟨g_t1080, 0, none⟩)), (19, .int .i64 (n + (1 : Int))), (20, .int .i64 k_3)] ∧ J3 q13 ∧ w.grownBy w' none ∧ Bl w' g_t380 124 [.map (some g_t380_files), .int .i64 t380_22, .int .i64 t380_23, .bool t380_24] ∧ Bl w' g_t490 155 [.pointer (some ⟨g_t380, 0, none⟩), vs t4901, .map (some g_t490_l)] ∧ Bl w' g1 88 (last02.map vi) ∧ MapB vA okA vA w' g_t490_l t4902 ∧ PoolO pe128 w' g_t380_files hs_t380_6 t380_21 none ∧ MapB vA okA vA w' g_t1080_l t1080_l ∧ Bl w' g_t1080 155 [.pointer (some ⟨g_t380, 0, none⟩), vs t1080_p, .map (some g_t1080_l)]) ?_ (fun hQ => ?_)
                                            · clear H
                                              rintro _ w34 ⟨q13, rfl, H, gr31, k155, k156, k157, k158, k159, k160, k161⟩
                                              replace H := hJ3 q13 H
                                              refine WL.nil (WX.then_normal ?_)
                                              refine WC.cond rfl (fun b15 => ?_) (fun b15 => ?_)
                                              · replace H := H.1 (b15)
                                                refine WC.seq ?_
                                                refine WC.region ?_
                                                refine WL.y rfl (Yld.pure tab_ok rfl) ?_
                                                refine WL.nil (WX.then_normal ?_)
                                                refine WC.ret (WX.block_ret (WX.then_ret (WX.then_ret (WX.block_ret (WX.then_ret ?_)))))
                                                exact WX.ret1 rfl rfl ⟨gr31, false, rfl, H⟩
                                              · replace H := H.2 (b15)
                                                refine WC.skip (WX.block_normal ?_)
                                                exact WX.weaken (by repeat (first | exact Sub.nil | refine Sub.cons rfl ?_)) (hQ _ _ ⟨n + (1 : Int), rfl, H, gr31, k155, k156, k157, k158, k159, k160, k161, dj43, dj44, dj45, dj46, dj47, dj48, dj49, dj50, dj51, dj52, dj53, dj54, dj55, dj56, dj57, dj58, dj59, dj60, dj61, dj62, dj63, hi9⟩)
                                            · clear hJ3
                                              rcases Bool.eq_false_or_eq_true (!t169) with b16 | b16
                                              · replace H := H.1 b16
                                                refine WL.gno rfl rfl (okb b16) rfl ?_
                                                refine WL.gno rfl rfl (okb b16) rfl ?_
                                                refine WL.gno rfl rfl (okb b16) rfl ?_
                                                refine WL.gno rfl rfl (okb b16) rfl ?_
                                                refine WL.y rfl (Yld.pickT (okb b16) rfl) ?_
                                                exact WL.weaken (by repeat (first | exact Sub.nil | refine Sub.cons rfl ?_)) (hQ _ _ ⟨true, rfl, H, gr30, k146, k147, k148, k149, k150, k151, k152⟩)
                                              · replace H := H.2 b16
                                                refine WL.gyes rfl rfl (okb b16) rfl (Yld.bagg (vs := (a32 t1450)) tab_ok k153 rfl rfl rfl rfl) ?_
                                                refine WL.gyes rfl rfl (okb b16) rfl (Yld.bagg (vs := (a32 t166)) tab_ok k154 rfl rfl rfl rfl) ?_
                                                refine WL.callw (wants_some rfl rfl (okb b16)) rfl rfl (W_smithyref17_SameSum H) ?_
                                                rintro _ w35 ⟨hg21, t174, rfl, H⟩
                                                have gr32 := gr_trans gr30 hg21
                                                have k162 := k146.g0 hg21
                                                have k163 := k147.g0 hg21
                                                have k164 := k148.g0 hg21
                                                have k165 := k149.g0 hg21
                                                have k166 := k150.g0 hg21
                                                have k167 := k151.g0 hg21
                                                have k168 := k152.g0 hg21
                                                refine WL.gyes rfl rfl (okb b16) rfl (Yld.pure tab_ok rfl) ?_
                                                refine WL.y rfl (Yld.pickF (okb b16) rfl) ?_
                                                exact WL.weaken (by repeat (first | exact Sub.nil | refine Sub.cons rfl ?_)) (hQ _ _ ⟨!t174, rfl, H, gr32, k162, k163, k164, k165, k166, k167, k168⟩)
                                          · replace H := H.2 (b14)
                                            refine WC.skip (WX.block_normal ?_)
                                            exact WX.weaken (by repeat (first | exact Sub.nil | refine Sub.cons rfl ?_)) (hQ _ _ ⟨n, rfl, H, gr26, k111, k112, k113, k114, k115, k116, k117, dj43, dj44, dj45, dj46, dj47, dj48, dj49, dj50, dj51, dj52, dj53, dj54, dj55, dj56, dj57, dj58, dj59, dj60, dj61, dj62, dj63, hi9⟩)
                                      · clear H
                                        rcases Bool.eq_false_or_eq_true (!(t1371 == (decide ((0 : Int) ≤ (last02.getD k_3.toNat 0))))) with b17 | b17
                                        · refine WL.gno rfl rfl (okb b17) rfl ?_
                                          refine WL.gno rfl rfl (okb b17) rfl ?_
                                          refine WL.gno rfl rfl (okb b17) rfl ?_
                                          refine WL.y rfl (Yld.pickT (okb b17) rfl) ?_
                                          exact WL.weaken (by repeat (first | exact Sub.nil | refine Sub.cons rfl ?_)) (hQ _ _ ⟨true, rfl, by rw [b17] <;> rfl, rfl⟩)
                                        · refine WL.gyes rfl rfl (okb b17) rfl (Yld.pure tab_ok rfl) ?_
                                          refine WL.gyes rfl rfl (okb b17) rfl (Yld.pure tab_ok rfl) ?_
                                          refine WL.gyes rfl rfl (okb b17) rfl (Yld.bneq Tryd.underlying4 rfl rfl) ?_
                                          refine WL.y rfl (Yld.pickF (okb b17) rfl) ?_
                                          exact WL.weaken (by repeat (first | exact Sub.nil | refine Sub.cons rfl ?_)) (hQ _ _ ⟨!(t1451 == t1371), rfl, by rw [b17] <;> rfl, rfl⟩)
                                  · replace H := H.2 (of_decide_eq_false b12)
                                    refine WC.exit (WX.then_exit (WX.then_exit (WX.block_same (WX.then_normal ?_))))
                                    refine WC.seq ?_
                                    refine WC.region ?_
                                    refine WL.y rfl (Yld.pure tab_ok rfl) ?_
                                    refine WL.call rfl rfl (W_pcache_Cache_Len k49 k45 k48 k46 H) ?_
                                    rintro _ _ ⟨rfl, t178, rfl, H⟩
                                    refine WL.y rfl (Yld.pure tab_ok rfl) ?_
                                    refine WL.y rfl (Yld.pure tab_ok rfl) ?_
                                    refine WL.y rfl (Yld.pure tab_ok rfl) ?_
                                    obtain ⟨J4, H, hJ4⟩ := H
                                    refine WL.midF 5 (fun L' w' => ∃ q14 : Bool, L' = [(186, .bool q14)] ∧ J4 q14 ∧ w20 = w') ?_ (fun hQ => ?_)
                                    · clear H
                                      rintro _ _ ⟨q14, rfl, H, rfl⟩
                                      replace H := hJ4 q14 H
                                      refine WL.y rfl (Yld.pure tab_ok rfl) ?_
                                      refine WL.y rfl (Yld.pure tab_ok rfl) ?_
                                      refine WL.y rfl (Yld.pure tab_ok rfl) ?_
                                      refine WL.nil (WX.then_normal ?_)
                                      refine WC.ret ?_
                                      exact WX.ret1 rfl rfl ⟨gr17, bif q14 then true else false, rfl, H⟩
                                    · clear hJ4
                                      rcases Bool.eq_false_or_eq_true (decide (t178 = n)) with b18 | b18
                                      · replace H := H.1 b18
                                        refine WL.gyes rfl rfl (okb b18) rfl (Yld.pure tab_ok rfl) ?_
                                        refine WL.callw (wants_some rfl rfl (okb b18)) rfl rfl (W_pcache_Cache_Len k49 k45 k50 k51 H) ?_
                                        rintro _ _ ⟨rfl, t183, rfl, H⟩
                                        refine WL.gyes rfl rfl (okb b18) rfl (Yld.pure tab_ok rfl) ?_
                                        refine WL.gyes rfl rfl (okb b18) rfl (Yld.pure tab_ok rfl) ?_
                                        refine WL.y rfl (Yld.pickT (okb b18) rfl) ?_
                                        exact WL.weaken (by repeat (first | exact Sub.nil | refine Sub.cons rfl ?_)) (hQ _ _ ⟨decide (t183 = n), rfl, H, rfl⟩)
                                      · replace H := H.2 b18
                                        refine WL.gno rfl rfl (okb b18) rfl ?_
                                        refine WL.gno rfl rfl (okb b18) rfl ?_
                                        refine WL.gno rfl rfl (okb b18) rfl ?_
                                        refine WL.gno rfl rfl (okb b18) rfl ?_
                                        refine WL.y rfl (Yld.pickF (okb b18) rfl) ?_
                                        exact WL.weaken (by repeat (first | exact Sub.nil | refine Sub.cons rfl ?_)) (hQ _ _ ⟨false, rfl, H, rfl⟩)
                              · clear H
                                rcases Bool.eq_false_or_eq_true ((!decide (t1022 = Er.ok)) || (!decide (t10812 = Er.ok))) with b19 | b19
                                · refine WL.gno rfl rfl (okb b19) rfl ?_
                                  refine WL.gno rfl rfl (okb b19) rfl ?_
                                  refine WL.gno rfl rfl (okb b19) rfl ?_
                                  refine WL.gno rfl rfl (okb b19) rfl ?_
                                  refine WL.gno rfl rfl (okb b19) rfl ?_
                                  refine WL.y rfl (Yld.pickT (okb b19) rfl) ?_
                                  exact WL.weaken (by repeat (first | exact Sub.nil | refine Sub.cons rfl ?_)) (hQ _ _ ⟨true, rfl, by rw [b19] <;> rfl, rfl⟩)
                                · refine WL.gyes rfl rfl (okb b19) rfl (Yld.pure tab_ok rfl) ?_
                                  refine WL.gyes rfl rfl (okb b19) rfl (Yld.pure tab_ok rfl) ?_
                                  refine WL.gyes rfl rfl (okb b19) rfl (Yld.pure tab_ok rfl) ?_
                                  refine WL.gyes rfl rfl (okb b19) rfl (Yld.mul rfl rfl (h14 b19)) ?_
                                  refine WL.gyes rfl rfl (okb b19) rfl (Yld.pure tab_ok rfl) ?_
                                  refine WL.y rfl (Yld.pickF (okb b19) rfl) ?_
                                  exact WL.weaken (by repeat (first | exact Sub.nil | refine Sub.cons rfl ?_)) (hQ _ _ ⟨!decide ((t1020.length : Int) = ((195 : Int) * changes)), rfl, by rw [b19] <;> rfl, rfl⟩)
                            · clear H
                              rcases Bool.eq_false_or_eq_true ((!decide (t1022 = Er.ok)) || (!decide (t10812 = Er.ok))) with b20 | b20
                              · refine WL.gno rfl rfl (okb b20) rfl ?_
                                refine WL.gno rfl rfl (okb b20) rfl ?_
                                refine WL.y rfl (Yld.pickT (okb b20) rfl) ?_
                                exact WL.weaken (by repeat (first | exact Sub.nil | refine Sub.cons rfl ?_)) (hQ _ _ ⟨true, rfl, by first | (rw [b20] <;> rfl) | simp [b20], rfl⟩)
                              · refine WL.gyes rfl rfl (okb b20) rfl (Yld.pure tab_ok rfl) ?_
                                refine WL.gyes rfl rfl (okb b20) rfl (Yld.peqnil Tryd.underlying85 rfl rfl) ?_
                                refine WL.y rfl (Yld.pickF (okb b20) rfl) ?_
                                exact WL.weaken (by repeat (first | exact Sub.nil | refine Sub.cons rfl ?_)) (hQ _ _ ⟨false, rfl, by first | (rw [b20] <;> rfl) | simp [b20], rfl⟩)
                          · clear H
                            rcases Bool.eq_false_or_eq_true (!decide (t1022 = Er.ok)) with b21 | b21
                            · refine WL.gno rfl rfl (okb b21) rfl ?_
                              refine WL.gno rfl rfl (okb b21) rfl ?_
                              refine WL.y rfl (Yld.pickT (okb b21) rfl) ?_
                              exact WL.weaken (by repeat (first | exact Sub.nil | refine Sub.cons rfl ?_)) (hQ _ _ ⟨true, rfl, by rw [b21] <;> rfl, rfl⟩)
                            · refine WL.gyes rfl rfl (okb b21) rfl (Yld.pure tab_ok rfl) ?_
                              refine WL.gyes rfl rfl (okb b21) rfl (Yld.errneq Tryd.underlying29 ht10812 rfl) ?_
                              refine WL.y rfl (Yld.pickF (okb b21) rfl) ?_
                              exact WL.weaken (by repeat (first | exact Sub.nil | refine Sub.cons rfl ?_)) (hQ _ _ ⟨!decide (t10812 = Er.ok), rfl, by rw [b21] <;> rfl, rfl⟩)
                · clear H
                  refine WL.gyes rfl rfl (rfl) rfl (Yld.pure tab_ok rfl) ?_
                  refine WL.gyes rfl rfl (rfl) rfl (Yld.errneq Tryd.underlying29 ht4912 rfl) ?_
                  refine WL.y rfl (Yld.pickF (rfl) rfl) ?_
                  exact WL.weaken (by repeat (first | exact Sub.nil | refine Sub.cons rfl ?_)) (hQ _ _ ⟨!decide (t4912 = Er.ok), rfl, rfl, rfl⟩)
          · clear H
            refine WL.gyes rfl rfl (rfl) rfl (Yld.pure tab_ok rfl) ?_
            refine WL.gyes rfl rfl (rfl) rfl (Yld.errneq Tryd.underlying29 ht3812 rfl) ?_
            refine WL.y rfl (Yld.pickF (rfl) rfl) ?_
            exact WL.weaken (by repeat (first | exact Sub.nil | refine Sub.cons rfl ?_)) (hQ _ _ ⟨!decide (t3812 = Er.ok), rfl, rfl, rfl⟩)
    · clear H
      rcases Bool.eq_false_or_eq_true (decide ((30 : Int) < (l.length : Int))) with b22 | b22
      · refine WL.gno rfl rfl (okb b22) rfl ?_
        refine WL.gno rfl rfl (okb b22) rfl ?_
        refine WL.y rfl (Yld.pickT (okb b22) rfl) ?_
        exact WL.weaken (by repeat (first | exact Sub.nil | refine Sub.cons rfl ?_)) (hQ _ _ ⟨true, rfl, by rw [b22] <;> rfl, rfl⟩)
      · refine WL.gyes rfl rfl (okb b22) rfl (Yld.pure tab_ok rfl) ?_
        refine WL.gyes rfl rfl (okb b22) rfl (Yld.pure tab_ok rfl) ?_
        refine WL.y rfl (Yld.pickF (okb b22) rfl) ?_
        exact WL.weaken (by repeat (first | exact Sub.nil | refine Sub.cons rfl ?_)) (hQ _ _ ⟨!ok, rfl, by rw [b22] <;> rfl, rfl⟩)

end Go.Proofs.YtlonpmajnglmoaaDoor

 /- The chapter's digest is the program's: plain. -/
namespace Go.Proofs.YtlonpmajnglmoaaDoor
open Go Go.RowKit
end Go.Proofs.YtlonpmajnglmoaaDoor


 /- The digests of the chapter: plain. -/
namespace Go.Proofs.YtlonpmajnglmoaaDoor
open Go Go.RowKit
theorem hex_M {s : List UInt8} {K : List UInt8 → Prop} (hl : s.length = 32) (h : K (hexS s)) : M_smithyref1_Hex s K := by
  refine ⟨by omega, fun out i => 0 ≤ i ∧ i ≤ 32 ∧ out = hexS (s.take i.toNat), fun _ i => 32 - i.toNat, ⟨by omega, by omega, rfl⟩, fun out i ⟨a0, a1, a2⟩ => ⟨fun hlt => ?_, fun hge => ?_⟩⟩
  · have hs := shr_4 (s.getD i.toNat 0)
    have ha := and_15 (s.getD i.toNat 0)
    have ho : out.length ≤ 64 := by rw [a2, hexS_len, List.length_take]; omega
    refine ⟨by omega, by simp only [List.length_cons, List.length_nil]; omega, by omega, by simp only [List.length_cons, List.length_nil]; omega, by simp only [List.length_cons, List.length_nil]; omega, by simp only [In]; omega, ⟨by omega, by omega, ?_⟩, by dsimp only; omega⟩
    rw [show (i + 1).toNat = i.toNat + 1 by omega, hexS_take s i.toNat (by omega), ← a2]
    rfl
  · rw [a2, show i.toNat = 32 by omega, List.take_of_length_le (by omega)]
    exact h
theorem text_M {s : List UInt8} {K : List UInt8 → Prop} (hl : s.length = 32) (h : K (hexS s)) : M_sha_Text s K := by
  intro t ht he
  have : t = s := List.ext_getElem (by omega) fun i h1 h2 => by
    have := he i (by omega)
    simpa [List.getD, h1, h2] using this
  rw [this]; exact h
theorem sameSum_M {a b : List UInt8} {K : Bool → Prop} (ha : a.length = 32) (hb : b.length = 32) (h : K (decide (hexS a = hexS b))) : M_smithyref17_SameSum a b K := hex_M ha (hex_M hb h)
end Go.Proofs.YtlonpmajnglmoaaDoor


 namespace Go.Proofs.YtlonpmajnglmoaaDoor
open Go Go.RowKit
attribute [local irreducible] WL WC WX WQ WK Yld Eff Ef0 Fn
/-! a digest's digits are parsed as_ it -/
def pairV (x y : UInt8) : Option UInt8 := match digV x, digV y with
  | some a, some b => some (u8v (bits .or .u8 (shlV .u8 (a : Int) 4) (b : Int)))
  | _, _ => none
theorem pair_hex (b : UInt8) : pairV ((hexB b).getD 0 0) ((hexB b).getD 1 0) = some b := by
  have h : (List.range 256).all (fun n => pairV ((hexB (UInt8.ofNat n)).getD 0 0) ((hexB (UInt8.ofNat n)).getD 1 0) == some (UInt8.ofNat n)) = true := by kernel_rfl
  have := List.all_eq_true.mp h b.toNat (List.mem_range.mpr b.toNat_lt)
  have e : UInt8.ofNat b.toNat = b := UInt8.ofNat_toNat
  rw [e] at this
  simpa using this
theorem parN_step (s : List UInt8) (n : Nat) : parN s (n + 1) = match parN s n, pairV (s.getD (2 * n) 0) (s.getD (2 * n + 1) 0) with
    | some l, some x => some (l ++ [x])
    | _, _ => none := by
  rw [parN, pairV]
  cases parN s n <;> cases digV (s.getD (2 * n) 0) <;> cases digV (s.getD (2 * n + 1) 0) <;> rfl
theorem hexS_at : ∀ (l : List UInt8) (i : Nat), i < l.length → (hexS l).getD (2 * i) 0 = (hexB (l.getD i 0)).getD 0 0 ∧ (hexS l).getD (2 * i + 1) 0 = (hexB (l.getD i 0)).getD 1 0
  | [], i, h => by simp at h
  | b :: l, 0, _ => ⟨rfl, rfl⟩
  | b :: l, i + 1, h => by
    have := hexS_at l i (by simpa using h)
    have e1 : (hexS (b :: l)).getD (2 * (i + 1)) 0 = (hexS l).getD (2 * i) 0 := rfl
    have e2 : (hexS (b :: l)).getD (2 * (i + 1) + 1) 0 = (hexS l).getD (2 * i + 1) 0 := rfl
    rw [e1, e2]
    exact this
theorem parN_hex (l : List UInt8) : ∀ n, n ≤ l.length → parN (hexS l) n = some (l.take n)
  | 0, _ => rfl
  | n + 1, h => by
    have ih := parN_hex l n (by omega)
    have hp := hexS_at l n (by omega)
    rw [parN_step, ih, hp.1, hp.2, pair_hex]
    show some (l.take n ++ [l.getD n 0]) = _
    rw [List.take_succ_eq_append_getElem (by omega)]
    simp [List.getD, show n < l.length by omega]
theorem parS_hex (l : List UInt8) (h : l.length = 32) : parS (hexS l) = some l := by
  unfold parS
  rw [if_pos (by rw [hexS_len]; omega), parN_hex l 32 (by omega), List.take_of_length_le (by omega)]
/-- the state that has taken bytes in -/
def StB (w : World) (g : Nat) (b : List UInt8) : Prop := St w g (wrS h0s [] b).1 (wrS h0s [] b).2 (b.length : Int)
theorem StB.keep {w w' : World} {g : Nat} {b : List UInt8} {row : Option Nat} (h : StB w g b) (hg : w.grownBy w' row) (hr : row ≠ some g) (hr2 : ∀ q, row = some q → w.heap.size ≤ q) : StB w' g b := by
  obtain ⟨q1, A', c', q2, q3, q4⟩ := h
  refine ⟨q1, A', c', q2.keep hg hr, q3.keep' hg (fun hne q hq e => ?_), q4⟩
  have := q3.lt hne e
  have := hr2 q hq
  omega
theorem StB.grown {w w' : World} {g : Nat} {b : List UInt8} (h : StB w g b) (hg : w.grownBy w' none) : StB w' g b := h.keep hg (by simp) (by simp)
end Go.Proofs.YtlonpmajnglmoaaDoor

 /- Paths, plainly: cut at slashes, fair parts, what is valid. -/
namespace Go.Proofs.YtlonpmajnglmoaaDoor
open Go Go.RowKit
def cuts : List UInt8 → List (List UInt8)
  | [] => [[]]
  | c :: s => if c = 47 then [] :: cuts s else match cuts s with
    | [] => [[c]]
    | h :: t => (c :: h) :: t
theorem cuts_ne (s : List UInt8) : cuts s ≠ [] := by
  cases s with
  | nil => simp [cuts]
  | cons c s =>
    unfold cuts
    split
    · simp
    · split <;> simp
theorem split_cuts : ∀ s : List UInt8, Lib.split s [47] = cuts s
  | [] => by simp [Lib.split, Lib.count_miss, Lib.index, Lib.splitK, cuts]
  | c :: s => by
    have ih := split_cuts s
    unfold Lib.split at ih ⊢
    by_cases hc : c = 47
    · subst hc
      have hix : Lib.index (47 :: s) [47] = 0 := by rw [Lib.index]; simp [List.isPrefixOf]
      rw [Lib.count_cons_eq, Nat.add_comm, Lib.splitK, if_neg (by rw [hix]; decide), hix]
      simp only [cuts, if_true]
      rw [← ih]
      simp
    · have hp : ([47] : List UInt8).isPrefixOf (c :: s) = false := by simp [List.isPrefixOf, Ne.symm hc]
      have hix : Lib.index (c :: s) [47] = if Lib.index s [47] == -1 then -1 else Lib.index s [47] + 1 := by rw [Lib.index, hp]; simp
      rw [Lib.count_cons_ne c 47 s hc]
      simp only [cuts, if_neg hc]
      rw [← ih]
      cases hk : Lib.count s [47] with
      | zero => simp [Lib.splitK]
      | succ k =>
        have hne : Lib.index s [47] ≠ -1 := fun e => by rw [Lib.count_miss e] at hk; cases hk
        have hge := Lib.index_ge s [47]
        obtain ⟨j, hj⟩ : ∃ j : Nat, Lib.index s [47] = j := ⟨(Lib.index s [47]).toNat, by omega⟩
        have hix' : Lib.index (c :: s) [47] = ((j + 1 : Nat) : Int) := by rw [hix, if_neg (fun e => hne (beq_iff_eq.1 e)), hj]; omega
        rw [Lib.splitK, Lib.splitK, if_neg (fun e => hne (beq_iff_eq.1 e)), if_neg (by rw [hix']; simp; omega), hix', hj]
        simp
theorem splitL_cuts (s : List UInt8) : splitL [47] s = cuts s := split_cuts s
theorem cuts_length (s : List UInt8) : (cuts s).length ≤ s.length + 1 := by
  induction s with
  | nil => simp [cuts]
  | cons c s ih =>
    unfold cuts
    split
    · simp; omega
    · split
      · simp
      · rename_i h t e; rw [e] at ih; simp at ih ⊢; omega
theorem split_M {s : List UInt8} {K : List (List UInt8) → Prop} (hs : s.length ≤ 4000000000) (h : K (cuts s)) : M_strings_Split s [47] K :=
  ⟨by omega, by simp, by rw [splitL_cuts]; exact h⟩
/-- a byte that may be in a part -/
def letB (c : UInt8) : Bool := (((decide (48 ≤ c.toNat) && decide (c.toNat ≤ 57)) || (decide (65 ≤ c.toNat) && decide (c.toNat ≤ 90))) || (decide (97 ≤ c.toNat) && decide (c.toNat ≤ 122))) || ([33, 35, 37, 43, 44, 45, 46, 61, 64, 95, 126] : List UInt8).contains c
theorem indexByte_contains (l : List UInt8) (c : UInt8) : decide (0 ≤ Lib.indexByte l c) = l.contains c := by
  induction l with
  | nil => simp [Lib.indexByte]
  | cons b l ih =>
    unfold Lib.indexByte
    by_cases h : b = c
    · subst h; simp
    · have hge := Lib.indexByte_ge l c
      rw [if_neg (by simpa using h)]
      have hc : (b :: l).contains c = l.contains c := by simp [Ne.symm h]
      rw [hc, ← ih]
      by_cases h1 : Lib.indexByte l c = -1
      · rw [if_pos (by simpa using h1), h1]
      · rw [if_neg (by simpa using h1), decide_eq_decide]; omega
theorem letter_M {c : UInt8} {K : Bool → Prop} (h : K (letB c)) : M_path_letter (c.toNat : Int) K := by
  have e : ((((decide ((48 : Int) ≤ (c.toNat : Int))) && (decide ((c.toNat : Int) ≤ (57 : Int)))) || ((decide ((65 : Int) ≤ (c.toNat : Int))) && (decide ((c.toNat : Int) ≤ (90 : Int))))) || ((decide ((97 : Int) ≤ (c.toNat : Int))) && (decide ((c.toNat : Int) ≤ (122 : Int))))) = (((decide (48 ≤ c.toNat) && decide (c.toNat ≤ 57)) || (decide (65 ≤ c.toNat) && decide (c.toNat ≤ 90))) || (decide (97 ≤ c.toNat) && decide (c.toNat ≤ 122))) := by
    have d : ∀ a b : Nat, decide ((a : Int) ≤ (b : Int)) = decide (a ≤ b) := fun a b => by rw [decide_eq_decide]; omega
    have d1 : decide ((48 : Int) ≤ (c.toNat : Int)) = decide (48 ≤ c.toNat) := d 48 c.toNat
    have d2 : decide ((c.toNat : Int) ≤ (57 : Int)) = decide (c.toNat ≤ 57) := d c.toNat 57
    have d3 : decide ((65 : Int) ≤ (c.toNat : Int)) = decide (65 ≤ c.toNat) := d 65 c.toNat
    have d4 : decide ((c.toNat : Int) ≤ (90 : Int)) = decide (c.toNat ≤ 90) := d c.toNat 90
    have d5 : decide ((97 : Int) ≤ (c.toNat : Int)) = decide (97 ≤ c.toNat) := d 97 c.toNat
    have d6 : decide ((c.toNat : Int) ≤ (122 : Int)) = decide (c.toNat ≤ 122) := d c.toNat 122
    rw [d1, d2, d3, d4, d5, d6]
  unfold M_path_letter
  rw [e]
  unfold letB at h
  refine ⟨fun h1 => ?_, fun h1 => ?_⟩
  · rw [h1] at h; exact h
  · rw [h1, Bool.false_or] at h
    unfold M_strings_IndexByte
    rw [show ((c.toNat : Int).toNat.toUInt8) = c by simp]
    show K (decide (0 ≤ Lib.indexByte _ _))
    rw [indexByte_contains]
    exact h
def dotsB (s : List UInt8) : Bool := (decide (s = []) || decide (s = [46])) || decide (s = [46, 46])
def fairB (s : List UInt8) : Bool := s.all letB && !dotsB s
theorem take_all_succ {p : UInt8 → Bool} {s : List UInt8} {k : Nat} (h : (s.take k).all p = true) (hk : k < s.length) (hp : p (s.getD k 0) = true) : (s.take (k + 1)).all p = true := by
  rw [List.take_succ_eq_append_getElem hk, List.all_append, h]
  simpa [List.getD, hk] using hp
theorem fair_M {s : List UInt8} {K : Bool → Prop} (hs : s.length ≤ 4000000000) (h : K (fairB s)) : M_path_fair s K := by
  unfold M_path_fair
  refine ⟨fun i => ∃ k : Nat, i = k ∧ k ≤ s.length ∧ (s.take k).all letB = true, fun i => (s.length - i.toNat), ⟨0, rfl, by omega, by simp⟩, ?_⟩
  rintro _ ⟨k, rfl, hk, hall⟩
  refine ⟨fun hlt => ⟨by omega, letter_M ?_⟩, fun hge => ?_⟩
  · have hk' : k < s.length := by omega
    rw [Int.toNat_natCast]
    cases hl : letB (s.getD k 0) with
    | false =>
      refine ⟨fun _ => ?_, fun h1 => by simp at h1⟩
      have : s.all letB = false := by
        rw [List.all_eq_false]
        exact ⟨s.getD k 0, by simp [List.getD, hk'], by rw [hl]; simp⟩
      unfold fairB at h
      rw [this] at h
      exact h
    | true => exact ⟨fun h1 => by simp at h1, fun _ => ⟨by simp only [In]; omega, ⟨k + 1, by omega, by omega, take_all_succ hall hk' hl⟩, by dsimp only; omega⟩⟩
  · obtain rfl : k = s.length := by omega
    rw [List.take_length] at hall
    unfold fairB at h
    rw [hall, Bool.true_and] at h
    exact h
def validB (p : List UInt8) : Bool := decide (p.length ≤ 200) && (cuts p).all fairB
theorem cuts_part {s x : List UInt8} (h : x ∈ cuts s) : x.length ≤ s.length := by
  induction s generalizing x with
  | nil => simp [cuts] at h; subst h; simp
  | cons c s ih =>
    unfold cuts at h
    split at h
    · rcases List.mem_cons.1 h with rfl | h
      · simp
      · have := ih h; simp; omega
    · split at h
      · rename_i e; exact absurd e (cuts_ne s)
      · rename_i y t e
        rcases List.mem_cons.1 h with rfl | h
        · have := ih (x := y) (by rw [e]; simp); simp; omega
        · have := ih (x := x) (by rw [e]; simp [h]); simp; omega
theorem getD_mem {α : Type} {l : List α} {k : Nat} {d : α} (h : k < l.length) : l.getD k d ∈ l := by
  simp [List.getD, h]
theorem valid_M {p : List UInt8} {K : Bool → Prop} (hp : p.length ≤ 4000000000) (h : K (validB p)) : M_path_Valid p K := by
  unfold M_path_Valid
  unfold validB at h
  refine ⟨fun h1 => ?_, fun h1 => split_M hp ?_⟩
  · rw [decide_eq_false (by omega : ¬ p.length ≤ 200)] at h; exact h
  rw [decide_eq_true (by omega : p.length ≤ 200), Bool.true_and] at h
  refine ⟨fun i => ∃ k : Nat, i = k ∧ k ≤ (cuts p).length ∧ ((cuts p).take k).all fairB = true, fun i => ((cuts p).length - i.toNat), ⟨0, rfl, by omega, by simp⟩, ?_⟩
  have hcl := cuts_length p
  rintro _ ⟨k, rfl, hk, hall⟩
  refine ⟨fun hlt => ⟨by omega, ?_⟩, fun hge => ?_⟩
  · have hk' : k < (cuts p).length := by omega
    rw [Int.toNat_natCast]
    have hm : (cuts p).getD k [] ∈ cuts p := getD_mem hk'
    have hx := cuts_part hm
    refine fair_M (by omega) ?_
    cases hl : fairB ((cuts p).getD k []) with
    | false =>
      refine ⟨fun _ => ?_, fun h1 => by simp at h1⟩
      have : (cuts p).all fairB = false := by
        rw [List.all_eq_false]
        exact ⟨_, hm, by rw [hl]; simp⟩
      rw [this] at h
      exact h
    | true =>
      refine ⟨fun h1 => by simp at h1, fun _ => ⟨by simp only [In]; omega, ⟨k + 1, by omega, by omega, ?_⟩, by dsimp only; omega⟩⟩
      rw [List.take_succ_eq_append_getElem hk', List.all_append, hall]
      simpa [List.getD, hk'] using hl
  · obtain rfl : k = (cuts p).length := by omega
    rw [List.take_length] at hall
    rw [hall] at h
    exact h
end Go.Proofs.YtlonpmajnglmoaaDoor


 /- Patterns, plainly: one table for bytes and for parts. -/
namespace Go.Proofs.YtlonpmajnglmoaaDoor
open Go Go.RowKit
section
variable (star : Nat → Bool) (eq : Nat → Nat → Bool) (i j : Nat)
end
def bt (p : List UInt8) (i : Nat) : UInt8 := p.getD i 0
def RowIs (d : Nat → Bool) (n k : Nat) (xs : List Bool) : Prop := xs.length = n + 1 ∧ ∀ j, j < k → xs.getD j false = d j
theorem getD_set {xs : List Bool} {a j : Nat} {v : Bool} (h : a < xs.length) : (xs.set a v).getD j false = if j = a then v else xs.getD j false := by
  by_cases e : j = a
  · subst e; simp [List.getD, h]
  · simp [List.getD, List.getElem?_set, Ne.symm e, e]
theorem RowIs.next {d : Nat → Bool} {n k : Nat} {xs : List Bool} {v : Bool} (h : RowIs d n k xs) (hk : k ≤ n) (hv : v = d k) : RowIs d n (k + 1) (xs.set k v) :=
  ⟨by rw [List.length_set]; exact h.1, fun j hj => by
    rw [getD_set (by rw [h.1]; omega)]
    split
    · rename_i e; rw [e]; exact hv
    · exact h.2 j (by omega)⟩
end Go.Proofs.YtlonpmajnglmoaaDoor


 /- Paths, plainly: clean, match. -/
namespace Go.Proofs.YtlonpmajnglmoaaDoor
open Go Go.RowKit
/-- Clean's loop -/
def cl (l : List (List UInt8)) : List (List UInt8) → Option (List (List UInt8))
  | [] => some l
  | x :: r => if decide (x = []) || decide (x = [46]) then cl l r else if decide (x = [46, 46]) && decide (0 < l.length) then cl (l.take (l.length - 1)) r else if fairB x then cl (l ++ [x]) r else none
end Go.Proofs.YtlonpmajnglmoaaDoor


 /- Texts in order, each once: plain, no program. -/
namespace Go.Proofs.YtlonpmajnglmoaaDoor
open Go
abbrev Bs := List UInt8
def sortB (l : List Bs) : List Bs := l.mergeSort fun x y => decide (x ≤ y)
theorem sortB_le (l : List Bs) : (sortB l).Pairwise (· ≤ ·) := by
  have h := List.pairwise_mergeSort (le := fun (x y : Bs) => decide (x ≤ y)) (fun a b c h k => by
    simp only [decide_eq_true_eq] at h k ⊢
    exact List.le_trans h k) (fun a b => by
    simp only [Bool.or_eq_true, decide_eq_true_eq]
    exact List.le_total a b) l
  exact h.imp fun h => by simpa using h
end Go.Proofs.YtlonpmajnglmoaaDoor


 /- Lines, plainly; sorting, plainly. -/
namespace Go.Proofs.YtlonpmajnglmoaaDoor
open Go Go.RowKit
/-! sorting -/
theorem sorted_uniq : ∀ {a b : List Bs}, a.Pairwise (· ≤ ·) → b.Pairwise (· ≤ ·) → a.Perm b → a = b
  | [], b, _, _, h => h.nil_eq.symm ▸ rfl
  | x :: a, [], _, _, h => absurd h.eq_nil (by simp)
  | x :: a, y :: b, ha, hb, h => by
    have ha' := List.pairwise_cons.1 ha
    have hb' := List.pairwise_cons.1 hb
    have h1 : y ≤ x := by
      rcases List.mem_cons.1 (h.mem_iff.1 (List.mem_cons_self (a := x) (l := a))) with e | e
      · rw [e]; exact List.le_refl _
      · exact hb'.1 x e
    have h2 : x ≤ y := by
      rcases List.mem_cons.1 (h.mem_iff.2 (List.mem_cons_self (a := y) (l := b))) with e | e
      · rw [e]; exact List.le_refl _
      · exact ha'.1 y e
    obtain rfl : x = y := List.le_antisymm h2 h1
    rw [sorted_uniq ha'.2 hb'.2 h.cons_inv]
theorem sortB_perm (l : List Bs) : (sortB l).Perm l := List.mergeSort_perm l _
theorem sortB_of {a l : List Bs} (h : a.Pairwise (· ≤ ·)) (k : a.Perm l) : a = sortB l := sorted_uniq h (sortB_le l) (k.trans (sortB_perm l).symm)
theorem sortB_congr {a b : List Bs} (h : a.Perm b) : sortB a = sortB b := sortB_of (sortB_le a) ((sortB_perm a).trans h)
end Go.Proofs.YtlonpmajnglmoaaDoor


 /- smithysee.Is, plainly. -/
namespace Go.Proofs.YtlonpmajnglmoaaDoor
open Go Go.RowKit
end Go.Proofs.YtlonpmajnglmoaaDoor


 /- A disk, plainly: what its calls come to. -/
namespace Go.Proofs.YtlonpmajnglmoaaDoor
open Go Go.RowKit
abbrev DF := List (List UInt8 × Fil)
def fz : Fil := ([], false, [], false, [])
/-- a file's record, or the empty one -/
def fil (fs : DF) (p : List UInt8) : Fil := (mget fs p).getD fz
theorem fil_put (fs : DF) (p q : List UInt8) (x : Fil) : fil (mput fs p x) q = if p = q then x else fil fs q := by
  unfold fil
  rw [mget_mput]
  split <;> rfl
theorem mput_mput {κ ν : Type} [DecidableEq κ] (k : κ) (v v' : ν) : ∀ m : List (κ × ν), mput (mput m k v) k v' = mput m k v'
  | [] => by simp [mput]
  | p :: m => by
    by_cases h : p.1 = k
    · simp [mput, h]
    · simp [mput, h, mput_mput k v v' m]
theorem eraseIdx_perm {α : Type} : ∀ (l : List α) (i : Nat) (h : i < l.length), l.Perm (l[i] :: l.eraseIdx i)
  | [], _, h => by simp at h
  | x :: l, 0, _ => List.Perm.refl _
  | x :: l, i + 1, h => ((eraseIdx_perm l i (by simpa using h)).cons x).trans (List.Perm.swap _ _ _)
def thereB (fs : DF) (p : List UInt8) : Bool := (fil fs p).2.1
theorem there_eq (fs : DF) (p : List UInt8) : ((mget fs p).isSome && ((mget fs p).getD fz).2.1) = thereB fs p := by
  unfold thereB fil
  cases mget fs p <;> rfl
theorem there_some {fs : DF} {p : List UInt8} (h : thereB fs p = true) : (mget fs p).isSome = true := by
  unfold thereB fil at h
  cases e : mget fs p with
  | none => rw [e] at h; cases h
  | some x => rfl
/-- a call is counted: the error, and what the counters are then -/
def dcall (ops left : Int) (down : Bool) : Er × Int × Int × Bool :=
  if down then (.e 15, ops, left, true) else if 0 < left then (if left = 1 then (.e 15, ops + 1, 0, true) else (.ok, ops + 1, left - 1, false)) else (.ok, ops + 1, left, false)
theorem call_M {fs : DF} {ops left : Int} {down : Bool} {K : Er → DF → Int → Int → Bool → Prop} (h0 : 0 ≤ ops) (h1 : ops ≤ 1000000000) (hl : left ≤ 1000000000) (h : K (dcall ops left down).1 fs (dcall ops left down).2.1 (dcall ops left down).2.2.1 (dcall ops left down).2.2.2) : M_pdisk_Disk_call fs ops left down K := by
  refine ⟨fun hd => ?_, fun hd => ⟨by simp only [In]; omega, fun d => d = (if 0 < left then left - 1 else left) ∧ ¬ (0 < left ∧ left = 1), ⟨fun hp => ⟨by simp only [In]; omega, fun h1' => ?_, fun hne => ?_⟩, fun hp => ?_⟩, fun d2 ⟨e, hn⟩ => ?_⟩⟩
  · subst hd; simpa [dcall] using h
  · have e : left = 1 := by omega
    subst hd; subst e; simpa [dcall] using h
  · exact ⟨by rw [if_pos hp], by omega⟩
  · exact ⟨by rw [if_neg hp], by omega⟩
  · subst hd
    subst e
    unfold dcall at h
    by_cases hp : 0 < left
    · have hne : left ≠ 1 := by omega
      simpa [hp, hne] using h
    · simpa [hp] using h
theorem dthere_M {fs : DF} {ops left : Int} {down : Bool} {p : List UInt8} {K : Bool → Prop} (hp : p.length ≤ maxLen) (h : K (thereB fs p)) : M_pdisk_Disk_there fs ops left down p K := by
  refine ⟨hp, fun _ => hp, fun h => h, ?_⟩
  rw [show (([], false, [], false, []) : Fil) = fz from rfl, there_eq]
  exact h
theorem known_M {fs : DF} {ops left : Int} {down : Bool} {p : List UInt8} {K : DF → Int → Int → Bool → Prop} (hp : p.length ≤ maxLen) (hf : fs.length < maxLen) (h : ∀ fs', (∀ x, mput fs' p x = mput fs p x) → (mget fs' p).isSome = true → fil fs' p = fil fs p → K fs' ops left down) : M_pdisk_Disk_known fs ops left down p K := by
  refine ⟨fun f => (∀ x, mput f p x = mput fs p x) ∧ (mget f p).isSome = true ∧ fil f p = fil fs p, ⟨hp, fun hn => ⟨⟨hp, hf⟩, fun x => mput_mput _ _ _ _, ?_, ?_⟩, fun hn => ⟨fun _ => rfl, isSome_of hn, rfl⟩⟩, fun d ⟨h1, h2, h3⟩ => ⟨hp, h d h1 h2 h3⟩⟩
  · rw [mget_same]; rfl
  · rw [fil_put, if_pos rfl]
    unfold fil
    rw [Option.isNone_iff_eq_none.1 hn]; rfl
/-- the paths of the files that are there -/
def pathsP (fs : DF) : List (List UInt8) := sortB ((fs.map (·.1)).filter fun k => thereB fs k)
theorem paths_M {fs : DF} {ops left : Int} {down : Bool} {K : List (List UInt8) → Prop} (hf : fs.length ≤ 1000000) (h : K (pathsP fs)) : M_pdisk_Disk_paths fs ops left down K := by
  refine ⟨fun l todo => (l ++ todo.filter fun k => thereB fs k).Perm ((fs.map (·.1)).filter fun k => thereB fs k) ∧ l.length + todo.length ≤ fs.length ∧ ∀ k ∈ todo, k ∈ fs.map (·.1), fun _ todo => todo.length, ⟨by simp, by simp, fun k hk => hk⟩, fun l todo ⟨a0, a1, a2⟩ => ⟨fun he => ?_, fun ix key hq => ?_⟩⟩
  · subst he
    refine ⟨by simp only [List.length_nil] at a1; omega, ?_⟩
    have := sortB_congr (by simpa using a0 : l.Perm _)
    unfold sortB at this
    rw [this]
    exact h
  · obtain ⟨hi, rfl⟩ := List.getElem?_eq_some_iff.1 hq
    have hmem := a2 _ (List.getElem_mem hi)
    have hp : todo.Perm (todo[ix] :: todo.eraseIdx ix) := eraseIdx_perm todo ix hi
    have hlen : (todo.eraseIdx ix).length + 1 = todo.length := by rw [List.length_eraseIdx_of_lt hi]; omega
    have hsome : (mget fs todo[ix]).isSome = true := by
      obtain ⟨p, hp, e⟩ := List.mem_map.1 hmem
      cases hm : mget fs todo[ix] with
      | some x => rfl
      | none => exact absurd e (mget_none.1 hm p hp)
    refine ⟨hsome, fun ht => ⟨by simp; omega, ⟨?_, by simp; omega, fun k hk => a2 k (List.mem_of_mem_eraseIdx hk)⟩, by (try dsimp only); omega⟩, fun ht => ⟨⟨?_, by omega, fun k hk => a2 k (List.mem_of_mem_eraseIdx hk)⟩, by (try dsimp only); omega⟩⟩
    · have ht' : thereB fs todo[ix] = true := ht
      refine List.Perm.trans ?_ a0
      rw [List.append_assoc]
      refine List.Perm.append_left l ?_
      refine List.Perm.trans ?_ (hp.filter _).symm
      rw [List.filter_cons, if_pos ht']
      rfl
    · have ht' : thereB fs todo[ix] = false := ht
      refine List.Perm.trans (List.Perm.append_left l ?_) a0
      refine List.Perm.trans ?_ (hp.filter _).symm
      rw [List.filter_cons, if_neg (by rw [ht']; simp)]
theorem count_M {fs : DF} {ops left : Int} {down : Bool} {K : Int → Prop} (hf : fs.length ≤ 1000000) (h : K ((pathsP fs).length : Int)) : M_pdisk_Disk_count fs ops left down K := paths_M hf h
theorem pathsP_len (fs : DF) : (pathsP fs).length ≤ fs.length := by
  unfold pathsP sortB
  rw [List.length_mergeSort]
  exact Nat.le_trans (List.length_filter_le _ _) (by simp)
theorem dread_M {fs : DF} {ops left : Int} {down : Bool} {p : List UInt8} {K : List UInt8 → Bool → Er → DF → Int → Int → Bool → Prop} (hp : p.length ≤ maxLen) (h0 : 0 ≤ ops) (h1 : ops ≤ 1000000000) (hl : left ≤ 1000000000)
    (h : ∀ o l d, (∀ e, dcall ops left down = (e, o, l, d) → e ≠ .ok → K [] false e fs o l d) ∧ (dcall ops left down = (.ok, o, l, d) → thereB fs p = true → K (fil fs p).1 true .ok fs o l d) ∧ (dcall ops left down = (.ok, o, l, d) → thereB fs p = false → K [] false .ok fs o l d)) : M_pdisk_Disk_Read fs ops left down p K := by
  refine call_M h0 h1 hl ?_
  rcases hc : dcall ops left down with ⟨e, o, l, d⟩
  obtain ⟨k1, k2, k3⟩ := h o l d
  by_cases he : e = .ok
  · subst he
    refine ⟨fun b => b = !thereB fs p, ⟨fun hn => by simp at hn, fun _ => dthere_M hp rfl⟩, fun q hq => ⟨fun ht => k3 hc (by rw [hq] at ht; simpa using ht), fun hf => ?_⟩⟩
    have ht : thereB fs p = true := by rw [hq] at hf; simpa using hf
    exact ⟨hp, there_some ht, k2 hc ht⟩
  · refine ⟨fun b => b = true, ⟨fun _ => rfl, fun hn => absurd (by simpa using hn) he⟩, fun q hq => ⟨fun _ => k1 e hc he, fun hf => (by rw [hq] at hf; cases hf)⟩⟩
/-- what laying a text comes to, when the power is there -/
def dlay (fs : DF) (p text : List UInt8) (kind : Int) : Er × DF :=
  let t := if kind = 1 ∧ thereB fs p = true then (fil fs p).1 ++ text else text
  if validB p = false ∨ 65536 < t.length then (.e 11, fs)
  else if thereB fs p = false ∧ 2000 ≤ (pathsP fs).length then (.e 9, fs)
  else (.ok, mput fs p (t, true, (fil fs p).2.2.1, (fil fs p).2.2.2.1, (fil fs p).2.2.2.2 ++ [(kind, text)]))
theorem put_M {fs : DF} {ops left : Int} {down : Bool} {p text : List UInt8} {kind : Int} {K : Er → DF → Int → Int → Bool → Prop} (hp : p.length ≤ 1000000) (h0 : 0 ≤ ops) (h1 : ops ≤ 1000000000) (hl : left ≤ 1000000000) (hf : fs.length ≤ 1000000) (ht : text.length ≤ 1000000) (hx : (fil fs p).1.length ≤ 1000000) (hs : (fil fs p).2.2.2.2.length ≤ 1000000)
    (h : ∀ o l d, (∀ e, dcall ops left down = (e, o, l, d) → e ≠ .ok → K e fs o l d) ∧ (dcall ops left down = (.ok, o, l, d) → K (dlay fs p text kind).1 (dlay fs p text kind).2 o l d)) : M_pdisk_Disk_put fs ops left down p text kind text K := by
  refine call_M h0 h1 hl ?_
  rcases hc : dcall ops left down with ⟨e, o, l, d⟩
  obtain ⟨k1, k2⟩ := h o l d
  refine ⟨fun hne => k1 e hc hne, fun he => ?_⟩
  dsimp only at he
  subst he
  have k2 := k2 hc
  have hpm : p.length ≤ maxLen := by unfold maxLen; omega
  refine ⟨fun t => t = (if kind = 1 ∧ thereB fs p = true then (fil fs p).1 ++ text else text), ⟨fun b => b = (decide (kind = 1) && thereB fs p), ⟨fun hk => dthere_M hpm (by rw [hk]; rfl), fun hk => by rw [hk]; rfl⟩, fun q hq => ⟨fun hq1 => ?_, fun hq0 => ?_⟩⟩, fun t hte => ?_⟩
  · rw [hq, Bool.and_eq_true, decide_eq_true_eq] at hq1
    refine ⟨hpm, there_some hq1.2, ?_, ?_⟩
    · show (fil fs p).1.length + _ ≤ _; omega
    · rw [if_pos hq1]; rfl
  · rw [hq] at hq0
    have : ¬ (kind = 1 ∧ thereB fs p = true) := fun ⟨a, b⟩ => by rw [b, decide_eq_true a] at hq0; cases hq0
    rw [if_neg this]
  · have htl : t.length ≤ 2000000 := by
      rw [hte]; split
      · rw [List.length_append]; omega
      · omega
    unfold dlay at k2
    simp only [← hte] at k2
    refine valid_M (by omega) ⟨fun hb => ?_, fun hb => dthere_M hpm ?_⟩
    · rw [Bool.or_eq_true, Bool.not_eq_true', decide_eq_true_eq] at hb
      have : validB p = false ∨ 65536 < t.length := hb.imp id fun h => by omega
      rw [if_pos this] at k2
      exact k2
    · rw [Bool.or_eq_false_iff, Bool.not_eq_false', decide_eq_false_iff_not] at hb
      have : ¬ (validB p = false ∨ 65536 < t.length) := fun h => h.elim (fun h => by rw [hb.1] at h; cases h) (fun h => by omega)
      rw [if_neg this] at k2
      refine ⟨fun b => b = (!thereB fs p && decide (2000 ≤ (pathsP fs).length)), ⟨fun hn => count_M hf ?_, fun hn => by rw [hn]; rfl⟩, fun q hq => ⟨fun hq1 => ?_, fun hq0 => ?_⟩⟩
      · rw [hn, Bool.true_and]
        apply Bool.eq_iff_iff.2
        simp only [decide_eq_true_eq]; omega
      · rw [hq, Bool.and_eq_true, Bool.not_eq_true', decide_eq_true_eq] at hq1
        rw [if_pos hq1] at k2
        exact k2
      · rw [hq] at hq0
        have : ¬ (thereB fs p = false ∧ 2000 ≤ (pathsP fs).length) := fun ⟨a, b⟩ => by rw [a, decide_eq_true b] at hq0; cases hq0
        rw [if_neg this] at k2
        refine known_M hpm (by unfold maxLen; omega) fun fs' g1 g2 g3 => ⟨g2, ?_, ?_⟩
        · have : ((mget fs' p).getD ([], false, [], false, [])).2.2.2.2 = (fil fs p).2.2.2.2 := by rw [← g3]; rfl
          rw [this]; simp; omega
        · have e : (mget fs' p).getD ([], false, [], false, []) = fil fs p := g3
          rw [e, g1]
          exact k2
def dsync (fs : DF) (p : List UInt8) : Er × DF :=
  if validB p = false then (.e 11, fs) else (.ok, if (mget fs p).isSome = true then mput fs p ((fil fs p).1, (fil fs p).2.1, (fil fs p).1, (fil fs p).2.1, []) else fs)
theorem sync_M {fs : DF} {ops left : Int} {down : Bool} {p : List UInt8} {K : Er → DF → Int → Int → Bool → Prop} (hp : p.length ≤ 1000000) (h0 : 0 ≤ ops) (h1 : ops ≤ 1000000000) (hl : left ≤ 1000000000)
    (h : ∀ o l d, (∀ e, dcall ops left down = (e, o, l, d) → e ≠ .ok → K e fs o l d) ∧ (dcall ops left down = (.ok, o, l, d) → K (dsync fs p).1 (dsync fs p).2 o l d)) : M_pdisk_Disk_Sync fs ops left down p K := by
  refine call_M h0 h1 hl ?_
  rcases hc : dcall ops left down with ⟨e, o, l, d⟩
  obtain ⟨k1, k2⟩ := h o l d
  refine ⟨fun hne => k1 e hc hne, fun he => ?_⟩
  dsimp only at he
  subst he
  have k2 := k2 hc
  have hpm : p.length ≤ maxLen := by unfold maxLen; omega
  unfold dsync at k2
  refine valid_M (by omega) ⟨fun hb => ?_, fun hb => ?_⟩
  · have : validB p = false := by simpa using hb
    rw [if_pos this] at k2
    exact k2
  · have : ¬ validB p = false := by simpa using hb
    rw [if_neg this] at k2
    exact ⟨fun f => f = (if (mget fs p).isSome = true then mput fs p ((fil fs p).1, (fil fs p).2.1, (fil fs p).1, (fil fs p).2.1, []) else fs), ⟨hpm, fun ht => fun _ => by rw [if_pos ht]; rfl, fun ht => by rw [if_neg (by rw [ht]; simp)]⟩, fun f hf => by rw [hf]; exact k2⟩
end Go.Proofs.YtlonpmajnglmoaaDoor


 /- A disk, plainly: the fall of the power, what rises behind it. -/
namespace Go.Proofs.YtlonpmajnglmoaaDoor
open Go Go.RowKit
section
variable {fs : DF} {ops : Int} {p text : List UInt8} {kind : Int}
theorem put0_M {K : Er → DF → Int → Int → Bool → Prop} (hp : p.length ≤ 1000000) (h0 : 0 ≤ ops) (h1 : ops ≤ 1000000000) (hf : fs.length ≤ 1000000) (ht : text.length ≤ 1000000) (hx : (fil fs p).1.length ≤ 1000000) (hs : (fil fs p).2.2.2.2.length ≤ 1000000) (h : K (dlay fs p text kind).1 (dlay fs p text kind).2 (ops + 1) 0 false) : M_pdisk_Disk_put fs ops 0 false p text kind text K :=
  put_M hp h0 h1 (by omega) hf ht hx hs fun o l d => ⟨fun e he hne => by
    simp only [dcall, Bool.false_eq_true, if_false, Int.lt_irrefl, Prod.mk.injEq] at he
    exact absurd he.1.symm hne, fun he => by
    simp only [dcall, Bool.false_eq_true, if_false, Int.lt_irrefl, Prod.mk.injEq, true_and] at he
    obtain ⟨rfl, rfl, rfl⟩ := he
    exact h⟩
theorem sync0_M {K : Er → DF → Int → Int → Bool → Prop} (hp : p.length ≤ 1000000) (h0 : 0 ≤ ops) (h1 : ops ≤ 1000000000) (h : K (dsync fs p).1 (dsync fs p).2 (ops + 1) 0 false) : M_pdisk_Disk_Sync fs ops 0 false p K :=
  sync_M hp h0 h1 (by omega) fun o l d => ⟨fun e he hne => by
    simp only [dcall, Bool.false_eq_true, if_false, Int.lt_irrefl, Prod.mk.injEq] at he
    exact absurd he.1.symm hne, fun he => by
    simp only [dcall, Bool.false_eq_true, if_false, Int.lt_irrefl, Prod.mk.injEq, true_and] at he
    obtain ⟨rfl, rfl, rfl⟩ := he
    exact h⟩
/-- what a read tells, when the power is there -/
def dtext (fs : DF) (p : List UInt8) : List UInt8 := if thereB fs p = true then (fil fs p).1 else []
theorem dreadC_M {left : Int} {down : Bool} {K : List UInt8 → Bool → Er → DF → Int → Int → Bool → Prop} (hp : p.length ≤ maxLen) (h0 : 0 ≤ ops) (h1 : ops ≤ 1000000000) (hl : left ≤ 1000000000)
    (h : K (if (dcall ops left down).1 = .ok then dtext fs p else []) (decide ((dcall ops left down).1 = .ok) && thereB fs p) (dcall ops left down).1 fs (dcall ops left down).2.1 (dcall ops left down).2.2.1 (dcall ops left down).2.2.2) : M_pdisk_Disk_Read fs ops left down p K := by
  refine dread_M hp h0 h1 hl fun o l d => ⟨fun e he hne => ?_, fun he ht => ?_, fun he ht => ?_⟩
  · rw [he] at h
    simpa [hne] using h
  · rw [he] at h
    simpa [dtext, ht] using h
  · rw [he] at h
    simpa [dtext, ht] using h
theorem dread0_M {K : List UInt8 → Bool → Er → DF → Int → Int → Bool → Prop} (hp : p.length ≤ maxLen) (h0 : 0 ≤ ops) (h1 : ops ≤ 1000000000) (h : K (dtext fs p) (thereB fs p) .ok fs (ops + 1) 0 false) : M_pdisk_Disk_Read fs ops 0 false p K :=
  dreadC_M hp h0 h1 (by omega) (by simpa [dcall] using h)
theorem dlay_ok (hv : validB p = true) (hf : fs.length < 2000) (ht : (if kind = 1 ∧ thereB fs p = true then (fil fs p).1 ++ text else text).length ≤ 65536) :
    dlay fs p text kind = (.ok, mput fs p (if kind = 1 ∧ thereB fs p = true then (fil fs p).1 ++ text else text, true, (fil fs p).2.2.1, (fil fs p).2.2.2.1, (fil fs p).2.2.2.2 ++ [(kind, text)])) := by
  have := pathsP_len fs
  unfold dlay
  rw [if_neg (fun h => h.elim (fun h => by rw [hv] at h; cases h) (fun h => by omega)), if_neg (by rintro ⟨_, h⟩; omega)]
end
end Go.Proofs.YtlonpmajnglmoaaDoor


 /- Printed by a program (wip/vg): what the functions mean, plainly, and their walks. -/
namespace Go.Proofs.YtlonpmajnglmoaaDoor
open Go Go.RowKit
attribute [local irreducible] WL WC WX WQ WK WJ Yld Eff Ef0 Fn
end Go.Proofs.YtlonpmajnglmoaaDoor

 /- smithylaw1.first; Dir, Base, Under; PathDirs. -/
namespace Go.Proofs.YtlonpmajnglmoaaDoor
open Go Go.RowKit
end Go.Proofs.YtlonpmajnglmoaaDoor


 /- Patterns at work: PathStars. -/
namespace Go.Proofs.YtlonpmajnglmoaaDoor
open Go Go.RowKit
end Go.Proofs.YtlonpmajnglmoaaDoor


 /- Clean twice: PathAgain. -/
namespace Go.Proofs.YtlonpmajnglmoaaDoor
open Go Go.RowKit
end Go.Proofs.YtlonpmajnglmoaaDoor


 /- The chapter's own words for paths (smithyref1), and PathSays. -/
namespace Go.Proofs.YtlonpmajnglmoaaDoor
open Go Go.RowKit
end Go.Proofs.YtlonpmajnglmoaaDoor


 /- Globs: the plain side. -/
namespace Go.Proofs.YtlonpmajnglmoaaDoor
open Go Go.RowKit
end Go.Proofs.YtlonpmajnglmoaaDoor


 /- DiskArms and DiskFiles, plainly. -/
namespace Go.Proofs.YtlonpmajnglmoaaDoor
open Go Go.RowKit
theorem numR_M {n below : Int} {K : Int → Prop} (hn : In .i64 n) (hb : 0 < below) (hb2 : below ≤ 100000) (h : ∀ m, 0 ≤ m → m < below → K m) : M_smithyworld_Number n below K := by
  unfold M_smithyworld_Number
  have h1 := Int.tmod_lt_of_pos n hb
  have h2 := Int.lt_tmod_of_pos n hb
  simp only [In] at hn
  refine ⟨by omega, by simp only [In]; omega, by omega, ?_⟩
  have h3 : 0 ≤ n.tmod below + below := by omega
  rw [Int.tmod_eq_emod_of_nonneg h3]
  exact h _ (Int.emod_nonneg _ (by omega)) (Int.emod_lt_of_pos _ hb)
theorem new0_M {K0 : Er → Prop} {K : DF → Int → Int → Bool → Er → Prop} (h : K [] 0 0 false .ok) : M_disk_New [] K0 K := by
  intro _
  refine ⟨fun i fs => i = 0 ∧ fs = [], fun _ _ => 0, ⟨rfl, rfl⟩, fun i fs ⟨a0, a1⟩ => ⟨fun hlt => ?_, fun _ => ⟨fun hb => ?_, fun _ => by rw [a1]; exact h⟩⟩⟩
  · subst a0; simp at hlt
  · simp at hb
end Go.Proofs.YtlonpmajnglmoaaDoor


 /- DiskFiles, plainly. -/
namespace Go.Proofs.YtlonpmajnglmoaaDoor
open Go Go.RowKit
def nms : List (List UInt8) := [[97], [98, 47, 99], [100]]
def nm (k : Nat) : List UInt8 := nms.getD k []
theorem nm_inj {j k : Nat} (hj : j < 3) (hk : k < 3) (h : nm j = nm k) : j = k := by
  match j, k, hj, hk with
  | 0, 0, _, _ => rfl
  | 1, 1, _, _ => rfl
  | 2, 2, _, _ => rfl
  | 0, 1, _, _ => exact absurd h (by decide)
  | 0, 2, _, _ => exact absurd h (by decide)
  | 1, 0, _, _ => exact absurd h (by decide)
  | 1, 2, _, _ => exact absurd h (by decide)
  | 2, 0, _, _ => exact absurd h (by decide)
  | 2, 1, _, _ => exact absurd h (by decide)
structure DInv (fs : DF) (hv : List Bool) (tx : List (List UInt8)) (n : Nat) : Prop where
  uq : Uq fs
  len : fs.length ≤ n
  keys : ∀ p ∈ fs, ∃ k, k < 3 ∧ p.1 = nm k
  hl : hv.length = 3
  tl : tx.length = 3
  there : ∀ k, k < 3 → thereB fs (nm k) = hv.getD k false
  text : ∀ k, k < 3 → (fil fs (nm k)).1 = tx.getD k []
  none : ∀ k, k < 3 → hv.getD k false = false → tx.getD k [] = []
  size : ∀ k, k < 3 → (tx.getD k []).length ≤ 100 * n
  since : ∀ k, k < 3 → (fil fs (nm k)).2.2.2.2.length ≤ n
theorem getD_setF {α : Type} {l : List α} {i j : Nat} {x d : α} (hi : i < l.length) : (l.set i x).getD j d = if i = j then x else l.getD j d := by
  simp only [List.getD, List.getElem?_set]
  by_cases e : i = j
  · subst e; simp [hi]
  · simp [e]
theorem DInv.put {fs : DF} {hv : List Bool} {tx : List (List UInt8)} {n k : Nat} (h : DInv fs hv tx n) (hk : k < 3) {t s : List UInt8} {b w : Bool} {l : List (Int × List UInt8)} (ht : t.length ≤ 100 * (n + 1)) (hb : b = false → t = []) (hll : l.length ≤ n + 1) : DInv (mput fs (nm k) (t, b, s, w, l)) (hv.set k b) (tx.set k t) (n + 1) := by
  have hk1 : k < hv.length := by rw [h.hl]; exact hk
  have hk2 : k < tx.length := by rw [h.tl]; exact hk
  have hne : ∀ {j}, j < 3 → (nm k = nm j ↔ k = j) := fun hj => ⟨nm_inj hk hj, fun e => by rw [e]⟩
  refine ⟨h.uq.put _ _, ?_, ?_, by rw [List.length_set, h.hl], by rw [List.length_set, h.tl], ?_, ?_, ?_, ?_, ?_⟩
  · rw [mput_len]; have := h.len; split <;> omega
  · intro p hp
    rcases mput_mem hp with rfl | hp
    · exact ⟨k, hk, rfl⟩
    · exact h.keys p hp
  · intro j hj
    rw [getD_setF hk1]
    unfold thereB
    rw [fil_put]
    by_cases e : k = j
    · subst e; rw [if_pos rfl, if_pos rfl]
    · rw [if_neg (fun e2 => e ((hne hj).1 e2)), if_neg e]; exact h.there j hj
  · intro j hj
    rw [getD_setF hk2, fil_put]
    by_cases e : k = j
    · subst e; rw [if_pos rfl, if_pos rfl]
    · rw [if_neg (fun e2 => e ((hne hj).1 e2)), if_neg e]; exact h.text j hj
  · intro j hj
    rw [getD_setF hk1, getD_setF hk2]
    by_cases e : k = j
    · rw [if_pos e, if_pos e]; exact hb
    · rw [if_neg e, if_neg e]; exact h.none j hj
  · intro j hj
    rw [getD_setF hk2]
    by_cases e : k = j
    · rw [if_pos e]; exact ht
    · rw [if_neg e]; have := h.size j hj; omega
  · intro j hj
    rw [fil_put]
    by_cases e : k = j
    · subst e; rw [if_pos rfl]; exact hll
    · rw [if_neg (fun e2 => e ((hne hj).1 e2))]; have := h.since j hj; omega
theorem DInv.mono {fs : DF} {hv : List Bool} {tx : List (List UInt8)} {n : Nat} (h : DInv fs hv tx n) : DInv fs hv tx (n + 1) :=
  ⟨h.uq, Nat.le_succ_of_le h.len, h.keys, h.hl, h.tl, h.there, h.text, h.none, fun k hk => by have := h.size k hk; omega, fun k hk => Nat.le_succ_of_le (h.since k hk)⟩
theorem set_same {α : Type} {l : List α} {k : Nat} {d : α} (hk : k < l.length) : l.set k (l.getD k d) = l := by
  rw [show l.getD k d = l[k] by simp [List.getD, hk]]
  exact List.set_getElem_self hk
end Go.Proofs.YtlonpmajnglmoaaDoor


 /- A cache, plainly: its journal. -/
namespace Go.Proofs.YtlonpmajnglmoaaDoor
open Go Go.RowKit
abbrev Ent := List UInt8 × List UInt8
/-- an entry's line -/
def recP (e : Ent) : List UInt8 := hexS e.1 ++ [32] ++ hexS e.2 ++ [32] ++ hexS (manyS [hexS e.1, hexS e.2]) ++ [10]
def Ok32 (e : Ent) : Prop := e.1.length = 32 ∧ e.2.length = 32
theorem hex64 {l : List UInt8} (h : l.length = 32) : (hexS l).length = 64 := by rw [hexS_len, h]
theorem recP_len {e : Ent} (h : Ok32 e) : (recP e).length = 195 := by
  unfold recP
  simp only [List.length_append, List.length_cons, List.length_nil, hex64 h.1, hex64 h.2, hex64 (manyS_len _)]
theorem record_M {k o : List UInt8} {K : List UInt8 → Prop} (h : Ok32 (k, o)) (hK : K (recP (k, o))) : M_cache_Record k o K := by
  have h1 := hex64 h.1
  have h2 := hex64 h.2
  dsimp only at h1 h2
  refine text_M h.1 (text_M h.2 ⟨by simp only [List.length_cons, List.length_nil]; omega, by simp only [List.length_append, List.length_cons, List.length_nil]; omega, by simp only [List.length_append, List.length_cons, List.length_nil]; omega, ⟨by simp, fun x hx => ?_, text_M (manyS_len _) ⟨?_, ?_, hK⟩⟩⟩)
  · simp only [List.mem_cons, List.not_mem_nil, or_false] at hx
    rcases hx with rfl | rfl <;> omega
  · have h3 := hex64 (manyS_len [hexS k, hexS o])
    simp only [List.length_append, List.length_cons, List.length_nil]; omega
  · have h3 := hex64 (manyS_len [hexS k, hexS o])
    simp only [List.length_append, List.length_cons, List.length_nil]; omega
def oneP (s : List UInt8) : Option Ent :=
  match parS (s.take 64), parS ((s.drop 65).take 64) with
  | some k, some o => if recP (k, o) = s then some (k, o) else none
  | _, _ => none
theorem oneP_rec {s : List UInt8} {e : Ent} (h : oneP s = some e) : recP e = s ∧ Ok32 e := by
  unfold oneP at h
  split at h
  · rename_i k o hk ho
    split at h
    · rename_i hr
      simp only [Option.some.injEq] at h
      subst h
      exact ⟨hr, parS_len hk, parS_len ho⟩
    · cases h
  · cases h
theorem oneP_of {e : Ent} (h : Ok32 e) : oneP (recP e) = some e := by
  have h1 := hex64 h.1
  have h2 := hex64 h.2
  have e1 : (recP e).take 64 = hexS e.1 := by
    unfold recP
    simp only [List.append_assoc]
    exact List.take_left' h1
  have e2 : ((recP e).drop 65).take 64 = hexS e.2 := by
    unfold recP
    have : hexS e.1 ++ [32] ++ hexS e.2 ++ [32] ++ hexS (manyS [hexS e.1, hexS e.2]) ++ [10] = (hexS e.1 ++ [32]) ++ (hexS e.2 ++ ([32] ++ hexS (manyS [hexS e.1, hexS e.2]) ++ [10])) := by simp only [List.append_assoc]
    rw [this, List.drop_left' (by simp [h1]), List.take_left' h2]
  unfold oneP
  rw [e1, e2, parS_hex _ h.1, parS_hex _ h.2]
  simp
theorem one_M {s : List UInt8} {K : List UInt8 → List UInt8 → Bool → Prop} (hs : 129 ≤ s.length) (h1 : ∀ k o, oneP s = some (k, o) → K k o true) (h0 : oneP s = none → ∀ k o, K k o false) : M_cache_one s K := by
  have hcut : (s.drop 65).take (129 - 65) = (s.drop 65).take 64 := rfl
  refine ⟨⟨by omega, by omega⟩, ?_⟩
  have key : ∀ k e, (parS (s.take 64) = some k ∧ e = Er.ok ∨ parS (s.take 64) = none ∧ e = .e 12) → (0 ≤ (65 : Int) ∧ (65 : Int) ≤ (129 : Int) ∧ (129 : Int) ≤ s.length) ∧ M_sha_Parse ((s.drop 65).take (129 - 65)) (fun (t180 : List UInt8) (t181 : Er) =>
      ∃ J1 : Bool → Prop, (((((decide (e = Er.ok)) && (decide (t181 = Er.ok))) = true → M_cache_Record k t180 (fun (t33 : List UInt8) => J1 (decide (t33 = s)))) ∧ (((decide (e = Er.ok)) && (decide (t181 = Er.ok))) = false → J1 false))) ∧ (∀ q2 : Bool, J1 q2 → K k t180 q2)) := by
    intro k e hk
    refine ⟨⟨by omega, by omega, by omega⟩, fun o ho => ?_, fun ho => ?_⟩
    · rcases hk with ⟨hk, rfl⟩ | ⟨hk, rfl⟩
      · refine ⟨fun b => b = decide (recP (k, o) = s), ⟨fun _ => record_M ⟨parS_len hk, parS_len ho⟩ rfl, fun h => by simp at h⟩, fun q hq => ?_⟩
        rw [hq]
        rw [hcut] at ho
        by_cases hr : recP (k, o) = s
        · rw [decide_eq_true hr]
          refine h1 k o ?_
          unfold oneP
          rw [hk, ho]
          simp [hr]
        · rw [decide_eq_false hr]
          refine h0 ?_ k o
          unfold oneP
          rw [hk, ho]
          simp [hr]
      · refine ⟨fun b => b = false, ⟨fun h => by simp at h, fun _ => rfl⟩, fun q hq => ?_⟩
        rw [hq]
        refine h0 ?_ k o
        unfold oneP
        rw [hk]
    · refine ⟨fun b => b = false, ⟨fun h => by simp at h, fun _ => rfl⟩, fun q hq => ?_⟩
      rw [hq]
      rw [hcut] at ho
      refine h0 ?_ k _
      unfold oneP
      rw [ho]
      cases parS (s.take 64) <;> rfl
  exact ⟨fun k hk => key k .ok (.inl ⟨hk, rfl⟩), fun hk => key _ _ (.inr ⟨hk, rfl⟩)⟩
/-- the records that a text begins with -/
def readP (s : List UInt8) : List Ent :=
  if h : 195 ≤ s.length then
    match oneP (s.take 195) with
    | some e => e :: readP (s.drop 195)
    | none => []
  else []
 termination_by s.length
 decreasing_by simp; omega
theorem readP_short {s : List UInt8} (h : s.length < 195) : readP s = [] := by
  unfold readP
  rw [dif_neg (by omega)]
theorem readP_some {s : List UInt8} {e : Ent} (h : 195 ≤ s.length) (ho : oneP (s.take 195) = some e) : readP s = e :: readP (s.drop 195) := by
  conv => lhs; unfold readP
  rw [dif_pos h, ho]
theorem readP_none {s : List UInt8} (ho : oneP (s.take 195) = none) : readP s = [] := by
  unfold readP
  split
  · rw [ho]
  · rfl
theorem readP_rec {e : Ent} (h : Ok32 e) (s : List UInt8) : readP (recP e ++ s) = e :: readP s := by
  have hl := recP_len h
  rw [readP_some (e := e) (by rw [List.length_append]; omega) (by rw [List.take_left' hl]; exact oneP_of h), List.drop_left' hl]
/-- a journal's text -/
def jrn (l : List Ent) : List UInt8 := l.flatMap recP
theorem jrn_len : ∀ {l : List Ent}, (∀ e ∈ l, Ok32 e) → (jrn l).length = 195 * l.length
  | [], _ => rfl
  | e :: l, h => by
    have ih := jrn_len (l := l) fun x hx => h x (List.mem_cons_of_mem _ hx)
    unfold jrn at *
    rw [List.flatMap_cons, List.length_append, recP_len (h e List.mem_cons_self), ih, List.length_cons]
    omega
theorem jrn_app (a b : List Ent) : jrn (a ++ b) = jrn a ++ jrn b := by unfold jrn; rw [List.flatMap_append]
theorem readP_jrn : ∀ {l : List Ent} (s : List UInt8), (∀ e ∈ l, Ok32 e) → readP (jrn l ++ s) = l ++ readP s
  | [], s, _ => rfl
  | e :: l, s, h => by
    have ih := readP_jrn (l := l) s fun x hx => h x (List.mem_cons_of_mem _ hx)
    unfold jrn at *
    rw [List.flatMap_cons, List.append_assoc, readP_rec (h e List.mem_cons_self), ih]
    rfl
theorem readP_ok : ∀ (n : Nat) (s : List UInt8), s.length ≤ n → (∀ e ∈ readP s, Ok32 e) ∧ 195 * (readP s).length ≤ s.length
  | n, s, hn => by
    by_cases h : 195 ≤ s.length
    · cases ho : oneP (s.take 195) with
      | none => rw [readP_none ho]; simp
      | some e =>
        match n, hn with
        | 0, hn => omega
        | n + 1, hn =>
          obtain ⟨h1, h2⟩ := readP_ok n (s.drop 195) (by rw [List.length_drop]; omega)
          rw [readP_some h ho]
          refine ⟨fun x hx => ?_, ?_⟩
          · rcases List.mem_cons.1 hx with rfl | hx
            · exact (oneP_rec ho).2
            · exact h1 x hx
          · rw [List.length_drop] at h2
            rw [List.length_cons]
            omega
    · rw [readP_short (by omega)]; simp
theorem cread_M {text : List UInt8} {K : List Ent → Int → Prop} (ht : text.length ≤ 100000000) (h : K (readP text) (195 * (readP text).length : Nat)) : M_cache_Read text K := by
  refine ⟨fun l n => l = readP text ∧ n = ((195 * (readP text).length : Nat) : Int), ?_, fun l n ⟨e1, e2⟩ => by rw [e1, e2]; exact h⟩
  refine ⟨fun l n => n = ((195 * l.length : Nat) : Int) ∧ n ≤ text.length ∧ l ++ readP (text.drop (195 * l.length)) = readP text, fun _ n => text.length - n.toNat, ⟨by simp, by omega, by simp⟩, fun l n ⟨a0, a1, a2⟩ => ⟨by simp only [In]; omega, fun hle => ?_, fun hgt => ?_⟩⟩
  · have hn : n.toNat = 195 * l.length := by omega
    have hcut : (text.drop n.toNat).take ((n + 195).toNat - n.toNat) = (text.drop (195 * l.length)).take 195 := by rw [hn]; congr 1; omega
    have hlen : 195 ≤ (text.drop (195 * l.length)).length := by rw [List.length_drop]; omega
    refine ⟨by simp only [In]; omega, ⟨by omega, by omega, by omega⟩, ?_⟩
    rw [hcut]
    refine one_M (by rw [List.length_take]; omega) (fun k o ho => ⟨fun hf => (by cases hf), fun _ => ⟨?_, by simp only [In]; omega, ⟨?_, by omega, ?_⟩, by (try dsimp only); omega⟩⟩) (fun ho k o => ⟨fun _ => ?_, fun hf => (by cases hf)⟩)
    · simp only [List.length_cons, List.length_nil]; omega
    · simp only [List.length_append, List.length_cons, List.length_nil]; omega
    · rw [readP_some hlen ho, List.drop_drop] at a2
      rw [← a2, List.append_assoc]
      simp only [List.length_append, List.length_cons, List.length_nil]
      rw [show 195 * (l.length + (0 + 1)) = 195 * l.length + 195 by omega]
      rfl
    · rw [readP_none ho, List.append_nil] at a2
      exact ⟨a2, by rw [← a2]; exact a0⟩
  · rw [readP_short (by rw [List.length_drop]; omega), List.append_nil] at a2
    exact ⟨a2, by rw [← a2]; exact a0⟩
/-- entries laid into a map, one behind the other -/
def layE (l : List Ent) (m : List Ent) : List Ent := l.foldl (fun m e => mput m e.1 e.2) m
theorem mput_len_le (m : List Ent) (k v : List UInt8) : (mput m k v).length ≤ m.length + 1 := by rw [mput_len]; split <;> omega
theorem layE_len : ∀ (l m : List Ent), (layE l m).length ≤ m.length + l.length
  | [], m => Nat.le_refl _
  | e :: l, m => by
    have h1 := layE_len l (mput m e.1 e.2)
    have h2 := mput_len_le m e.1 e.2
    show (layE l (mput m e.1 e.2)).length ≤ _
    rw [List.length_cons]; omega
theorem layE_app (a b m : List Ent) : layE (a ++ b) m = layE b (layE a m) := List.foldl_append
/-- opening: what is left when the last loop has laid the entries -/
theorem lay_loop {es : List Ent} {p : List UInt8} {fs : DF} {ops left : Int} {down : Bool} {K : List UInt8 → List Ent → Er → DF → Int → Int → Bool → Prop} (hes : ∀ e ∈ es, Ok32 e) (hl : es.length ≤ 1000000) (h : K p (layE es []) .ok fs ops left down) :
    Lp2 (fun (t57 : Int) (t542 : List (List UInt8 × List UInt8)) kont1 => ((t57 < (es.length : Int) → (0 ≤ t57 ∧ t57 < (es.length : Nat)) ∧ (((es.getD t57.toNat ([], [])).1).length = 32 ∧ t542.length < maxLen) ∧ (In .i64 (t57 + (1 : Int))) ∧ kont1 (t57 + (1 : Int)) (mput t542 ((es.getD t57.toNat ([], [])).1) ((es.getD t57.toNat ([], [])).2))) ∧
      (¬ (t57 < (es.length : Int)) → K p t542 Er.ok fs ops left down))) (0 : Int) ([] : List (List UInt8 × List UInt8)) := by
  refine ⟨fun i m => 0 ≤ i ∧ i ≤ es.length ∧ m = layE (es.take i.toNat) [], fun i _ => es.length - i.toNat, ⟨by omega, by omega, rfl⟩, fun i m ⟨a0, a1, a2⟩ => ⟨fun hlt => ?_, fun hge => ?_⟩⟩
  · have hi : i.toNat < es.length := by omega
    have e : es.getD i.toNat ([], []) = es[i.toNat] := by simp [List.getD, hi]
    have hm := layE_len (es.take i.toNat) []
    rw [← a2, List.length_take] at hm
    simp only [List.length_nil] at hm
    rw [e]
    refine ⟨⟨a0, hlt⟩, ⟨(hes _ (List.getElem_mem hi)).1, by unfold maxLen; omega⟩, by simp only [In]; omega, ⟨by omega, by omega, ?_⟩, by (try dsimp only); omega⟩
    rw [show (i + 1).toNat = i.toNat + 1 by omega, List.take_succ_eq_append_getElem hi, layE_app, ← a2]
    rfl
  · obtain rfl : i = es.length := by omega
    rw [a2]
    simpa using h
end Go.Proofs.YtlonpmajnglmoaaDoor


 /- A cache, plainly: opened, put, risen. -/
namespace Go.Proofs.YtlonpmajnglmoaaDoor
open Go Go.RowKit
theorem numV_M {n below : Int} {K : Int → Prop} (hn : In .i64 n) (hb : 0 < below) (hb2 : below ≤ 100000) (h : K ((n.tmod below + below) % below)) : M_smithyworld_Number n below K := by
  unfold M_smithyworld_Number
  have h1 := Int.tmod_lt_of_pos n hb
  have h2 := Int.lt_tmod_of_pos n hb
  simp only [In] at hn
  refine ⟨by omega, by simp only [In]; omega, by omega, ?_⟩
  have h3 : 0 ≤ n.tmod below + below := by omega
  rw [Int.tmod_eq_emod_of_nonneg h3]
  exact h
/-! ### names and their digests -/
def nix (n : Int) : Nat := ((n.tmod 12 + 12) % 12).toNat
theorem nix_lt (n : Int) : nix n < 12 := by unfold nix; generalize n.tmod 12 = m; omega
theorem nix_of {k : Int} (h0 : 0 ≤ k) (h : k < 12) : nix k = k.toNat := by
  unfold nix
  rw [Int.tmod_eq_emod_of_nonneg h0]; omega
def nm12 (k : Nat) : List UInt8 := [110, UInt8.ofNat (97 + k)]
theorem nm12_cut : ∀ k, k < 12 → ([110] : List UInt8) ++ ((([97, 98, 99, 100, 101, 102, 103, 104, 105, 106, 107, 108] : List UInt8).drop k).take 1) = nm12 k := by decide
theorem name_M {n : Int} {K : List UInt8 → Prop} (hn : In .i64 n) (h : K (nm12 (nix n))) : M_smithylaw25_name n K := by
  have hx := nix_lt n
  have e : ((n.tmod 12 + 12) % 12) = (nix n : Int) := by unfold nix; generalize n.tmod 12 = m; omega
  refine numV_M hn (by omega) (by omega) (numV_M hn (by omega) (by omega) ?_)
  rw [e]
  generalize nix n = k at *
  refine ⟨by simp only [In]; omega, ⟨by omega, by omega, by simp only [List.length_cons, List.length_nil]; omega⟩, by simp only [List.length_cons, List.length_nil, List.length_take, List.length_drop]; omega, ?_⟩
  rw [show ((k : Int) + 1).toNat - (k : Int).toNat = 1 by omega, Int.toNat_natCast, nm12_cut k hx]
  exact h
def Dg (k : Nat) : List UInt8 := shaS (nm12 k)
theorem Dg_len (k : Nat) : (Dg k).length = 32 := shaS_len _
theorem Dg_heads : (List.range 12).map (fun k => (Dg k).headD 0) = [61, 102, 11, 5, 203, 76, 213, 50, 77, 209, 207, 24] := by kernel_rfl
theorem Dg_inj {j k : Nat} (hj : j < 12) (hk : k < 12) (h : Dg j = Dg k) : j = k := by
  have e : ∀ i, i < 12 → (Dg i).headD 0 = ([61, 102, 11, 5, 203, 76, 213, 50, 77, 209, 207, 24] : List UInt8).getD i 0 := by
    intro i hi
    rw [← Dg_heads]
    simp [List.getD, hi]
  have h2 : ∀ j, j < 12 → ∀ k, k < 12 → ([61, 102, 11, 5, 203, 76, 213, 50, 77, 209, 207, 24] : List UInt8).getD j 0 = ([61, 102, 11, 5, 203, 76, 213, 50, 77, 209, 207, 24] : List UInt8).getD k 0 → j = k := by decide
  exact h2 j hj k hk (by rw [← e j hj, ← e k hk, h])
theorem src_M {t : List UInt8} {K : List UInt8 → Prop} (ht : t.length ≤ 1000) (h : K (shaS t)) : M_key_Source t K := ⟨by unfold maxLen; omega, by omega, h⟩
theorem srcN_M {k : Nat} {K : List UInt8 → Prop} (h : K (Dg k)) : M_key_Source (nm12 k) K := src_M (by simp [nm12]) h
theorem sameD_M {a b : List UInt8} {K : Bool → Prop} (ha : a.length = 32) (e : a = b) (h : K true) : M_smithyref17_SameSum a b K := by
  subst e
  exact sameSum_M ha ha (by simpa using h)
attribute [local irreducible] shaS manyS hexS
/-! ### opened -/
def openF (fs : DF) (p : List UInt8) : DF :=
  if 195 * (readP (dtext fs p)).length < (dtext fs p).length then mput fs p ((dtext fs p).take (195 * (readP (dtext fs p)).length), true, (dtext fs p).take (195 * (readP (dtext fs p)).length), true, []) else fs
theorem open0_M {fs : DF} {p : List UInt8} {ops : Int} {K0 : Er → DF → Int → Int → Bool → Prop} {K : List UInt8 → List Ent → Er → DF → Int → Int → Bool → Prop} (hp : p.length ≤ 1000) (hv : validB p = true) (h0 : 0 ≤ ops) (h1 : ops ≤ 1000000) (hf : fs.length < 2000) (ht : (dtext fs p).length ≤ 65536) (hx : (fil fs p).1.length ≤ 1000000) (hs : (fil fs p).2.2.2.2.length ≤ 100000)
    (h : ∀ ops', ops ≤ ops' → ops' ≤ ops + 3 → K p (layE (readP (dtext fs p)) []) .ok (openF fs p) ops' 0 false) : M_cache_Open fs ops 0 false p K0 K := by
  have hr := readP_ok _ (dtext fs p) (Nat.le_refl _)
  refine dread0_M (by unfold maxLen; omega) h0 (by omega) ⟨fun hne => absurd rfl hne, fun _ => ?_⟩
  refine cread_M (by omega) ?_
  refine ⟨fun fs' o l d => fs' = openF fs p ∧ ops + 1 ≤ o ∧ o ≤ ops + 3 ∧ l = 0 ∧ d = false, ⟨fun hlt => ⟨⟨by omega, by omega⟩, ?_⟩, fun hge => ?_⟩, fun fs' o l d ⟨e1, e2, e3, e4, e5⟩ => ?_⟩
  · rw [Int.toNat_natCast]
    refine put0_M (by omega) (by omega) (by omega) (by omega) (by rw [List.length_take]; omega) hx (by omega) ?_
    rw [dlay_ok hv hf (by rw [if_neg (by omega), List.length_take]; omega), if_neg (by omega)]
    refine ⟨fun hne => absurd rfl hne, fun _ => ?_⟩
    refine sync0_M (by omega) (by omega) (by omega) ?_
    have e1 : ∀ s w l, dsync (mput fs p ((dtext fs p).take (195 * (readP (dtext fs p)).length), true, s, w, l)) p = (.ok, mput fs p ((dtext fs p).take (195 * (readP (dtext fs p)).length), true, (dtext fs p).take (195 * (readP (dtext fs p)).length), true, [])) := by
      intro s w l
      unfold dsync
      rw [if_neg (by rw [hv]; simp), mget_same, fil_put, if_pos rfl, mput_mput]; rfl
    rw [e1]
    refine ⟨fun hne => absurd rfl hne, fun _ => ⟨?_, by omega, by omega, rfl, rfl⟩⟩
    unfold openF
    rw [if_pos (by omega)]
  · refine ⟨?_, by omega, by omega, rfl, rfl⟩
    unfold openF
    rw [if_neg (by omega)]
  · subst e4; subst e5; subst e1
    exact lay_loop hr.1 (by omega) (h o (by omega) e3)
/-! ### put -/
theorem mget_in {m : List Ent} {k v : List UInt8} (h : mget m k = some v) : (k, v) ∈ m := by
  induction m with
  | nil => simp [mget] at h
  | cons p m ih =>
    unfold mget at h
    split at h
    · rename_i e; simp only [Option.some.injEq] at h; rw [← h, ← e]; simp
    · exact List.mem_cons_of_mem _ (ih h)
theorem cput_M {fs fs2 : DF} {ops left : Int} {down : Bool} {p k out : List UInt8} {l : List Ent} {K : Er → List UInt8 → List Ent → DF → Int → Int → Bool → Prop} (hk : k.length = 32) (ho : out.length = 32) (hll : l.length ≤ 1000000) (hls : ∀ e ∈ l, Ok32 e) (h0 : 0 ≤ ops) (h1 : ops ≤ 1000000) (hl : left ≤ 1000000) (hp : p.length ≤ 1000) (hf : fs.length ≤ 1000) (hx : (fil fs p).1.length ≤ 1000000) (hs : (fil fs p).2.2.2.2.length ≤ 1000000) (hd : dlay fs p (recP (k, out)) 1 = (.ok, fs2))
    (hsame : mget l k = some out → K .ok p l fs ops left down)
    (hnew : mget l k ≠ some out → ∀ o l' d, (∀ e, dcall ops left down = (e, o, l', d) → e ≠ .ok → K e p l fs o l' d) ∧ (dcall ops left down = (.ok, o, l', d) → K .ok p (mput l k out) fs2 o l' d)) : M_pcache_Cache_Put fs ops left down p l k out K := by
  refine ⟨hk, fun hi => ⟨?_, ho⟩, fun hb => ?_, fun hb => ?_⟩
  · obtain ⟨v, hv⟩ := Option.isSome_iff_exists.1 hi
    rw [hv]; exact (hls (k, v) (mget_in hv)).2
  · rw [Bool.and_eq_true, decide_eq_true_eq] at hb
    refine hsame ?_
    obtain ⟨v, hv⟩ := Option.isSome_iff_exists.1 hb.1
    rw [hv] at hb ⊢
    simpa using hb.2
  · refine record_M ⟨hk, ho⟩ ?_
    have hne : mget l k ≠ some out := fun e => by rw [e] at hb; simp at hb
    refine put_M (by omega) h0 (by omega) (by omega) (by omega) (by rw [recP_len ⟨hk, ho⟩]; omega) hx hs fun o l' d => ⟨fun e he hn => ⟨fun _ => (hnew hne o l' d).1 e he hn, fun h => absurd h hn⟩, fun he => ?_⟩
    rw [hd]
    exact ⟨fun h => absurd rfl h, fun _ => ⟨⟨hk, by unfold maxLen; omega⟩, (hnew hne o l' d).2 he⟩⟩
/-! ### the journal's file -/
theorem jrn_snoc (l : List Ent) (e : Ent) : jrn (l ++ [e]) = jrn l ++ recP e := by
  rw [jrn_app]
  unfold jrn
  rw [List.flatMap_cons, List.flatMap_nil, List.append_nil]
def chg (e : Ent) : Int × List UInt8 := (1, recP e)
def jf (p : List UInt8) (sl rl : List Ent) (w : Bool) : DF := [(p, (jrn (sl ++ rl), true, jrn sl, w, rl.map chg))]
/-- the journal's file holds sl (let last) and rl behind it -/
def JS (fs : DF) (p : List UInt8) (sl rl : List Ent) : Prop := (fs = [] ∧ sl = [] ∧ rl = []) ∨ ∃ w, fs = jf p sl rl w ∧ (w = false → sl = [])
theorem fil_one (p : List UInt8) (x : Fil) : fil [(p, x)] p = x := by simp [fil, mget]
theorem JS.len {fs : DF} {p : List UInt8} {sl rl : List Ent} (h : JS fs p sl rl) : fs.length ≤ 1 := by
  rcases h with ⟨rfl, _, _⟩ | ⟨w, rfl, _⟩ <;> simp [jf]
theorem JS.fil1 {fs : DF} {p : List UInt8} {sl rl : List Ent} (h : JS fs p sl rl) : (fil fs p).1 = jrn (sl ++ rl) := by
  rcases h with ⟨rfl, rfl, rfl⟩ | ⟨w, rfl, _⟩
  · rfl
  · unfold jf; rw [fil_one]
theorem JS.since {fs : DF} {p : List UInt8} {sl rl : List Ent} (h : JS fs p sl rl) : (fil fs p).2.2.2.2 = rl.map chg := by
  rcases h with ⟨rfl, rfl, rfl⟩ | ⟨w, rfl, _⟩
  · rfl
  · unfold jf; rw [fil_one]
theorem JS.text {fs : DF} {p : List UInt8} {sl rl : List Ent} (h : JS fs p sl rl) : dtext fs p = jrn (sl ++ rl) := by
  rcases h with ⟨rfl, rfl, rfl⟩ | ⟨w, rfl, _⟩
  · rfl
  · unfold dtext thereB jf; rw [fil_one, if_pos rfl]
theorem JS.put {fs : DF} {p : List UInt8} {sl rl : List Ent} {e : Ent} (h : JS fs p sl rl) (hv : validB p = true) (ho : ∀ x ∈ sl ++ rl, Ok32 x) (he : Ok32 e) (hl : (sl ++ rl).length ≤ 100) : ∃ fs2, dlay fs p (recP e) 1 = (.ok, fs2) ∧ JS fs2 p sl (rl ++ [e]) := by
  have h1 := recP_len he
  have h2 := jrn_len ho
  have h3 := h.len
  have h4 := h.fil1
  rw [dlay_ok hv (by omega) (by rw [h4]; split <;> (try rw [List.length_append]) <;> omega)]
  refine ⟨_, rfl, ?_⟩
  rcases h with ⟨rfl, rfl, rfl⟩ | ⟨w, rfl, hw⟩
  · refine .inr ⟨false, ?_, fun _ => rfl⟩
    show [(p, (if (1 : Int) = 1 ∧ thereB [] p = true then _ else recP e, true, ([] : List UInt8), false, [((1 : Int), recP e)]))] = _
    rw [if_neg (by rintro ⟨_, h⟩; cases h)]
    have : jrn [e] = recP e := jrn_snoc [] e
    unfold jf
    show _ = [(p, (jrn [e], _))]
    rw [this]; rfl
  · refine .inr ⟨w, ?_, hw⟩
    have ht : thereB (jf p sl rl w) p = true := by unfold thereB jf; rw [fil_one]
    have hf : fil (jf p sl rl w) p = (jrn (sl ++ rl), true, jrn sl, w, rl.map chg) := fil_one _ _
    rw [if_pos ⟨rfl, ht⟩, hf]
    unfold jf
    rw [← List.append_assoc, jrn_snoc, List.map_append]
    simp [mput, chg]
/-! ### the chapter's example -/
theorem dcall0 (ops : Int) : dcall ops 0 false = (.ok, ops + 1, 0, false) := by simp [dcall]
theorem js_nil (p : List UInt8) : JS [] p [] [] := .inl ⟨rfl, rfl, rfl⟩
theorem open_js {fs : DF} {p : List UInt8} {ops : Int} {sl rl : List Ent} {K0 : Er → DF → Int → Int → Bool → Prop} {K : List UInt8 → List Ent → Er → DF → Int → Int → Bool → Prop} (hj : JS fs p sl rl) (ho : ∀ x ∈ sl ++ rl, Ok32 x) (hl : (sl ++ rl).length ≤ 100) (hp : p.length ≤ 1000) (hv : validB p = true) (h0 : 0 ≤ ops) (h1 : ops ≤ 1000000)
    (h : ∀ ops', ops ≤ ops' → ops' ≤ ops + 3 → K p (layE (sl ++ rl) []) .ok fs ops' 0 false) : M_cache_Open fs ops 0 false p K0 K := by
  have h3 := hj.len
  have h4 := jrn_len ho
  have ht := hj.text
  have hr : readP (dtext fs p) = sl ++ rl := by
    have := readP_jrn [] ho
    rw [List.append_nil, readP_short (s := []) (by simp), List.append_nil] at this
    rw [ht, this]
  have hop : openF fs p = fs := by
    unfold openF
    rw [hr, ht, h4, if_neg (by omega)]
  rw [List.length_append] at hl h4
  refine open0_M hp hv h0 h1 (by omega) (by rw [ht]; omega) (by rw [hj.fil1]; omega) (by rw [hj.since, List.length_map]; omega) fun ops' g1 g2 => ?_
  rw [hr, hop]
  exact h ops' g1 g2
theorem cfirst_M {K : Bool → Prop} (h : K true) : M_smithylaw25_first K := by
  have vj : validB ([106] : List UInt8) = true := by decide +kernel
  refine new0_M ⟨fun h => absurd rfl h, fun _ => ?_⟩
  refine open_js (js_nil _) (by simp) (by simp) (by simp) vj (by omega) (by omega) fun ops o0 o1 => ⟨fun h => absurd rfl h, fun _ => ?_⟩
  refine src_M (by simp) (src_M (by simp) ?_)
  have oe : Ok32 (shaS [97], shaS [98]) := ⟨shaS_len _, shaS_len _⟩
  obtain ⟨fs2, hd, hj⟩ := (js_nil [106]).put (e := (shaS [97], shaS [98])) vj (by simp) oe (by simp)
  have ho : ∀ x ∈ ([] : List Ent) ++ ([] ++ [(shaS [97], shaS [98])]), Ok32 x := by simpa using oe
  have hlen := jrn_len ho
  have hf2 := hj.fil1
  have hs2 := hj.since
  have hl2 := hj.len
  refine cput_M (shaS_len _) (shaS_len _) (by simp [layE]) (by simp [layE]) (by omega) (by omega) (by omega) (by simp) (by simp) (by simp [fil, mget, fz]) (by simp [fil, mget, fz]) hd (fun h => (by simp [layE, mget] at h)) fun _ o l' d => ⟨fun e he hn => ?_, fun he => ?_⟩
  · rw [dcall0] at he
    simp only [Prod.mk.injEq] at he
    exact absurd he.1.symm hn
  · rw [dcall0] at he
    simp only [Prod.mk.injEq, true_and] at he
    obtain ⟨rfl, rfl, rfl⟩ := he
    refine src_M (by simp) (src_M (by simp) ?_)
    have hm : mput (layE ([] ++ []) []) (shaS [97]) (shaS [98]) = [(shaS [97], shaS [98])] := rfl
    rw [hm]
    obtain ⟨fs3, hd3, _⟩ := hj.put (e := (shaS [97], shaS [98])) vj ho oe (by simp)
    refine cput_M (shaS_len _) (shaS_len _) (by simp) (by simpa using oe) (by omega) (by omega) (by omega) (by simp) (by omega) (by rw [hf2, hlen]; simp) (by rw [hs2]; simp) hd3 (fun _ => ?_) (fun hne => absurd (by simp [mget]) hne)
    refine dread0_M (by simp [maxLen]) (by omega) (by omega) ?_
    have ht : thereB fs2 [106] = true := by
      rcases hj with ⟨_, _, h⟩ | ⟨w, rfl, _⟩
      · simp at h
      · unfold thereB jf; rw [fil_one]
    rw [hj.text, ht]
    refine ⟨fun b => b = true, ⟨fun _ => ?_, fun hf => ?_⟩, fun q hq => by rw [hq]; exact h⟩
    · show decide _ = true
      simp
    · rw [hlen] at hf
      simp at hf
end Go.Proofs.YtlonpmajnglmoaaDoor


 /- CacheLast, plainly. -/
namespace Go.Proofs.YtlonpmajnglmoaaDoor
open Go Go.RowKit
attribute [local irreducible] shaS manyS hexS Dg recP
theorem wf_in {x : Int} (h : (Lit.int .i64 x).wf = true) : In .i64 x := by simpa [Lit.wf, In, IntKind.min, IntKind.max, IntKind.signed, IntKind.bits] using h
theorem wrap_in (z : Int) : In .i64 (IntKind.wrap .i64 z) := by
  have h : IntKind.wrap .i64 z = if 9223372036854775808 ≤ z % 18446744073709551616 then z % 18446744073709551616 - 18446744073709551616 else z % 18446744073709551616 := by
    simp [IntKind.wrap, IntKind.bits, IntKind.signed]
  rw [h]
  have h1 : 0 ≤ z % 18446744073709551616 := by omega
  have h2 : z % 18446744073709551616 < 18446744073709551616 := by omega
  clear h
  generalize z % 18446744073709551616 = m at *
  simp only [In]
  split <;> omega
theorem layE_mem : ∀ {l m : List Ent} {e : Ent}, e ∈ layE l m → e ∈ l ∨ e ∈ m
  | [], m, e, h => .inr h
  | x :: l, m, e, h => by
    rcases layE_mem (l := l) (m := mput m x.1 x.2) h with h | h
    · exact .inl (List.mem_cons_of_mem _ h)
    · rcases mput_mem h with h | h
      · exact .inl (by rw [h]; exact List.mem_cons_self)
      · exact .inr h
theorem layE_ok {l : List Ent} (h : ∀ e ∈ l, Ok32 e) : ∀ e ∈ layE l [], Ok32 e := fun e he => by
  rcases layE_mem he with h1 | h1
  · exact h e h1
  · simp at h1
theorem layE_snoc (l : List Ent) (k v : List UInt8) : layE (l ++ [(k, v)]) [] = mput (layE l []) k v := layE_app l [(k, v)] []
def cnt (a : List Int) : Nat → Nat
  | 0 => 0
  | m + 1 => cnt a m + if 0 ≤ a.getD m 0 then 1 else 0
theorem cnt_le (a : List Int) : ∀ m, cnt a m ≤ m
  | 0 => Nat.le_refl _
  | m + 1 => by
    have := cnt_le a m
    unfold cnt
    split <;> omega
theorem cnt_same {a b : List Int} : ∀ m, (∀ j, j < m → (0 ≤ a.getD j 0 ↔ 0 ≤ b.getD j 0)) → cnt a m = cnt b m
  | 0, _ => rfl
  | m + 1, h => by
    have h1 := cnt_same m fun j hj => h j (by omega)
    have h2 := h m (by omega)
    unfold cnt
    rw [h1]
    simp only [h2]
theorem cnt_set {a : List Int} {k : Nat} {v : Int} (hv : 0 ≤ v) : ∀ m, m ≤ a.length → cnt (a.set k v) m = if k < m ∧ ¬ 0 ≤ a.getD k 0 then cnt a m + 1 else cnt a m
  | 0, _ => by rw [if_neg (fun h => absurd h.1 (Nat.not_lt_zero _))]; rfl
  | m + 1, h => by
    have ih := cnt_set (a := a) (k := k) hv m (by omega)
    unfold cnt
    rw [ih]
    by_cases hkm : k = m
    · subst hkm
      rw [getD_setF (show k < a.length by omega), if_pos rfl, if_pos hv, if_neg (fun h => absurd h.1 (Nat.lt_irrefl _))]
      by_cases h0 : 0 ≤ a.getD k 0
      · rw [if_pos h0, if_neg (fun h => h.2 h0)]
      · rw [if_neg h0, if_pos ⟨by omega, h0⟩]
    · have e : (a.set k v).getD m 0 = a.getD m 0 := by
        by_cases hk : k < a.length
        · rw [getD_setF hk, if_neg hkm]
        · rw [List.set_eq_of_length_le (show a.length ≤ k by omega)]
      rw [e]
      by_cases h1 : k < m ∧ ¬ 0 ≤ a.getD k 0
      · have h2 : k < m + 1 ∧ ¬ 0 ≤ a.getD k 0 := ⟨by omega, h1.2⟩
        rw [if_pos h1, if_pos h2]; omega
      · have h2 : ¬ (k < m + 1 ∧ ¬ 0 ≤ a.getD k 0) := fun h2 => h1 ⟨by omega, h2.2⟩
        rw [if_neg h1, if_neg h2]
/-- what the law keeps, and what the cache holds -/
structure LI (last : List Int) (cl log : List Ent) : Prop where
  l4 : last.length = 4
  rng : ∀ k, k < 4 → -1 ≤ last.getD k 0 ∧ last.getD k 0 < 3
  get : ∀ k, k < 4 → mget cl (Dg k) = if last.getD k 0 < 0 then none else some (Dg (last.getD k 0).toNat)
  len : cl.length = cnt last 4
  lay : cl = layE log []
  ok : ∀ e ∈ log, Ok32 e
theorem LI.at {last : List Int} {cl log : List Ent} (h : LI last cl log) {k v : Nat} (hk : k < 4) (hv : v < 3) : mget cl (Dg k) = some (Dg v) ↔ last.getD k 0 = v := by
  have hr := h.rng k hk
  rw [h.get k hk]
  constructor
  · intro e
    by_cases h0 : last.getD k 0 < 0
    · rw [if_pos h0] at e; cases e
    · rw [if_neg h0, Option.some.injEq] at e
      have := Dg_inj (by omega) (by omega) e
      omega
  · intro e
    rw [e, if_neg (by omega), Int.toNat_natCast]
theorem LI.put {last : List Int} {cl log : List Ent} (h : LI last cl log) {k v : Nat} (hk : k < 4) (hv : v < 3) : LI (last.set k v) (mput cl (Dg k) (Dg v)) (log ++ [(Dg k, Dg v)]) := by
  have hl := h.l4
  refine ⟨by rw [List.length_set, hl], fun j hj => ?_, fun j hj => ?_, ?_, ?_, fun e he => ?_⟩
  · rw [getD_setF (by omega)]
    split
    · omega
    · exact h.rng j hj
  · rw [getD_setF (by omega), mget_mput]
    by_cases e : k = j
    · subst e
      rw [if_pos rfl, if_pos rfl, if_neg (by omega), Int.toNat_natCast]
    · rw [if_neg (fun e2 => e (Dg_inj (by omega) (by omega) e2)), if_neg e]
      exact h.get j hj
  · rw [mput_len, h.get k hk, h.len, cnt_set (by omega) 4 (by omega)]
    by_cases h0 : last.getD k 0 < 0
    · have hc : k < 4 ∧ ¬ 0 ≤ last.getD k 0 := ⟨hk, by omega⟩
      rw [if_pos h0, if_pos hc]; rfl
    · have hc : ¬ (k < 4 ∧ ¬ 0 ≤ last.getD k 0) := fun h => h.2 (by omega)
      rw [if_neg h0, if_neg hc]; rfl
  · rw [layE_snoc, ← h.lay]
  · rcases List.mem_append.1 he with he | he
    · exact h.ok e he
    · rw [List.mem_singleton.1 he]; exact ⟨Dg_len _, Dg_len _⟩
theorem last_ok {l : List Int} {K : Bool → Prop} (hin : ∀ x ∈ l, (Lit.int .i64 x).wf = true) (H : K true) : M_smithylaw25_CacheLast l K := by
  have vj : validB ([97, 47, 106] : List UInt8) = true := by decide +kernel
  intro _
  refine cfirst_M ⟨fun h => by simp at h, fun _ => ⟨fun _ => H, fun h30 => ?_⟩⟩
  have hl30 : l.length ≤ 30 := by
    rw [Bool.or_eq_false_iff, decide_eq_false_iff_not] at h30; omega
  refine new0_M ⟨fun h => absurd rfl h, fun _ => ?_⟩
  refine open_js (js_nil _) (by simp) (by simp) (by simp) vj (by omega) (by omega) fun ops o0 o1 => ⟨fun h => absurd rfl h, fun _ => ?_⟩
  refine ⟨fun k a => 0 ≤ k ∧ k ≤ 4 ∧ a.length = 4 ∧ ∀ j, j < k.toNat → a.getD j 0 = -1, fun k _ => 4 - k.toNat, ⟨by omega, by omega, rfl, fun j hj => by simp at hj⟩, fun k a ⟨a0, a1, a2, a3⟩ => ⟨fun hlt => ⟨by omega, a2, by simp only [In]; omega, ⟨by omega, by omega, by rw [List.length_set, a2], fun j hj => ?_⟩, by (try dsimp only); omega⟩, fun hge => ?_⟩⟩
  · rw [getD_setF (by omega)]
    split
    · rfl
    · exact a3 j (by omega)
  · obtain rfl : k = 4 := by omega
    have hm1 : ∀ j, j < 4 → a.getD j 0 = -1 := fun j hj => a3 j (by omega)
    have li0 : LI a [] [] := by
      refine ⟨a2, fun j hj => by rw [hm1 j hj]; omega, fun j hj => by rw [hm1 j hj]; rfl, ?_, rfl, by simp⟩
      have e : cnt a 4 = cnt [-1, -1, -1, -1] 4 := cnt_same 4 fun j hj => by
        rw [hm1 j hj]
        match j, hj with
        | 0, _ => decide
        | 1, _ => decide
        | 2, _ => decide
        | 3, _ => decide
      rw [e]; decide
    refine ⟨fun changes i p cl fs ops left down last => 0 ≤ i ∧ i ≤ l.length ∧ p = [97, 47, 106] ∧ left = 0 ∧ down = false ∧ 0 ≤ ops ∧ ops ≤ 10 + i ∧ ∃ log, JS fs [97, 47, 106] [] log ∧ LI last cl log ∧ changes = log.length ∧ log.length ≤ i.toNat, fun _ i _ _ _ _ _ _ _ => l.length - i.toNat, ⟨by omega, by omega, rfl, rfl, rfl, by omega, by omega, [], js_nil _, li0, rfl, by simp⟩, fun changes i p cl fs ops left down last ⟨b0, b1, b2, b3, b4, b5, b6, log, c1, c2, c3, c4⟩ => ⟨fun hlt => ?_, fun hge => ?_⟩⟩
    · subst b2; subst b3; subst b4
      have hi : i.toNat < l.length := by omega
      have hx : In .i64 (l.getD i.toNat 0) := by
        rw [show l.getD i.toNat 0 = l[i.toNat] by simp [List.getD, hi]]
        exact wf_in (hin _ (List.getElem_mem hi))
      generalize l.getD i.toNat 0 = x at hx ⊢
      refine ⟨⟨b0, hlt⟩, numR_M hx (by omega) (by omega) fun k k0 k1 => ⟨⟨b0, hlt⟩, by omega, numR_M (wrap_in _) (by omega) (by omega) fun v v0 v1 => ?_⟩⟩
      have hl4 := c2.l4
      refine ⟨fun ch => ch = if last.getD k.toNat 0 = v then changes else changes + 1, ⟨by omega, hl4, fun hne => ⟨by simp only [In]; omega, by rw [if_neg hne]⟩, fun he => by rw [if_pos he]⟩, fun ch hch => ⟨by omega, hl4, name_M (by simp only [In]; omega) ?_⟩⟩
      rw [nix_of k0 (by omega)]
      refine srcN_M (name_M (by simp only [In]; omega) ?_)
      rw [nix_of v0 (by omega)]
      refine srcN_M ?_
      have hk4 : k.toNat < 4 := by omega
      have hv3 : v.toNat < 3 := by omega
      have hvv : (v.toNat : Int) = v := by omega
      have hjl := jrn_len (l := [] ++ log) c2.ok
      have hclen := c2.len
      have hcnt := cnt_le last 4
      obtain ⟨fs2, hd, hj⟩ := c1.put (e := (Dg k.toNat, Dg v.toNat)) vj c2.ok ⟨Dg_len _, Dg_len _⟩ (by rw [List.nil_append]; omega)
      have h1 := c1.len
      rw [List.nil_append] at hjl
      refine cput_M (Dg_len _) (Dg_len _) (by omega) (by rw [c2.lay]; exact layE_ok c2.ok) b5 (by omega) (by omega) (by simp) (by omega) (by rw [c1.fil1, List.nil_append]; omega) (by rw [c1.since, List.length_map]; omega) hd (fun hm => ⟨fun h => absurd rfl h, fun _ => ⟨by simp only [In]; omega, ⟨by omega, by omega, rfl, rfl, rfl, b5, by omega, log, c1, ?_, ?_, by omega⟩, by (try dsimp only); omega⟩⟩) (fun hm o l' d => ⟨fun e he hn => ?_, fun he => ?_⟩)
      · have he := (c2.at hk4 hv3).1 hm
        rw [hvv] at he
        rw [← he, set_same (by omega)]
        exact c2
      · have he := (c2.at hk4 hv3).1 hm
        rw [hvv] at he
        rw [hch, if_pos he]; exact c3
      · rw [dcall0] at he
        simp only [Prod.mk.injEq] at he
        exact absurd he.1.symm hn
      · rw [dcall0] at he
        simp only [Prod.mk.injEq, true_and] at he
        obtain ⟨rfl, rfl, rfl⟩ := he
        refine ⟨fun h => absurd rfl h, fun _ => ⟨by simp only [In]; omega, ⟨by omega, by omega, rfl, rfl, rfl, by omega, by omega, log ++ [(Dg k.toNat, Dg v.toNat)], hj, ?_, ?_, by rw [List.length_append, List.length_singleton]; omega⟩, by (try dsimp only); omega⟩⟩
        · have := c2.put hk4 hv3
          rw [hvv] at this
          exact this
        · have hne : ¬ last.getD k.toNat 0 = v := fun e => hm ((c2.at hk4 hv3).2 (by rw [hvv]; exact e))
          rw [hch, if_neg hne, c3, List.length_append, List.length_singleton]; omega
    · subst b2; subst b3; subst b4
      have hjl := jrn_len (l := [] ++ log) c2.ok
      have h1 := c1.len
      have hcl : layE ([] ++ log) [] = cl := c2.lay.symm
      refine dread0_M (by simp [maxLen]) b5 (by omega) ?_
      rw [c1.text]
      refine open_js c1 c2.ok (by rw [List.nil_append]; omega) (by simp) vj (by omega) (by omega) fun ops' o0 o1 => ⟨fun _ => by simp only [In]; omega, fun hb => ?_, fun _ => ?_⟩
      · exfalso
        rw [hjl, List.nil_append] at hb
        have e : ((195 * log.length : Nat) : Int) = 195 * changes := by omega
        rw [e] at hb
        simp at hb
      · rw [hcl]
        refine ⟨fun n k => 0 ≤ k ∧ k ≤ 4 ∧ n = cnt last k.toNat, fun _ k => 4 - k.toNat, ⟨by omega, by omega, rfl⟩, fun n k ⟨d0, d1, d2⟩ => ⟨fun hlt => ?_, fun hge => ?_⟩⟩
        · have hk4 : k.toNat < 4 := by omega
          have hg := c2.get _ hk4
          have hr := c2.rng _ hk4
          have hcn := cnt_le last k.toNat
          have hks : cnt last (k + 1).toNat = cnt last k.toNat + if 0 ≤ last.getD k.toNat 0 then 1 else 0 := by
            rw [show (k + 1).toNat = k.toNat + 1 by omega]; rfl
          refine ⟨fun n2 => n2 = cnt last (k + 1).toNat, name_M (by simp only [In]; omega) ?_, fun n2 hn2 => ⟨by simp only [In]; omega, ⟨by omega, by omega, hn2⟩, by (try dsimp only); omega⟩⟩
          rw [nix_of d0 (by omega)]
          refine srcN_M ⟨Dg_len _, name_M (by simp only [In]; omega) ?_⟩
          rw [nix_of d0 (by omega)]
          refine srcN_M ⟨Dg_len _, by omega, c2.l4, fun hb => ?_, fun _ => ⟨fun hi => ?_, fun hi => ?_⟩⟩
          · exfalso
            rw [hg] at hb
            by_cases h0 : last.getD k.toNat 0 < 0
            · rw [if_pos h0, decide_eq_false (by omega)] at hb; simp at hb
            · rw [if_neg h0, decide_eq_true (by omega)] at hb; simp at hb
          · have h0 : ¬ last.getD k.toNat 0 < 0 := fun h0 => by rw [hg, if_pos h0] at hi; simp at hi
            rw [if_neg h0] at hg
            rw [hg]
            refine ⟨by simp only [In]; omega, by omega, c2.l4, name_M (by simp only [In]; omega) ?_⟩
            rw [nix_of (by omega) (by omega)]
            refine srcN_M (sameD_M (Dg_len _) rfl ⟨fun b => b = false, ⟨fun h => by simp at h, fun _ => sameD_M (Dg_len _) rfl rfl⟩, fun q hq => ⟨fun h => (by rw [hq] at h; cases h), fun _ => ?_⟩⟩)
            rw [hks, if_pos (by omega), d2]; omega
          · have h0 : last.getD k.toNat 0 < 0 := Int.not_le.1 fun h0 => by rw [hg, if_neg (by omega)] at hi; simp at hi
            rw [hks, if_neg (by omega), d2]; omega
        · obtain rfl : k = 4 := by omega
          have hn : ((cl.length : Nat) : Int) = n := by rw [d2, c2.len]; rfl
          show ∃ J4 : Bool → Prop, _
          refine ⟨fun b => b = true, ⟨fun _ => ?_, fun hf => ?_⟩, fun q hq => by rw [hq]; exact H⟩
          · show decide ((cl.length : Int) = n) = true
            exact decide_eq_true hn
          · rw [decide_eq_true hn] at hf; cases hf
end Go.Proofs.YtlonpmajnglmoaaDoor


 